/- Layer 4: a reader of replies. -/
import Derived.Test.YtelflknhanpldaaDoorRep2
import Derived.Test.YtelflknhanpldaaDoorAbsW
import Derived.Test.YtelflknhanpldaaDoorAbsY
namespace Go.Abs.F
open Go Go.Abs
set_option maxRecDepth 10000
set_option maxHeartbeats 20000000
set_option linter.unusedSimpArgs false
set_option linter.unusedVariables false
variable {w0 : World}
/-- A reader of replies: what has come. -/
structure Rd (h : AH) (rid : Nat) (c : Int) (ls : List (List UInt8)) (tok : Tok) : Prop where
  obj : h.objs rid = some (.cells [.v (.int .i64 c), .list 1 (srows ls) tok])
  tok : TokU h tok
  lt : rid < h.n
theorem Rd.ext {h h' : AH} (e : Ext h h') {rid : Nat} {c : Int} {ls : List (List UInt8)} {tok : Tok} (k : Rd h rid c ls tok) : Rd h' rid c ls tok :=
  ⟨(e.objs rid k.lt).trans k.obj, k.tok.ext e, Nat.lt_of_lt_of_le k.lt e.n⟩
def feedS (c : Int) (ls : List (List UInt8)) (k : Int) (s : List UInt8) : (Int × List (List UInt8)) × (Int × List (List UInt8)) × Bool × Int :=
  match oneS k s with
  | none => ((0, []), (0, []), false, 2)
  | some (n, more, t) => if ls ≠ [] ∧ c ≠ n then ((0, []), (0, []), false, 2) else if more then ((n, ls ++ [t]), (0, []), false, 0) else ((0, []), (n, ls ++ [t]), true, 0)
theorem reply_New_call (h : AH) : Call P w0 reply_New [] h (fun v h' => v = .ptr h.n 0 ∧ h' = h.alloc (.cells [.v (.int .i64 0), .list 1 [] .full])) := by
  refine Call.bodyF b_reply_New rfl rfl ?_
  unfold c_reply_New
  repeat' (first
    | ((with_reducible apply opsF.op rfl); (case hs => exact tHS))
    | with_reducible (first | apply opsF.nil | apply seqF.nn | apply vcF.seq | apply vcF.region | apply vcF.dregion | apply vcF.skip | apply vcF.block | apply vcF.exit | apply vcF.ret | apply vcF.loop | apply seqF.e | apply seqF.r | apply blkF.nn | apply blkF.e | apply blkF.r | apply blkF.o rfl | apply dopsF.nil | apply stabsF.nil | apply stabsF.cons)
    | ((with_reducible apply opsF.call); (case hx => exact tAG))
    | ((with_reducible apply opsF.want); (case hg => exact tEV); (case hb => exact tNB))
    | ((with_reducible apply opsF.skip); (case hg => exact tEV); (case hb => exact tNB))
    | (first | ((with_reducible apply opsF.case); (case hg => exact tEV)) | ((with_reducible apply vcF.cond); (case hx => exact tEV)) | ((with_reducible apply dopsF.case); (case hg => exact tEV))) <;> ((intro hc; try simp only [Int.reduceLT, Int.reduceLE, Int.reduceEq, Int.reduceNe, Int.cast_ofNat_Int, Int.reduceNeg, decide_true, decide_false, not_true_eq_false, not_false_eq_true, decide_eq_true_eq, decide_eq_false_iff_not, Bool.not_eq_true', Bool.not_eq_false', Bool.not_true, Bool.not_false, Bool.false_eq_true, Bool.true_eq_false, Bool.not_eq_true, Bool.not_eq_false, beq_iff_eq, beq_eq_false_iff_ne, bne_iff_ne, bne_eq_false_iff_eq, ne_eq, Int.not_lt, Int.not_le, ge_iff_le, gt_iff_lt, Decidable.not_not, reduceCtorEq, *] at hc) <;> (try (exfalso; omega)))
    | ((with_reducible apply opsF.und); (case hg => rfl))
    | ((with_reducible apply opsF.callv); (case hf => exact tEV); (case hx => exact tCV))
    | ((with_reducible apply dopsF.op rfl); (case hs => exact tHS))
    | ((with_reducible apply dopsF.call); (case hx => exact tAG))
    | ((with_reducible apply dopsF.want); (case hg => exact tEV); (case hb => exact tNB))
    | ((with_reducible apply dopsF.skip); (case hg => exact tEV); (case hb => exact tNB))
    | ((with_reducible apply dopsF.und); (case hg => rfl))
    | ((with_reducible apply stabF.und); rfl)
    | ((with_reducible apply stabF.want); (case hg => exact tEV); (case hb => exact tNB))
    | ((with_reducible apply stabF.skip); (case hg => exact tEV); (case hb => exact tNB))
    | ((with_reducible apply stabF.op); (case hs => exact tHS); (case hv => exact tSV))
    | ((with_reducible apply retF.r); (case hv => exact tRS))
    | ((with_reducible apply retF.nn); (case hv => exact tRS)))
  all_goals exact ⟨rfl, rfl⟩
theorem feed_none (k : Int) (s : List UInt8) (h : AH) : Call P w0 reply_Reader_Feed [.v (.pointer none), .agg [.v (.int .i64 k), .v (.string (bs s))]] h
    (fun v h' => v = .tup [.agg [.v (.int .i64 0), .list 1 [] .full], .v (.bool false), .v (.int .i64 1)] ∧ Ext h h') := by
  refine Call.bodyF b_reply_Reader_Feed rfl rfl ?_
  unfold c_reply_Reader_Feed
  repeat' (first
    | ((with_reducible apply opsF.op rfl); (case hs => exact tHS))
    | with_reducible (first | apply opsF.nil | apply seqF.nn | apply vcF.seq | apply vcF.region | apply vcF.dregion | apply vcF.skip | apply vcF.block | apply vcF.exit | apply vcF.ret | apply vcF.loop | apply seqF.e | apply seqF.r | apply blkF.nn | apply blkF.e | apply blkF.r | apply blkF.o rfl | apply dopsF.nil | apply stabsF.nil | apply stabsF.cons)
    | ((with_reducible apply opsF.call); (case hx => exact tAG))
    | ((with_reducible apply opsF.want); (case hg => exact tEV); (case hb => exact tNB))
    | ((with_reducible apply opsF.skip); (case hg => exact tEV); (case hb => exact tNB))
    | (first | ((with_reducible apply opsF.case); (case hg => exact tEV)) | ((with_reducible apply vcF.cond); (case hx => exact tEV)) | ((with_reducible apply dopsF.case); (case hg => exact tEV))) <;> ((intro hc; try simp only [Int.reduceLT, Int.reduceLE, Int.reduceEq, Int.reduceNe, Int.cast_ofNat_Int, Int.reduceNeg, decide_true, decide_false, not_true_eq_false, not_false_eq_true, decide_eq_true_eq, decide_eq_false_iff_not, Bool.not_eq_true', Bool.not_eq_false', Bool.not_true, Bool.not_false, Bool.false_eq_true, Bool.true_eq_false, Bool.not_eq_true, Bool.not_eq_false, beq_iff_eq, beq_eq_false_iff_ne, bne_iff_ne, bne_eq_false_iff_eq, ne_eq, Int.not_lt, Int.not_le, ge_iff_le, gt_iff_lt, Decidable.not_not, reduceCtorEq, *] at hc) <;> (try (exfalso; omega)))
    | ((with_reducible apply opsF.und); (case hg => rfl))
    | ((with_reducible apply opsF.callv); (case hf => exact tEV); (case hx => exact tCV))
    | ((with_reducible apply dopsF.op rfl); (case hs => exact tHS))
    | ((with_reducible apply dopsF.call); (case hx => exact tAG))
    | ((with_reducible apply dopsF.want); (case hg => exact tEV); (case hb => exact tNB))
    | ((with_reducible apply dopsF.skip); (case hg => exact tEV); (case hb => exact tNB))
    | ((with_reducible apply dopsF.und); (case hg => rfl))
    | ((with_reducible apply stabF.und); rfl)
    | ((with_reducible apply stabF.want); (case hg => exact tEV); (case hb => exact tNB))
    | ((with_reducible apply stabF.skip); (case hg => exact tEV); (case hb => exact tNB))
    | ((with_reducible apply stabF.op); (case hs => exact tHS); (case hv => exact tSV))
    | ((with_reducible apply retF.r); (case hv => exact tRS))
    | ((with_reducible apply retF.nn); (case hv => exact tRS)))
  refine ⟨rfl, ?_⟩
  exact ((Ext.alloc _ _).trans (Ext.alloc _ _)).set (by simp [alloc_n]) _
theorem feed_call (rid : Nat) (c : Int) (ls : List (List UInt8)) (tok : Tok) (k : Int) (s : List UInt8) (h : AH) (hr : Rd h rid c ls tok) (hlen : s.length ≤ 9000000000000000000) (hls : ls.length ≤ 1000000000) :
    Call P w0 reply_Reader_Feed [.ptr rid 0, .agg [.v (.int .i64 k), .v (.string (bs s))]] h
    (fun v h' => ∃ tk tok', v = .tup [.agg [.v (.int .i64 (feedS c ls k s).2.1.1), .list 1 (srows (feedS c ls k s).2.1.2) tk], .v (.bool (feedS c ls k s).2.2.1), .v (.int .i64 (feedS c ls k s).2.2.2)]
      ∧ Rd h' rid (feedS c ls k s).1.1 (feedS c ls k s).1.2 tok' ∧ TokN h tok tok' ∧ ExtX (· = rid) (fun t => tok.owner = some t) h h') := by
  have hrl := hr.lt
  have xl := srows_len
  rcases hO : oneS k s with _ | ⟨n, m, t⟩
  · refine Call.bodyF b_reply_Reader_Feed rfl rfl ?_
    unfold c_reply_Reader_Feed
    repeat' (first
    | ((with_reducible apply opsF.op rfl); (case hs => exact tHS))
    | with_reducible (first | apply opsF.nil | apply seqF.nn | apply vcF.seq | apply vcF.region | apply vcF.dregion | apply vcF.skip | apply vcF.block | apply vcF.exit | apply vcF.ret | apply vcF.loop | apply seqF.e | apply seqF.r | apply blkF.nn | apply blkF.e | apply blkF.r | apply blkF.o rfl | apply dopsF.nil | apply stabsF.nil | apply stabsF.cons)
    | ((with_reducible apply opsF.call); (case hx => exact tAG))
    | ((with_reducible apply opsF.want); (case hg => exact tEV); (case hb => exact tNB))
    | ((with_reducible apply opsF.skip); (case hg => exact tEV); (case hb => exact tNB))
    | (first | ((with_reducible apply opsF.case); (case hg => exact tEV)) | ((with_reducible apply vcF.cond); (case hx => exact tEV)) | ((with_reducible apply dopsF.case); (case hg => exact tEV))) <;> ((intro hc; try simp only [Int.reduceLT, Int.reduceLE, Int.reduceEq, Int.reduceNe, Int.cast_ofNat_Int, Int.reduceNeg, decide_true, decide_false, not_true_eq_false, not_false_eq_true, decide_eq_true_eq, decide_eq_false_iff_not, Bool.not_eq_true', Bool.not_eq_false', Bool.not_true, Bool.not_false, Bool.false_eq_true, Bool.true_eq_false, Bool.not_eq_true, Bool.not_eq_false, beq_iff_eq, beq_eq_false_iff_ne, bne_iff_ne, bne_eq_false_iff_eq, ne_eq, Int.not_lt, Int.not_le, ge_iff_le, gt_iff_lt, Decidable.not_not, reduceCtorEq, *] at hc) <;> (try (exfalso; omega)))
    | ((with_reducible apply opsF.und); (case hg => rfl))
    | ((with_reducible apply opsF.callv); (case hf => exact tEV); (case hx => exact tCV))
    | ((with_reducible apply dopsF.op rfl); (case hs => exact tHS))
    | ((with_reducible apply dopsF.call); (case hx => exact tAG))
    | ((with_reducible apply dopsF.want); (case hg => exact tEV); (case hb => exact tNB))
    | ((with_reducible apply dopsF.skip); (case hg => exact tEV); (case hb => exact tNB))
    | ((with_reducible apply dopsF.und); (case hg => rfl))
    | ((with_reducible apply stabF.und); rfl)
    | ((with_reducible apply stabF.want); (case hg => exact tEV); (case hb => exact tNB))
    | ((with_reducible apply stabF.skip); (case hg => exact tEV); (case hb => exact tNB))
    | ((with_reducible apply stabF.op); (case hs => exact tHS); (case hv => exact tSV))
    | ((with_reducible apply retF.r); (case hv => exact tRS))
    | ((with_reducible apply retF.nn); (case hv => exact tRS))
    | (refine (split_call _ _ _ (by assumption)).mono fun v h' hp => ?_; obtain ⟨hs, he⟩ := hp; simp only [SplitP, hO] at hs; obtain ⟨n0, m0, t0, rfl⟩ := hs; have hq := (Ext.alloc h _).trans ((Ext.alloc _ _).trans he); have hr1 := hr.ext hq; have ho1 := hr1.obj; obtain ⟨tk1, h1, ht1, ht2, ht3, ht4, ht5, ht6⟩ := hr1.tok.app; have ho2 := he.objs (h.n + 1) (by simp [alloc_n]); simp [alloc_at, alloc_n] at ho2; have hn2 := he.n; simp only [alloc_n] at hn2))
    · refine ⟨.full, .full, ?_, ⟨?_, ?_, ?_⟩, ?_, ?_⟩
      · simp only [feedS, hO]
        try (first | rfl | (rw [srows_app]; rfl))
      · simp only [feedS, hO]
        simp (disch := omega) only [set_at, alloc_at, alloc_n, set_n, if_neg, if_pos, eq_self, if_true, ho1, ho2, ht4, ht5]
        try (first | rfl | (rw [srows_app]; rfl))
      · trivial
      · simp only [set_n, alloc_n, ht5]
        omega
      · intro t ht; cases ht
      · repeat' (first | exact ExtX.of hq | (refine ExtX.set ?_ (by first | exact .inl rfl | (right; simp (disch := omega) only [alloc_n, set_n, ht5]; omega)) _) | (refine ExtX.alloc ?_ _) | (refine ExtX.trans (ExtX.of hq) ?_; exact ht6.mono (fun _ x => x.elim) (fun _ x => x)))
  · refine Call.bodyF b_reply_Reader_Feed rfl rfl ?_
    unfold c_reply_Reader_Feed
    repeat' (first
    | ((with_reducible apply opsF.op rfl); (case hs => exact tHS))
    | with_reducible (first | apply opsF.nil | apply seqF.nn | apply vcF.seq | apply vcF.region | apply vcF.dregion | apply vcF.skip | apply vcF.block | apply vcF.exit | apply vcF.ret | apply vcF.loop | apply seqF.e | apply seqF.r | apply blkF.nn | apply blkF.e | apply blkF.r | apply blkF.o rfl | apply dopsF.nil | apply stabsF.nil | apply stabsF.cons)
    | ((with_reducible apply opsF.call); (case hx => exact tAG))
    | ((with_reducible apply opsF.want); (case hg => exact tEV); (case hb => exact tNB))
    | ((with_reducible apply opsF.skip); (case hg => exact tEV); (case hb => exact tNB))
    | (first | ((with_reducible apply opsF.case); (case hg => exact tEV)) | ((with_reducible apply vcF.cond); (case hx => exact tEV)) | ((with_reducible apply dopsF.case); (case hg => exact tEV))) <;> ((intro hc; try simp only [Int.reduceLT, Int.reduceLE, Int.reduceEq, Int.reduceNe, Int.cast_ofNat_Int, Int.reduceNeg, decide_true, decide_false, not_true_eq_false, not_false_eq_true, decide_eq_true_eq, decide_eq_false_iff_not, Bool.not_eq_true', Bool.not_eq_false', Bool.not_true, Bool.not_false, Bool.false_eq_true, Bool.true_eq_false, Bool.not_eq_true, Bool.not_eq_false, beq_iff_eq, beq_eq_false_iff_ne, bne_iff_ne, bne_eq_false_iff_eq, ne_eq, Int.not_lt, Int.not_le, ge_iff_le, gt_iff_lt, Decidable.not_not, reduceCtorEq, *] at hc) <;> (try (exfalso; omega)))
    | ((with_reducible apply opsF.und); (case hg => rfl))
    | ((with_reducible apply opsF.callv); (case hf => exact tEV); (case hx => exact tCV))
    | ((with_reducible apply dopsF.op rfl); (case hs => exact tHS))
    | ((with_reducible apply dopsF.call); (case hx => exact tAG))
    | ((with_reducible apply dopsF.want); (case hg => exact tEV); (case hb => exact tNB))
    | ((with_reducible apply dopsF.skip); (case hg => exact tEV); (case hb => exact tNB))
    | ((with_reducible apply dopsF.und); (case hg => rfl))
    | ((with_reducible apply stabF.und); rfl)
    | ((with_reducible apply stabF.want); (case hg => exact tEV); (case hb => exact tNB))
    | ((with_reducible apply stabF.skip); (case hg => exact tEV); (case hb => exact tNB))
    | ((with_reducible apply stabF.op); (case hs => exact tHS); (case hv => exact tSV))
    | ((with_reducible apply retF.r); (case hv => exact tRS))
    | ((with_reducible apply retF.nn); (case hv => exact tRS))
    | (refine (split_call _ _ _ (by assumption)).mono fun v h' hp => ?_; obtain ⟨hs, he⟩ := hp; simp only [SplitP, hO] at hs; subst hs; have hq := (Ext.alloc h _).trans ((Ext.alloc _ _).trans he); have hr1 := hr.ext hq; have ho1 := hr1.obj; obtain ⟨tk1, h1, ht1, ht2, ht3, ht4, ht5, ht6⟩ := hr1.tok.app; have ho2 := he.objs (h.n + 1) (by simp [alloc_n]); simp [alloc_at, alloc_n] at ho2; have hn2 := he.n; simp only [alloc_n] at hn2))
    · have hcnd : ls ≠ [] ∧ ¬ c = n := ⟨by (intro e; subst e; simp at *), by assumption⟩
      refine ⟨.full, .full, ?_, ⟨?_, ?_, ?_⟩, ?_, ?_⟩
      · simp only [feedS, hO, if_pos hcnd]
        try (first | rfl | (rw [srows_app]; rfl))
      · simp only [feedS, hO, if_pos hcnd]
        simp (disch := omega) only [set_at, alloc_at, alloc_n, set_n, if_neg, if_pos, eq_self, if_true, ho1, ho2, ht4, ht5]
        try (first | rfl | (rw [srows_app]; rfl))
      · trivial
      · simp only [set_n, alloc_n, ht5]
        omega
      · intro t ht; cases ht
      · repeat' (first | exact ExtX.of hq | (refine ExtX.set ?_ (by first | exact .inl rfl | (right; simp (disch := omega) only [alloc_n, set_n, ht5]; omega)) _) | (refine ExtX.alloc ?_ _) | (refine ExtX.trans (ExtX.of hq) ?_; exact ht6.mono (fun _ x => x.elim) (fun _ x => x)))
    · have hcnd : ¬ (ls ≠ [] ∧ c ≠ n) := by (first | (intro hx; exact hx.2 (by assumption)) | (intro hx; apply hx.1; apply List.eq_nil_of_length_eq_zero; omega))
      subst_vars
      refine ⟨.full, tk1, ?_, ⟨?_, ?_, ?_⟩, ?_, ?_⟩
      · simp only [feedS, hO, if_neg hcnd, if_true]
        try (first | rfl | (rw [srows_app]; rfl))
      · simp only [feedS, hO, if_neg hcnd, if_true]
        simp (disch := omega) only [set_at, alloc_at, alloc_n, set_n, if_neg, if_pos, eq_self, if_true, ho1, ho2, ht4, ht5]
        try (first | rfl | (rw [srows_app]; rfl))
      · (first | exact ht2 | exact ⟨ht2.1, ht2.2⟩ | (cases tk1 <;> first | exact ht2.elim | trivial | exact ⟨ht2.1, ht2.2⟩))
      · simp only [set_n, alloc_n, ht5]
        omega
      · intro t ht; rcases ht3 t ht with hz | hz; exact .inl hz; right; have := hq.nt; omega
      · repeat' (first | exact ExtX.of hq | (refine ExtX.set ?_ (by first | exact .inl rfl | (right; simp (disch := omega) only [alloc_n, set_n, ht5]; omega)) _) | (refine ExtX.alloc ?_ _) | (refine ExtX.trans (ExtX.of hq) ?_; exact ht6.mono (fun _ x => x.elim) (fun _ x => x)))
    · have hcnd : ¬ (ls ≠ [] ∧ c ≠ n) := by (first | (intro hx; exact hx.2 (by assumption)) | (intro hx; apply hx.1; apply List.eq_nil_of_length_eq_zero; omega))
      subst_vars
      refine ⟨tk1, .full, ?_, ⟨?_, ?_, ?_⟩, ?_, ?_⟩
      · simp only [feedS, hO, if_neg hcnd, Bool.false_eq_true, if_false]
        try (first | rfl | (rw [srows_app]; rfl))
      · simp only [feedS, hO, if_neg hcnd, Bool.false_eq_true, if_false]
        simp (disch := omega) only [set_at, alloc_at, alloc_n, set_n, if_neg, if_pos, eq_self, if_true, ho1, ho2, ht4, ht5]
        try (first | rfl | (rw [srows_app]; rfl))
      · trivial
      · simp only [set_n, alloc_n, ht5]
        omega
      · intro t ht; cases ht
      · repeat' (first | exact ExtX.of hq | (refine ExtX.set ?_ (by first | exact .inl rfl | (right; simp (disch := omega) only [alloc_n, set_n, ht5]; omega)) _) | (refine ExtX.alloc ?_ _) | (refine ExtX.trans (ExtX.of hq) ?_; exact ht6.mono (fun _ x => x.elim) (fun _ x => x)))
    · have hcnd : ¬ (ls ≠ [] ∧ c ≠ n) := by (first | (intro hx; exact hx.2 (by assumption)) | (intro hx; apply hx.1; apply List.eq_nil_of_length_eq_zero; omega))
      subst_vars
      refine ⟨.full, tk1, ?_, ⟨?_, ?_, ?_⟩, ?_, ?_⟩
      · simp only [feedS, hO, if_neg hcnd, if_true]
        try (first | rfl | (rw [srows_app]; rfl))
      · simp only [feedS, hO, if_neg hcnd, if_true]
        simp (disch := omega) only [set_at, alloc_at, alloc_n, set_n, if_neg, if_pos, eq_self, if_true, ho1, ho2, ht4, ht5]
        try (first | rfl | (rw [srows_app]; rfl))
      · (first | exact ht2 | exact ⟨ht2.1, ht2.2⟩ | (cases tk1 <;> first | exact ht2.elim | trivial | exact ⟨ht2.1, ht2.2⟩))
      · simp only [set_n, alloc_n, ht5]
        omega
      · intro t ht; rcases ht3 t ht with hz | hz; exact .inl hz; right; have := hq.nt; omega
      · repeat' (first | exact ExtX.of hq | (refine ExtX.set ?_ (by first | exact .inl rfl | (right; simp (disch := omega) only [alloc_n, set_n, ht5]; omega)) _) | (refine ExtX.alloc ?_ _) | (refine ExtX.trans (ExtX.of hq) ?_; exact ht6.mono (fun _ x => x.elim) (fun _ x => x)))
    · have hcnd : ¬ (ls ≠ [] ∧ c ≠ n) := by (first | (intro hx; exact hx.2 (by assumption)) | (intro hx; apply hx.1; apply List.eq_nil_of_length_eq_zero; omega))
      subst_vars
      refine ⟨tk1, .full, ?_, ⟨?_, ?_, ?_⟩, ?_, ?_⟩
      · simp only [feedS, hO, if_neg hcnd, Bool.false_eq_true, if_false]
        try (first | rfl | (rw [srows_app]; rfl))
      · simp only [feedS, hO, if_neg hcnd, Bool.false_eq_true, if_false]
        simp (disch := omega) only [set_at, alloc_at, alloc_n, set_n, if_neg, if_pos, eq_self, if_true, ho1, ho2, ht4, ht5]
        try (first | rfl | (rw [srows_app]; rfl))
      · trivial
      · simp only [set_n, alloc_n, ht5]
        omega
      · intro t ht; cases ht
      · repeat' (first | exact ExtX.of hq | (refine ExtX.set ?_ (by first | exact .inl rfl | (right; simp (disch := omega) only [alloc_n, set_n, ht5]; omega)) _) | (refine ExtX.alloc ?_ _) | (refine ExtX.trans (ExtX.of hq) ?_; exact ht6.mono (fun _ x => x.elim) (fun _ x => x)))
theorem text221_call (h : AH) : Call P w0 reply_Text [.v (.int .i64 221)] h (fun v h' => v = .v (.string (bs [98, 121, 101])) ∧ h' = h) := by
  refine Call.bodyF b_reply_Text rfl rfl ?_
  unfold c_reply_Text
  repeat' (first
    | ((with_reducible apply opsF.op rfl); (case hs => exact tHS))
    | with_reducible (first | apply opsF.nil | apply seqF.nn | apply vcF.seq | apply vcF.region | apply vcF.dregion | apply vcF.skip | apply vcF.block | apply vcF.exit | apply vcF.ret | apply vcF.loop | apply seqF.e | apply seqF.r | apply blkF.nn | apply blkF.e | apply blkF.r | apply blkF.o rfl | apply dopsF.nil | apply stabsF.nil | apply stabsF.cons)
    | ((with_reducible apply opsF.call); (case hx => exact tAG))
    | ((with_reducible apply opsF.want); (case hg => exact tEV); (case hb => exact tNB))
    | ((with_reducible apply opsF.skip); (case hg => exact tEV); (case hb => exact tNB))
    | (first | ((with_reducible apply opsF.case); (case hg => exact tEV)) | ((with_reducible apply vcF.cond); (case hx => exact tEV)) | ((with_reducible apply dopsF.case); (case hg => exact tEV))) <;> ((intro hc; try simp only [Int.reduceLT, Int.reduceLE, Int.reduceEq, Int.reduceNe, Int.cast_ofNat_Int, Int.reduceNeg, decide_true, decide_false, not_true_eq_false, not_false_eq_true, decide_eq_true_eq, decide_eq_false_iff_not, Bool.not_eq_true', Bool.not_eq_false', Bool.not_true, Bool.not_false, Bool.false_eq_true, Bool.true_eq_false, Bool.not_eq_true, Bool.not_eq_false, beq_iff_eq, beq_eq_false_iff_ne, bne_iff_ne, bne_eq_false_iff_eq, ne_eq, Int.not_lt, Int.not_le, ge_iff_le, gt_iff_lt, Decidable.not_not, reduceCtorEq, *] at hc) <;> (try (exfalso; omega)))
    | ((with_reducible apply opsF.und); (case hg => rfl))
    | ((with_reducible apply opsF.callv); (case hf => exact tEV); (case hx => exact tCV))
    | ((with_reducible apply dopsF.op rfl); (case hs => exact tHS))
    | ((with_reducible apply dopsF.call); (case hx => exact tAG))
    | ((with_reducible apply dopsF.want); (case hg => exact tEV); (case hb => exact tNB))
    | ((with_reducible apply dopsF.skip); (case hg => exact tEV); (case hb => exact tNB))
    | ((with_reducible apply dopsF.und); (case hg => rfl))
    | ((with_reducible apply stabF.und); rfl)
    | ((with_reducible apply stabF.want); (case hg => exact tEV); (case hb => exact tNB))
    | ((with_reducible apply stabF.skip); (case hg => exact tEV); (case hb => exact tNB))
    | ((with_reducible apply stabF.op); (case hs => exact tHS); (case hv => exact tSV))
    | ((with_reducible apply retF.r); (case hv => exact tRS))
    | ((with_reducible apply retF.nn); (case hv => exact tRS)))
  all_goals exact ⟨rfl, rfl⟩
end Go.Abs.F
