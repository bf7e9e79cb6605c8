/- Layer 4: what codes say. -/
import Derived.Test.YtelflknhanpldaaDoorRep9
import Derived.Test.YtelflknhanpldaaDoorItoa
import Derived.Test.YtelflknhanpldaaDoorAbsBle
import Derived.Laws.RangeString
import Derived.Laws.RangeAny
namespace Go.Abs.F
open Go Go.Abs
set_option maxRecDepth 10000
set_option maxHeartbeats 20000000
set_option linter.unusedSimpArgs false
set_option linter.unusedVariables false
variable {w0 : World}
/-- What a code says. -/
def textS (n : Int) : List UInt8 :=
  if n = 220 then [114, 101, 97, 100, 121] else if n = 221 then [98, 121, 101] else if n = 250 then [111, 107] else if n = 252 then [109, 97, 121, 98, 101] else if n = 354 then [103, 111, 32, 111, 110]
  else if n = 421 then [110, 111, 116, 32, 110, 111, 119] else if n = 451 then [116, 114, 121, 32, 97, 103, 97, 105, 110] else if n = 452 then [110, 111, 32, 114, 111, 111, 109] else if n = 500 then [119, 104, 97, 116]
  else if n = 501 then [104, 111, 119] else if n = 503 then [111, 114, 100, 101, 114] else if n = 550 then [110, 111, 116, 32, 104, 101, 114, 101] else if n = 552 then [116, 111, 111, 32, 108, 97, 114, 103, 101]
  else if n = 554 then [110, 111] else if n = 555 then [111, 112, 116, 105, 111, 110, 115] else [111, 100, 100]
theorem text_call (n : Int) (h : AH) : Call P w0 reply_Text [.v (.int .i64 n)] h (fun v h' => v = .v (.string (bs (textS n))) ∧ h' = h) := by
  refine Call.bodyF b_reply_Text rfl rfl ?_
  unfold c_reply_Text
  repeat' (first
    | ((with_reducible apply opsF.op rfl); (case hs => (first | exact tHT | exact tHS)))
    | with_reducible (first | apply opsF.nil | apply seqF.nn | apply vcF.seq | apply vcF.region | apply vcF.dregion | apply vcF.skip | apply vcF.block | apply vcF.exit | apply vcF.ret | apply vcF.loop | apply seqF.e | apply seqF.r | apply blkF.nn | apply blkF.e | apply blkF.r | apply blkF.o rfl | apply dopsF.nil | apply stabsF.nil | apply stabsF.cons | apply dopsF.cont)
    | ((with_reducible apply opsF.call); (case hx => exact tAG))
    | ((with_reducible apply opsF.want); (case hg => exact tEV); (case hb => exact tNB))
    | ((with_reducible apply opsF.skip); (case hg => exact tEV); (case hb => exact tNB))
    | (first | ((with_reducible apply opsF.case); (case hg => exact tEV)) | ((with_reducible apply vcF.cond); (case hx => exact tEV)) | ((with_reducible apply dopsF.case); (case hg => exact tEV))) <;> ((intro hc; try simp only [Int.reduceLT, Int.reduceLE, Int.reduceEq, Int.reduceNe, Int.cast_ofNat_Int, Int.reduceNeg, decide_true, decide_false, not_true_eq_false, not_false_eq_true, decide_eq_true_eq, decide_eq_false_iff_not, Bool.not_eq_true', Bool.not_eq_false', Bool.not_true, Bool.not_false, Bool.false_eq_true, Bool.true_eq_false, Bool.not_eq_true, Bool.not_eq_false, beq_iff_eq, beq_eq_false_iff_ne, bne_iff_ne, bne_eq_false_iff_eq, ne_eq, Int.not_lt, Int.not_le, ge_iff_le, gt_iff_lt, Decidable.not_not, reduceCtorEq, *] at hc) <;> (try (exfalso; omega)))
    | ((with_reducible apply opsF.und); (case hg => rfl))
    | ((with_reducible apply opsF.callv); (case hf => exact tEV); (case hx => exact tCV))
    | ((with_reducible apply dopsF.op rfl); (case hs => (first | exact tHT | exact tHS)))
    | ((with_reducible apply dopsF.call); (case hx => exact tAG))
    | ((with_reducible apply dopsF.want); (case hg => exact tEV); (case hb => exact tNB))
    | ((with_reducible apply dopsF.skip); (case hg => exact tEV); (case hb => exact tNB))
    | ((with_reducible apply dopsF.und); (case hg => rfl))
    | ((with_reducible apply stabF.und); rfl)
    | ((with_reducible apply stabF.want); (case hg => exact tEV); (case hb => exact tNB))
    | ((with_reducible apply stabF.skip); (case hg => exact tEV); (case hb => exact tNB))
    | ((with_reducible apply stabF.op); (case hs => (first | exact tHT | exact tHS)); (case hv => exact tSV))
    | ((with_reducible apply retF.r); (case hv => exact tRS))
    | ((with_reducible apply retF.nn); (case hv => exact tRS)))
  all_goals refine ⟨?_, rfl⟩
  all_goals first | (subst_vars; rfl) | (simp [textS, *])
def codesL : List Int := [220, 221, 250, 252, 354, 421, 451, 452, 500, 501, 503, 550, 552, 554, 555]
def irows (l : List Int) : List (List AV) := l.map fun n => [.v (.int .i64 n)]
theorem irows_len (l : List Int) : (irows l).length = l.length := by simp [irows]
theorem irows_get (l : List Int) (i : Nat) : (irows l)[i]? = (l[i]?).map fun n => [.v (.int .i64 n)] := by simp [irows]
theorem textS_odd {n : Int} (h : ∀ x ∈ codesL, x ≠ n) : textS n = [111, 100, 100] := by
  simp only [codesL, List.mem_cons, List.not_mem_nil, or_false, forall_eq_or_imp, forall_eq] at h
  have hq : ∀ k : Int, k ≠ n → ¬ n = k := fun k hk e => hk e.symm
  obtain ⟨h1, h2, h3, h4, h5, h6, h7, h8, h9, h10, h11, h12, h13, h14, h15⟩ := h
  simp only [textS, if_neg (hq _ h1), if_neg (hq _ h2), if_neg (hq _ h3), if_neg (hq _ h4), if_neg (hq _ h5), if_neg (hq _ h6), if_neg (hq _ h7), if_neg (hq _ h8), if_neg (hq _ h9), if_neg (hq _ h10), if_neg (hq _ h11), if_neg (hq _ h12), if_neg (hq _ h13), if_neg (hq _ h14), if_neg (hq _ h15)]
def tl1 : IOp := .lit 1 15 [.v (.int .i64 0)] [(0, .cst (.v (.int .i64 220))), (1, .cst (.v (.int .i64 221))), (2, .cst (.v (.int .i64 250))), (3, .cst (.v (.int .i64 252))), (4, .cst (.v (.int .i64 354))), (5, .cst (.v (.int .i64 421))), (6, .cst (.v (.int .i64 451))), (7, .cst (.v (.int .i64 452))), (8, .cst (.v (.int .i64 500))), (9, .cst (.v (.int .i64 501))), (10, .cst (.v (.int .i64 503))), (11, .cst (.v (.int .i64 550))), (12, .cst (.v (.int .i64 552))), (13, .cst (.v (.int .i64 554))), (14, .cst (.v (.int .i64 555)))]
def tl2 : IOp := .lit 1 15 [.v (.string (bs []))] [(0, .cst (.v (.string (bs [114, 101, 97, 100, 121])))), (1, .cst (.v (.string (bs [98, 121, 101])))), (2, .cst (.v (.string (bs [111, 107])))), (3, .cst (.v (.string (bs [109, 97, 121, 98, 101])))), (4, .cst (.v (.string (bs [103, 111, 32, 111, 110])))), (5, .cst (.v (.string (bs [110, 111, 116, 32, 110, 111, 119])))), (6, .cst (.v (.string (bs [116, 114, 121, 32, 97, 103, 97, 105, 110])))), (7, .cst (.v (.string (bs [110, 111, 32, 114, 111, 111, 109])))), (8, .cst (.v (.string (bs [119, 104, 97, 116])))), (9, .cst (.v (.string (bs [104, 111, 119])))), (10, .cst (.v (.string (bs [111, 114, 100, 101, 114])))), (11, .cst (.v (.string (bs [110, 111, 116, 32, 104, 101, 114, 101])))), (12, .cst (.v (.string (bs [116, 111, 111, 32, 108, 97, 114, 103, 101])))), (13, .cst (.v (.string (bs [110, 111])))), (14, .cst (.v (.string (bs [111, 112, 116, 105, 111, 110, 115]))))]
noncomputable def c_rt (t1 t2 : IOp) : IC := .seq (.region [⟨some 2, .mv (.cst (.v (.string (bs [])))), none⟩]) (.seq (.region [⟨some 6, t1, none⟩, ⟨some 3, .mv (.tmp 6), none⟩]) (.seq (.region [⟨some 7, t2, none⟩, ⟨some 4, .mv (.tmp 7), none⟩]) (.seq (.seq (.region [⟨some 5, .mv (.cst (.v (.int .i64 0))), none⟩]) (.block 0 (.loop (.seq (.seq (.region [⟨some 8, .mv (.tmp 5), none⟩, ⟨some 9, .mv (.tmp 3), none⟩, ⟨some 10, .len .sl (.tmp 9), none⟩, ⟨some 11, .bin .lss .other (.tmp 8) (.tmp 10), none⟩]) (.cond (.tmp 11) .skip (.exit 0))) (.seq (.block 1 (.seq (.region [⟨some 14, .mv (.tmp 3), none⟩, ⟨some 15, .mv (.tmp 5), none⟩, ⟨some 16, .iaL 1 (.tmp 14) (.tmp 15), none⟩, ⟨some 17, .load (.tmp 16) none, none⟩, ⟨some 18, .mv (.tmp 0), none⟩, ⟨some 19, .bin .eql .other (.tmp 17) (.tmp 18), none⟩]) (.cond (.tmp 19) (.seq (.region [⟨some 20, .mv (.tmp 4), none⟩, ⟨some 21, .mv (.tmp 5), none⟩, ⟨some 22, .iaL 1 (.tmp 20) (.tmp 21), none⟩, ⟨some 23, .load (.tmp 22) none, none⟩, ⟨some 2, .mv (.tmp 23), none⟩]) .ret) .skip))) (.region [⟨some 12, .mv (.tmp 5), none⟩, ⟨some 13, .bin .add .other (.tmp 12) (.cst (.v (.int .i64 1))), none⟩, ⟨some 5, .mv (.tmp 13), none⟩])))))) (.seq (.region [⟨some 2, .mv (.cst (.v (.string (bs [111, 100, 100])))), none⟩]) .ret))))
theorem b_rtext : HasBody P ref01_Text 24 (c_rt tl1 tl2) [.tmp 2] := (show c_ref01_Text = c_rt tl1 tl2 by kernel_rfl) ▸ b_ref01_Text
theorem tl1_run (σ : Fm) (h : AH) : istep tl1 (evF σ) h = some (.list 1 (irows codesL) .full, h) := by kernel_rfl
theorem tl2_run (σ : Fm) (h : AH) : istep tl2 (evF σ) h = some (.list 1 (srows (codesL.map textS)) .full, h) := by kernel_rfl
theorem tl1_nc : tl1.noCall = true := by kernel_rfl
theorem tl2_nc : tl2.noCall = true := by kernel_rfl
theorem rtext_gen (t1 t2 : IOp) (n1 : t1.noCall = true) (n2 : t2.noCall = true) (r1 : ∀ (σ : Fm) (h : AH), istep t1 (evF σ) h = some (.list 1 (irows codesL) .full, h)) (r2 : ∀ (σ : Fm) (h : AH), istep t2 (evF σ) h = some (.list 1 (srows (codesL.map textS)) .full, h)) (n : Int) (h : AH) :
    vcF P w0 24 (c_rt t1 t2) (retF [.tmp 2] fun v h' => v = .v (.string (bs (textS n))) ∧ h' = h) (argF [.v (.int .i64 n)]) h := by
  have xl := irows_len
  have xg := irows_get
  have xs := srows_len
  have xsg := srows_get
  unfold c_rt
  repeat' (first
    | ((with_reducible apply opsF.op rfl); (case hs => (first | exact tHT | exact tHS)))
    | with_reducible (first | apply opsF.nil | apply seqF.nn | apply vcF.seq | apply vcF.region | apply vcF.dregion | apply vcF.skip | apply vcF.block | apply vcF.exit | apply vcF.ret | apply vcF.loop | apply seqF.e | apply seqF.r | apply blkF.nn | apply blkF.e | apply blkF.r | apply blkF.o rfl | apply dopsF.nil | apply stabsF.nil | apply stabsF.cons | apply dopsF.cont)
    | ((with_reducible apply opsF.call); (case hx => exact tAG))
    | ((with_reducible apply opsF.want); (case hg => exact tEV); (case hb => exact tNB))
    | ((with_reducible apply opsF.skip); (case hg => exact tEV); (case hb => exact tNB))
    | (first | ((with_reducible apply opsF.case); (case hg => exact tEV)) | ((with_reducible apply vcF.cond); (case hx => exact tEV)) | ((with_reducible apply dopsF.case); (case hg => exact tEV))) <;> ((intro hc; try simp only [Int.reduceLT, Int.reduceLE, Int.reduceEq, Int.reduceNe, Int.cast_ofNat_Int, Int.reduceNeg, decide_true, decide_false, not_true_eq_false, not_false_eq_true, decide_eq_true_eq, decide_eq_false_iff_not, Bool.not_eq_true', Bool.not_eq_false', Bool.not_true, Bool.not_false, Bool.false_eq_true, Bool.true_eq_false, Bool.not_eq_true, Bool.not_eq_false, beq_iff_eq, beq_eq_false_iff_ne, bne_iff_ne, bne_eq_false_iff_eq, ne_eq, Int.not_lt, Int.not_le, ge_iff_le, gt_iff_lt, Decidable.not_not, reduceCtorEq, *] at hc) <;> (try (exfalso; omega)))
    | ((with_reducible apply opsF.und); (case hg => rfl))
    | ((with_reducible apply opsF.callv); (case hf => exact tEV); (case hx => exact tCV))
    | ((with_reducible apply dopsF.op rfl); (case hs => (first | exact tHT | exact tHS)))
    | ((with_reducible apply dopsF.call); (case hx => exact tAG))
    | ((with_reducible apply dopsF.want); (case hg => exact tEV); (case hb => exact tNB))
    | ((with_reducible apply dopsF.skip); (case hg => exact tEV); (case hb => exact tNB))
    | ((with_reducible apply dopsF.und); (case hg => rfl))
    | ((with_reducible apply stabF.und); rfl)
    | ((with_reducible apply stabF.want); (case hg => exact tEV); (case hb => exact tNB))
    | ((with_reducible apply stabF.skip); (case hg => exact tEV); (case hb => exact tNB))
    | ((with_reducible apply stabF.op); (case hs => (first | exact tHT | exact tHS)); (case hv => exact tSV))
    | ((with_reducible apply retF.r); (case hv => exact tRS))
    | ((with_reducible apply retF.nn); (case hv => exact tRS))
    | ((with_reducible apply opsF.op n1); (case hs => with_reducible exact r1 _ _))
    | ((with_reducible apply opsF.op n2); (case hs => with_reducible exact r2 _ _)))
  refine LpF.ind rfl (fun i : Nat => 15 - i) (fun i σ h' => h' = h ∧ σ 0 = .v (.int .i64 n) ∧ σ 3 = .list 1 (irows codesL) .full ∧ σ 4 = .list 1 (srows (codesL.map textS)) .full ∧ σ 5 = .v (.int .i64 (i : Nat)) ∧ i ≤ 15 ∧ ∀ x ∈ codesL.take i, x ≠ n) ?_ (i := 0) ⟨rfl, rfl, rfl, rfl, rfl, Nat.zero_le _, by simp⟩
  rintro i σ h' ⟨rfl, h0, h3, h4, h5, hi, hn⟩
  have hcl : codesL.length = 15 := rfl
  rcases Nat.lt_or_ge i 15 with hlt | hge
  · obtain ⟨c, hcg⟩ : ∃ c, codesL[i]? = some c := ⟨_, List.getElem?_eq_getElem (by omega)⟩
    have ht : (codesL.map textS)[i]? = some (textS c) := by rw [List.getElem?_map, hcg]; rfl
    generalize hcm : codesL.map textS = T at ht h4
    have hTl : T.length = 15 := by rw [← hcm]; rfl
    generalize codesL = C at *
    repeat' (first
    | ((with_reducible apply opsF.op rfl); (case hs => (first | exact tHT | exact tHS)))
    | with_reducible (first | apply opsF.nil | apply seqF.nn | apply vcF.seq | apply vcF.region | apply vcF.dregion | apply vcF.skip | apply vcF.block | apply vcF.exit | apply vcF.ret | apply vcF.loop | apply seqF.e | apply seqF.r | apply blkF.nn | apply blkF.e | apply blkF.r | apply blkF.o rfl | apply dopsF.nil | apply stabsF.nil | apply stabsF.cons | apply dopsF.cont)
    | ((with_reducible apply opsF.call); (case hx => exact tAG))
    | ((with_reducible apply opsF.want); (case hg => exact tEV); (case hb => exact tNB))
    | ((with_reducible apply opsF.skip); (case hg => exact tEV); (case hb => exact tNB))
    | (first | ((with_reducible apply opsF.case); (case hg => exact tEV)) | ((with_reducible apply vcF.cond); (case hx => exact tEV)) | ((with_reducible apply dopsF.case); (case hg => exact tEV))) <;> ((intro hc; try simp only [Int.reduceLT, Int.reduceLE, Int.reduceEq, Int.reduceNe, Int.cast_ofNat_Int, Int.reduceNeg, decide_true, decide_false, not_true_eq_false, not_false_eq_true, decide_eq_true_eq, decide_eq_false_iff_not, Bool.not_eq_true', Bool.not_eq_false', Bool.not_true, Bool.not_false, Bool.false_eq_true, Bool.true_eq_false, Bool.not_eq_true, Bool.not_eq_false, beq_iff_eq, beq_eq_false_iff_ne, bne_iff_ne, bne_eq_false_iff_eq, ne_eq, Int.not_lt, Int.not_le, ge_iff_le, gt_iff_lt, Decidable.not_not, reduceCtorEq, *] at hc) <;> (try (exfalso; omega)))
    | ((with_reducible apply opsF.und); (case hg => rfl))
    | ((with_reducible apply opsF.callv); (case hf => exact tEV); (case hx => exact tCV))
    | ((with_reducible apply dopsF.op rfl); (case hs => (first | exact tHT | exact tHS)))
    | ((with_reducible apply dopsF.call); (case hx => exact tAG))
    | ((with_reducible apply dopsF.want); (case hg => exact tEV); (case hb => exact tNB))
    | ((with_reducible apply dopsF.skip); (case hg => exact tEV); (case hb => exact tNB))
    | ((with_reducible apply dopsF.und); (case hg => rfl))
    | ((with_reducible apply stabF.und); rfl)
    | ((with_reducible apply stabF.want); (case hg => exact tEV); (case hb => exact tNB))
    | ((with_reducible apply stabF.skip); (case hg => exact tEV); (case hb => exact tNB))
    | ((with_reducible apply stabF.op); (case hs => (first | exact tHT | exact tHS)); (case hv => exact tSV))
    | ((with_reducible apply retF.r); (case hv => exact tRS))
    | ((with_reducible apply retF.nn); (case hv => exact tRS)))
    · have hcn : c = n := by first | assumption | omega
      exact ⟨by first | rfl | rw [hcn], rfl⟩
    · have hcn : ¬ c = n := by first | assumption | omega
      refine ⟨i + 1, by omega, rfl, h0, h3, h4, rfl, by omega, ?_⟩
      intro x hx
      rw [List.take_add_one, hcg] at hx
      rcases List.mem_append.1 hx with hx | hx
      · exact hn x hx
      · simp at hx
        subst hx
        exact hcn
  · obtain rfl : i = 15 := by omega
    generalize hcm : codesL.map textS = T at h4
    rw [show codesL.take 15 = codesL from rfl] at hn
    have ho := textS_odd hn
    generalize codesL = C at *
    repeat' (first
    | ((with_reducible apply opsF.op rfl); (case hs => (first | exact tHT | exact tHS)))
    | with_reducible (first | apply opsF.nil | apply seqF.nn | apply vcF.seq | apply vcF.region | apply vcF.dregion | apply vcF.skip | apply vcF.block | apply vcF.exit | apply vcF.ret | apply vcF.loop | apply seqF.e | apply seqF.r | apply blkF.nn | apply blkF.e | apply blkF.r | apply blkF.o rfl | apply dopsF.nil | apply stabsF.nil | apply stabsF.cons | apply dopsF.cont)
    | ((with_reducible apply opsF.call); (case hx => exact tAG))
    | ((with_reducible apply opsF.want); (case hg => exact tEV); (case hb => exact tNB))
    | ((with_reducible apply opsF.skip); (case hg => exact tEV); (case hb => exact tNB))
    | (first | ((with_reducible apply opsF.case); (case hg => exact tEV)) | ((with_reducible apply vcF.cond); (case hx => exact tEV)) | ((with_reducible apply dopsF.case); (case hg => exact tEV))) <;> ((intro hc; try simp only [Int.reduceLT, Int.reduceLE, Int.reduceEq, Int.reduceNe, Int.cast_ofNat_Int, Int.reduceNeg, decide_true, decide_false, not_true_eq_false, not_false_eq_true, decide_eq_true_eq, decide_eq_false_iff_not, Bool.not_eq_true', Bool.not_eq_false', Bool.not_true, Bool.not_false, Bool.false_eq_true, Bool.true_eq_false, Bool.not_eq_true, Bool.not_eq_false, beq_iff_eq, beq_eq_false_iff_ne, bne_iff_ne, bne_eq_false_iff_eq, ne_eq, Int.not_lt, Int.not_le, ge_iff_le, gt_iff_lt, Decidable.not_not, reduceCtorEq, *] at hc) <;> (try (exfalso; omega)))
    | ((with_reducible apply opsF.und); (case hg => rfl))
    | ((with_reducible apply opsF.callv); (case hf => exact tEV); (case hx => exact tCV))
    | ((with_reducible apply dopsF.op rfl); (case hs => (first | exact tHT | exact tHS)))
    | ((with_reducible apply dopsF.call); (case hx => exact tAG))
    | ((with_reducible apply dopsF.want); (case hg => exact tEV); (case hb => exact tNB))
    | ((with_reducible apply dopsF.skip); (case hg => exact tEV); (case hb => exact tNB))
    | ((with_reducible apply dopsF.und); (case hg => rfl))
    | ((with_reducible apply stabF.und); rfl)
    | ((with_reducible apply stabF.want); (case hg => exact tEV); (case hb => exact tNB))
    | ((with_reducible apply stabF.skip); (case hg => exact tEV); (case hb => exact tNB))
    | ((with_reducible apply stabF.op); (case hs => (first | exact tHT | exact tHS)); (case hv => exact tSV))
    | ((with_reducible apply retF.r); (case hv => exact tRS))
    | ((with_reducible apply retF.nn); (case hv => exact tRS)))
    all_goals rw [ho]
    all_goals exact ⟨rfl, rfl⟩
theorem rtext_call (n : Int) (h : AH) : Call P w0 ref01_Text [.v (.int .i64 n)] h (fun v h' => v = .v (.string (bs (textS n))) ∧ h' = h) :=
  Call.bodyF b_rtext rfl (by kernel_rfl) (rtext_gen tl1 tl2 tl1_nc tl2_nc tl1_run tl2_run n h)
end Go.Abs.F
