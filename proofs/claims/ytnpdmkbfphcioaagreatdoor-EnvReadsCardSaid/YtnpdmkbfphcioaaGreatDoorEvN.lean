/- Layer 11: EnvReads: what any bytes are: nothing, or a message whose bytes they are. -/
import Derived.Test.YtnpdmkbfphcioaaGreatDoorEvL
namespace Go.Abs.F
open Go Go.Abs
set_option maxRecDepth 10000
set_option maxHeartbeats 20000000
set_option linter.unusedSimpArgs false
set_option linter.unusedVariables false
variable {w0 : World}
theorem u8_wf {n : Int} (h : (Lit.int .u8 n).wf = true) : 0 ≤ n ∧ n ≤ 255 := by
  simp [Lit.wf, IntKind.min, IntKind.max, IntKind.signed, IntKind.bits] at h
  exact ⟨by omega, by omega⟩
theorem brows_key {f : Int → List AV} (hf : ∀ x, f x = [AV.v (.int .u8 x)]) : ∀ m : List Int, (∀ x ∈ m, 0 ≤ x ∧ x ≤ 255) → m.map f = brows (m.map fun x : Int => UInt8.ofNat x.toNat)
  | [], _ => rfl
  | x :: m, hm => by
    have hx := hm x (by simp)
    have ih := brows_key hf m (fun y hy => hm y (List.mem_cons_of_mem _ hy))
    simp only [List.map_cons, brows] at ih ⊢
    rw [ih, hf, u8n (show x.toNat < 256 by omega), Int.toNat_of_nonneg hx.1]
theorem brows_ty (l : (Ty.slice (.int .u8)).D) (hw : (Ty.slice (.int .u8)).wf l) : ∃ b : List UInt8, (Ty.slice (.int .u8)).val l = .list 1 (brows b) .no ∧ b.length = List.length l := by
  refine ⟨List.map (fun x : Int => UInt8.ofNat x.toNat) l, ?_, List.length_map _⟩
  simp only [Ty.val]
  congr 1
  exact brows_key (f := (Ty.int .u8).enc) (fun x => rfl) l (fun x hx => u8_wf (hw.2 x hx))
theorem app_copy (b : L8) (hb : b.length ≤ 140737488351232) (h : AH) : ∃ tk h2, ∀ (σ : Fm) (x y : Opd), evF σ x = .list 1 [] .full → evF σ y = .list 1 (brows b) .no → istep (.app 1 1 x y) (evF σ) h = some (.list 1 (brows b) tk, h2) := by
  cases b with
  | nil => exact ⟨.full, h, fun σ x y hx hy => is_app0 hx hy rfl⟩
  | cons c r =>
    obtain ⟨tk1, h2, hap, _⟩ := TokU.app (h := h) (tok := .full) trivial
    refine ⟨tk1, h2, fun σ x y hx hy => is_app (r := [.v (.int .u8 (c.toNat : Int))]) (new := brows r) hx hy rfl hap ?_ rfl⟩
    rw [brows_len]
    simp at hb ⊢
    omega
theorem envReads_main (W : World) (hP : PowTab W) (hE : ErrVars W) (b : L8) (hb : b.length ≤ 140737488351232) : Call P W law11_EnvReads [.list 1 (brows b) .no] AH.start fun v _ => v = .v (.bool true) := by
  have hans := fun h => answers11_call (w0 := W) hP hE h
  have bl := brows_len
  have m1 := brows_len b
  refine Call.bodyF b_law11_EnvReads rfl rfl ?_
  unfold c_law11_EnvReads
  rcases Nat.lt_or_ge 5000 b.length with hbig | hsm
  · have hb2 : (5000 : Int) < b.length := by omega
    clear hbig
    repeat' (first
    | ((with_reducible apply opsF.op rfl); (case hs => (first | exact tHT | exact tHS)))
    | with_reducible (first | apply opsF.nil | apply seqF.nn | apply vcF.seq | apply vcF.region | apply vcF.dregion | apply vcF.skip | apply vcF.ret | apply seqF.r | apply dopsF.nil | apply stabsF.nil | apply stabsF.cons | apply dopsF.cont)
    | ((with_reducible apply opsF.call); (case hx => exact tAG))
    | ((with_reducible apply opsF.want); (case hg => exact tEV); (case hb => exact tNB))
    | ((with_reducible apply opsF.skip); (case hg => exact tEV); (case hb => exact tNB))
    | (first | ((with_reducible apply opsF.case); (case hg => exact tEV)) | ((with_reducible apply vcF.cond); (case hx => exact tEV)) | ((with_reducible apply dopsF.case); (case hg => exact tEV))) <;> ((intro hc; try simp only [Int.reduceLT, Int.reduceLE, Int.reduceEq, Int.reduceNe, Int.cast_ofNat_Int, Int.reduceNeg, decide_true, decide_false, not_true_eq_false, not_false_eq_true, decide_eq_true_eq, decide_eq_false_iff_not, Bool.not_eq_true', Bool.not_eq_false', Bool.not_true, Bool.not_false, Bool.false_eq_true, Bool.true_eq_false, Bool.not_eq_true, Bool.not_eq_false, beq_iff_eq, beq_eq_false_iff_ne, bne_iff_ne, bne_eq_false_iff_eq, ne_eq, Int.not_lt, Int.not_le, ge_iff_le, gt_iff_lt, Decidable.not_not, reduceCtorEq, *] at hc) <;> (try (exfalso; omega)))
    | ((with_reducible apply opsF.und); (case hg => rfl))
    | ((with_reducible apply dopsF.op rfl); (case hs => (first | exact tHT | exact tHS)))
    | ((with_reducible apply dopsF.call); (case hx => exact tAG))
    | ((with_reducible apply dopsF.want); (case hg => exact tEV); (case hb => exact tNB))
    | ((with_reducible apply dopsF.skip); (case hg => exact tEV); (case hb => exact tNB))
    | ((with_reducible apply dopsF.und); (case hg => rfl))
    | ((with_reducible apply stabF.und); rfl)
    | ((with_reducible apply stabF.want); (case hg => exact tEV); (case hb => exact tNB))
    | ((with_reducible apply stabF.skip); (case hg => exact tEV); (case hb => exact tNB))
    | ((with_reducible apply stabF.op); (case hs => (first | exact tHT | exact tHS)); (case hv => exact tSV))
    | ((with_reducible apply retF.r); (case hv => exact tRS))
    | ((with_reducible apply retF.nn); (case hv => exact tRS))
    | ((refine Call.use (hans _) ?_)))
    all_goals rfl
  have hb2 : ¬ (5000 : Int) < b.length := by omega
  obtain ⟨tk, h2, happ⟩ := app_copy b hb AH.start
  have hde := fun tok h => decode_call (w0 := W) hP hE b tok h (by omega)
  cases hd : decM b with
  | none =>
    rw [hd] at hde
    have hsa := fun t1 t2 t3 u1 u2 u3 h => rsame_call (w0 := W) zeroM zeroM t1 t2 t3 u1 u2 u3 h (by decide) (by decide) (by decide)
    rw [sameM_refl] at hsa
    unfold decV at hde
    have hz : ∀ t1 t2 t3, msgC zeroM t1 t2 t3 = [.v (.int .i64 0), .v (.int .i64 0), .v (.int .i64 0), .v (.int .i64 0), .v (.int .i64 0), .v (.string (bs [])), .list 1 [] t1, .list 1 [] t2, .list 1 [] t3] := fun _ _ _ => rfl
    simp only [hz] at hde hsa
    clear hz hd hsm
    repeat' (first
    | ((with_reducible apply opsF.op rfl); (case hs => (first | exact tHT | exact tHS)))
    | with_reducible (first | apply opsF.nil | apply seqF.nn | apply vcF.seq | apply vcF.region | apply vcF.dregion | apply vcF.skip | apply vcF.ret | apply seqF.r | apply dopsF.nil | apply stabsF.nil | apply stabsF.cons | apply dopsF.cont)
    | ((with_reducible apply opsF.call); (case hx => exact tAG))
    | ((with_reducible apply opsF.want); (case hg => exact tEV); (case hb => exact tNB))
    | ((with_reducible apply opsF.skip); (case hg => exact tEV); (case hb => exact tNB))
    | (first | ((with_reducible apply opsF.case); (case hg => exact tEV)) | ((with_reducible apply vcF.cond); (case hx => exact tEV)) | ((with_reducible apply dopsF.case); (case hg => exact tEV))) <;> ((intro hc; try simp only [Int.reduceLT, Int.reduceLE, Int.reduceEq, Int.reduceNe, Int.cast_ofNat_Int, Int.reduceNeg, decide_true, decide_false, not_true_eq_false, not_false_eq_true, decide_eq_true_eq, decide_eq_false_iff_not, Bool.not_eq_true', Bool.not_eq_false', Bool.not_true, Bool.not_false, Bool.false_eq_true, Bool.true_eq_false, Bool.not_eq_true, Bool.not_eq_false, beq_iff_eq, beq_eq_false_iff_ne, bne_iff_ne, bne_eq_false_iff_eq, ne_eq, Int.not_lt, Int.not_le, ge_iff_le, gt_iff_lt, Decidable.not_not, reduceCtorEq, *] at hc) <;> (try (exfalso; omega)))
    | ((with_reducible apply opsF.und); (case hg => rfl))
    | ((with_reducible apply dopsF.op rfl); (case hs => (first | exact tHT | exact tHS)))
    | ((with_reducible apply dopsF.call); (case hx => exact tAG))
    | ((with_reducible apply dopsF.want); (case hg => exact tEV); (case hb => exact tNB))
    | ((with_reducible apply dopsF.skip); (case hg => exact tEV); (case hb => exact tNB))
    | ((with_reducible apply dopsF.und); (case hg => rfl))
    | ((with_reducible apply stabF.und); rfl)
    | ((with_reducible apply stabF.want); (case hg => exact tEV); (case hb => exact tNB))
    | ((with_reducible apply stabF.skip); (case hg => exact tEV); (case hb => exact tNB))
    | ((with_reducible apply stabF.op); (case hs => (first | exact tHT | exact tHS)); (case hv => exact tSV))
    | ((with_reducible apply retF.r); (case hv => exact tRS))
    | ((with_reducible apply retF.nn); (case hv => exact tRS))
    | ((with_reducible apply opsF.op rfl); (case hs => exact happ _ _ _ tEV tEV))
    | ((refine Call.use (hans _) ?_))
    | ((refine Call.use (hde _ _) ?_))
    | ((refine Call.use (hsa _ _ _ _ _ _ _) ?_)))
    all_goals rfl
  | some m =>
    obtain ⟨hg, ht⟩ := decM_some hd
    have hmo : MOk m := mok_text (by rw [ht]; omega)
    have hgo := fun h => refgood_call (w0 := W) m .no .no .no h hmo
    have htx := fun h => reftext_call (w0 := W) m .no .no .no h hmo hg
    rw [hd] at hde
    rw [hg] at hgo
    rw [ht] at htx
    unfold decV at hde
    unfold msgC at hde hgo htx
    clear hd hsm hg ht hmo
    repeat' (first
    | ((with_reducible apply opsF.op rfl); (case hs => (first | exact tHT | exact tHS)))
    | with_reducible (first | apply opsF.nil | apply seqF.nn | apply vcF.seq | apply vcF.region | apply vcF.dregion | apply vcF.skip | apply vcF.ret | apply seqF.r | apply dopsF.nil | apply stabsF.nil | apply stabsF.cons | apply dopsF.cont)
    | ((with_reducible apply opsF.call); (case hx => exact tAG))
    | ((with_reducible apply opsF.want); (case hg => exact tEV); (case hb => exact tNB))
    | ((with_reducible apply opsF.skip); (case hg => exact tEV); (case hb => exact tNB))
    | (first | ((with_reducible apply opsF.case); (case hg => exact tEV)) | ((with_reducible apply vcF.cond); (case hx => exact tEV)) | ((with_reducible apply dopsF.case); (case hg => exact tEV))) <;> ((intro hc; try simp only [Int.reduceLT, Int.reduceLE, Int.reduceEq, Int.reduceNe, Int.cast_ofNat_Int, Int.reduceNeg, decide_true, decide_false, not_true_eq_false, not_false_eq_true, decide_eq_true_eq, decide_eq_false_iff_not, Bool.not_eq_true', Bool.not_eq_false', Bool.not_true, Bool.not_false, Bool.false_eq_true, Bool.true_eq_false, Bool.not_eq_true, Bool.not_eq_false, beq_iff_eq, beq_eq_false_iff_ne, bne_iff_ne, bne_eq_false_iff_eq, ne_eq, Int.not_lt, Int.not_le, ge_iff_le, gt_iff_lt, Decidable.not_not, reduceCtorEq, *] at hc) <;> (try (exfalso; omega)))
    | ((with_reducible apply opsF.und); (case hg => rfl))
    | ((with_reducible apply dopsF.op rfl); (case hs => (first | exact tHT | exact tHS)))
    | ((with_reducible apply dopsF.call); (case hx => exact tAG))
    | ((with_reducible apply dopsF.want); (case hg => exact tEV); (case hb => exact tNB))
    | ((with_reducible apply dopsF.skip); (case hg => exact tEV); (case hb => exact tNB))
    | ((with_reducible apply dopsF.und); (case hg => rfl))
    | ((with_reducible apply stabF.und); rfl)
    | ((with_reducible apply stabF.want); (case hg => exact tEV); (case hb => exact tNB))
    | ((with_reducible apply stabF.skip); (case hg => exact tEV); (case hb => exact tNB))
    | ((with_reducible apply stabF.op); (case hs => (first | exact tHT | exact tHS)); (case hv => exact tSV))
    | ((with_reducible apply retF.r); (case hv => exact tRS))
    | ((with_reducible apply retF.nn); (case hv => exact tRS))
    | ((with_reducible apply opsF.op rfl); (case hs => exact happ _ _ _ tEV tEV))
    | ((refine Call.use (hans _) ?_))
    | ((refine Call.use (hde _ _) ?_))
    | ((refine Call.use (hgo _) ?_))
    | ((refine Call.use (htx _) ?_)))
    all_goals rfl
theorem law_EnvReads (W : World) (hL : laidMetH P Go.Proofs.YtnpdmkbfphcioaaGreatDoor.Rows.envReadsRow.laid W) (x0 : (Ty.slice (.int .u8)).D) (h0 : (Ty.slice (.int .u8)).wf x0) (g0 : (Ty.slice (.int .u8)).fit 140737488351232 x0) :
    Call P W law11_EnvReads [(Ty.slice (.int .u8)).val x0] AH.start fun v _ => v = .v (.bool true) := by
  obtain ⟨b, e, hb⟩ := brows_ty x0 h0
  have hl : b.length ≤ 140737488351232 := Nat.le_trans (Nat.le_of_eq hb) g0.1
  rw [e]
  exact envReads_main W (powTab_of hL (by kernel_rfl)) (errVars_of hL (by kernel_rfl) (by kernel_rfl)) b hl
end Go.Abs.F
