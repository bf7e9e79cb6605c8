/- Layer 26: any bytes of a step's text come again. -/
import Derived.Test.YthmfeheegoalfaaDoorLwB
namespace Go.Abs.F
open Go Go.Abs
set_option maxRecDepth 10000
set_option maxHeartbeats 20000000
set_option linter.unusedSimpArgs false
set_option linter.unusedVariables false
variable {w0 : World}
theorem bytes_main (W : World) (hT : PowTab W) (hE : ErrVars W) (b : List UInt8) (hl : b.length ≤ 140737488351232) (k : Int) (hk0 : 0 ≤ k) (hk : k ≤ 255) : Call P W law26_ScriptBytes [.list 1 (brows b) .no, .v (.int .u8 k)] AH.start fun v _ => v = .v (.bool true) := by
  have xl := trows_len
  have xb := brows_len
  have hans := fun h => answers_call (w0 := W) hT hE h
  refine Call.bodyF b_law26_ScriptBytes rfl rfl ?_
  unfold c_law26_ScriptBytes
  rcases Nat.lt_or_ge 1000 b.length with hbig | hsm
  · repeat' (first
    | ((with_reducible apply opsF.op rfl); (case hs => (first | exact tHT | exact tHS)))
    | with_reducible (first | apply opsF.nil | apply seqF.nn | apply vcF.seq | apply vcF.region | apply vcF.dregion | apply vcF.skip | apply vcF.block | apply vcF.exit | apply vcF.ret | apply vcF.loop | apply seqF.e | apply seqF.r | apply blkF.nn | apply blkF.e | apply blkF.r | apply blkF.o rfl | apply dopsF.nil | apply stabsF.nil | apply stabsF.cons | apply dopsF.cont)
    | ((with_reducible apply opsF.call); (case hx => exact tAG))
    | ((with_reducible apply opsF.want); (case hg => exact tEV); (case hb => exact tNB))
    | ((with_reducible apply opsF.skip); (case hg => exact tEV); (case hb => exact tNB))
    | (first | ((with_reducible apply opsF.case); (case hg => exact tEV)) | ((with_reducible apply vcF.cond); (case hx => exact tEV)) | ((with_reducible apply dopsF.case); (case hg => exact tEV))) <;> ((intro hc; try simp only [Int.reduceLT, Int.reduceLE, Int.reduceEq, Int.reduceNe, Int.cast_ofNat_Int, Int.reduceNeg, decide_true, decide_false, not_true_eq_false, not_false_eq_true, decide_eq_true_eq, decide_eq_false_iff_not, Bool.not_eq_true', Bool.not_eq_false', Bool.not_true, Bool.not_false, Bool.false_eq_true, Bool.true_eq_false, Bool.not_eq_true, Bool.not_eq_false, beq_iff_eq, beq_eq_false_iff_ne, bne_iff_ne, bne_eq_false_iff_eq, ne_eq, Int.not_lt, Int.not_le, ge_iff_le, gt_iff_lt, Decidable.not_not, reduceCtorEq, *] at hc) <;> (try (exfalso; omega)))
    | ((with_reducible apply opsF.und); (case hg => rfl))
    | ((with_reducible apply opsF.callv); (case hf => exact tEV); (case hx => exact tCV))
    | ((with_reducible apply dopsF.op rfl); (case hs => (first | exact tHT | exact tHS)))
    | ((with_reducible apply dopsF.call); (case hx => exact tAG))
    | ((with_reducible apply dopsF.want); (case hg => exact tEV); (case hb => exact tNB))
    | ((with_reducible apply dopsF.skip); (case hg => exact tEV); (case hb => exact tNB))
    | ((with_reducible apply dopsF.und); (case hg => rfl))
    | ((with_reducible apply stabF.und); rfl)
    | ((with_reducible apply stabF.want); (case hg => exact tEV); (case hb => exact tNB))
    | ((with_reducible apply stabF.skip); (case hg => exact tEV); (case hb => exact tNB))
    | ((with_reducible apply stabF.op); (case hs => (first | exact tHT | exact tHS)); (case hv => exact tSV))
    | ((with_reducible apply retF.r); (case hv => exact tRS))
    | ((with_reducible apply retF.nn); (case hv => exact tRS))
    | ((refine (hans _).mono fun v h1 hp => ?_); obtain ⟨rfl, he⟩ := hp; have hN := he.n; have hO := he.objs; (try simp only [alloc_n, set_n, newTok_n, bump_n] at hN hO)))
    all_goals rfl
  · have hls : LsIn [((k, 0, 0, b) : St)] := ⟨by simp, by simp; omega, by simp [inR]; omega, by simp [inR], by simp [inR]⟩
    have hok : StOk [((k, 0, 0, b) : St)] := ⟨by simp, by simp; omega, hls.rk, hls.ra, hls.rb⟩
    have hg : goodS 0 [((k, 0, 0, b) : St)] = true := by
      simp [goodS, stFits, fitsS]; omega
    have hpv : printV 0 [((k, 0, 0, b) : St)] = .tup [.v (.string (bs (printS 0 [((k, 0, 0, b) : St)]))), .v (.int .i64 0)] := by rw [printV, hg]; rfl
    have hps := parseS_print hg
    have hpl := printS_le (n := 0) (by simp [inR]) hls
    have hpp := fun h => pprint_call (w0 := W) hT 0 [((k, 0, 0, b) : St)] .full h (by simp [inR]) hok
    have hpa := fun h => parse_call (w0 := W) hT hE (printS 0 [((k, 0, 0, b) : St)]) h (by simp [txtSum] at hpl; omega)
    rw [hps] at hpa
    rw [hpv] at hpp
    have htr : trows [((k, 0, 0, b) : St)] = [[.v (.int .i64 k), .v (.int .i64 0), .v (.int .i64 0), .v (.string (bs b))]] := rfl
    simp only [parV, if_true, htr] at hpa hpp
    clear hps hpv hg hok hls
    generalize printS 0 [((k, 0, 0, b) : St)] = s at *
    repeat' (first
    | ((with_reducible apply opsF.op rfl); (case hs => (first | exact tHT | exact tHS)))
    | with_reducible (first | apply opsF.nil | apply seqF.nn | apply vcF.seq | apply vcF.region | apply vcF.dregion | apply vcF.skip | apply vcF.block | apply vcF.exit | apply vcF.ret | apply vcF.loop | apply seqF.e | apply seqF.r | apply blkF.nn | apply blkF.e | apply blkF.r | apply blkF.o rfl | apply dopsF.nil | apply stabsF.nil | apply stabsF.cons | apply dopsF.cont)
    | ((with_reducible apply opsF.call); (case hx => exact tAG))
    | ((with_reducible apply opsF.want); (case hg => exact tEV); (case hb => exact tNB))
    | ((with_reducible apply opsF.skip); (case hg => exact tEV); (case hb => exact tNB))
    | (first | ((with_reducible apply opsF.case); (case hg => exact tEV)) | ((with_reducible apply vcF.cond); (case hx => exact tEV)) | ((with_reducible apply dopsF.case); (case hg => exact tEV))) <;> ((intro hc; try simp only [Int.reduceLT, Int.reduceLE, Int.reduceEq, Int.reduceNe, Int.cast_ofNat_Int, Int.reduceNeg, decide_true, decide_false, not_true_eq_false, not_false_eq_true, decide_eq_true_eq, decide_eq_false_iff_not, Bool.not_eq_true', Bool.not_eq_false', Bool.not_true, Bool.not_false, Bool.false_eq_true, Bool.true_eq_false, Bool.not_eq_true, Bool.not_eq_false, beq_iff_eq, beq_eq_false_iff_ne, bne_iff_ne, bne_eq_false_iff_eq, ne_eq, Int.not_lt, Int.not_le, ge_iff_le, gt_iff_lt, Decidable.not_not, reduceCtorEq, *] at hc) <;> (try (exfalso; omega)))
    | ((with_reducible apply opsF.und); (case hg => rfl))
    | ((with_reducible apply opsF.callv); (case hf => exact tEV); (case hx => exact tCV))
    | ((with_reducible apply dopsF.op rfl); (case hs => (first | exact tHT | exact tHS)))
    | ((with_reducible apply dopsF.call); (case hx => exact tAG))
    | ((with_reducible apply dopsF.want); (case hg => exact tEV); (case hb => exact tNB))
    | ((with_reducible apply dopsF.skip); (case hg => exact tEV); (case hb => exact tNB))
    | ((with_reducible apply dopsF.und); (case hg => rfl))
    | ((with_reducible apply stabF.und); rfl)
    | ((with_reducible apply stabF.want); (case hg => exact tEV); (case hb => exact tNB))
    | ((with_reducible apply stabF.skip); (case hg => exact tEV); (case hb => exact tNB))
    | ((with_reducible apply stabF.op); (case hs => (first | exact tHT | exact tHS)); (case hv => exact tSV))
    | ((with_reducible apply retF.r); (case hv => exact tRS))
    | ((with_reducible apply retF.nn); (case hv => exact tRS))
    | ((refine (hans _).mono fun v h1 hp => ?_); obtain ⟨rfl, he⟩ := hp; have hN := he.n; have hO := he.objs; (try simp only [alloc_n, set_n, newTok_n, bump_n] at hN hO))
    | ((refine (hpp _).mono fun v h1 hp => ?_); obtain ⟨rfl, he⟩ := hp; have hN := he.n; have hO := he.objs; (try simp only [alloc_n, set_n, newTok_n, bump_n] at hN hO))
    | ((refine (hpa _).mono fun v h1 hp => ?_); obtain ⟨⟨tk, rfl⟩, he⟩ := hp; have hN := he.n; have hO := he.objs; (try simp only [alloc_n, set_n, newTok_n, bump_n] at hN hO)))
    all_goals simp
theorem u8_wf {n : Int} (h : (Lit.int .u8 n).wf = true) : 0 ≤ n ∧ n ≤ 255 := by
  simp [Lit.wf, IntKind.min, IntKind.max, IntKind.signed, IntKind.bits] at h
  exact ⟨by omega, by omega⟩
theorem brows_key {f : Int → List AV} (hf : ∀ x, f x = [AV.v (.int .u8 x)]) : ∀ m : List Int, (∀ x ∈ m, 0 ≤ x ∧ x ≤ 255) → m.map f = brows (m.map fun x : Int => UInt8.ofNat x.toNat)
  | [], _ => rfl
  | x :: m, hm => by
    have hx := hm x (by simp)
    have ih := brows_key hf m (fun y hy => hm y (List.mem_cons_of_mem _ hy))
    simp only [List.map_cons, brows] at ih ⊢
    rw [ih, hf, u8n (show x.toNat < 256 by omega), Int.toNat_of_nonneg hx.1]
theorem brows_ty (l : (Ty.slice (.int .u8)).D) (hw : (Ty.slice (.int .u8)).wf l) : ∃ b : List UInt8, (Ty.slice (.int .u8)).val l = .list 1 (brows b) .no ∧ b.length = List.length l := by
  refine ⟨List.map (fun x : Int => UInt8.ofNat x.toNat) l, ?_, List.length_map _⟩
  simp only [Ty.val]
  congr 1
  exact brows_key (f := (Ty.int .u8).enc) (fun x => rfl) l (fun x hx => u8_wf (hw.2 x hx))
theorem law_ScriptBytes (W : World) (hL : laidMetH P Go.Proofs.YthmfeheegoalfaaDoor.Rows.scriptBytesRow.laid W) (x0 : (Ty.slice (.int .u8)).D) (h0 : (Ty.slice (.int .u8)).wf x0) (g0 : (Ty.slice (.int .u8)).fit 140737488351232 x0)
    (x1 : (Ty.int .u8).D) (h1 : (Ty.int .u8).wf x1) (g1 : (Ty.int .u8).fit 140737488351232 x1) :
    Call P W law26_ScriptBytes [(Ty.slice (.int .u8)).val x0, (Ty.int .u8).val x1] AH.start fun v _ => v = .v (.bool true) := by
  obtain ⟨b, e, hb⟩ := brows_ty x0 h0
  have hx := u8_wf h1
  have hl : b.length ≤ 140737488351232 := Nat.le_trans (Nat.le_of_eq hb) g0.1
  rw [e]
  exact bytes_main W (powTab_of hL (by kernel_rfl)) (errVars_of hL (by kernel_rfl) (by kernel_rfl)) b hl x1 hx.1 hx.2
end Go.Abs.F
