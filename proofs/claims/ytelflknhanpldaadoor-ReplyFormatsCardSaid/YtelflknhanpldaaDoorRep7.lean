/- Layer 4: the reference's format. -/
import Derived.Test.YtelflknhanpldaaDoorRep6
namespace Go.Abs.F
open Go Go.Abs
set_option maxRecDepth 10000
set_option maxHeartbeats 20000000
set_option linter.unusedSimpArgs false
set_option linter.unusedVariables false
variable {w0 : World}
/-- A byte that a reply's line may have. -/
def fine (b : UInt8) : Bool := decide (32 ≤ (b.toNat : Int)) && decide ((b.toNat : Int) ≤ 126)
def lineOk (s : List UInt8) : Bool := decide (s.length ≤ 400) && s.all fine
/-- A reply's line. -/
def fmtLine (c : Nat) (last : Bool) (s : List UInt8) : List UInt8 := udecS c ++ [if last then 32 else 45] ++ s ++ [13, 10]
def fmtGo (c : Nat) : List (List UInt8) → List UInt8
  | [] => []
  | s :: r => fmtLine c r.isEmpty s ++ fmtGo c r
def fmtOk (c : Int) (ls : List (List UInt8)) : Bool := decide (200 ≤ c) && decide (c ≤ 599) && !ls.isEmpty && ls.all lineOk
def fmtV (c : Int) (ls : List (List UInt8)) : AV := if fmtOk c ls then .tup [.v (.string (bs (fmtGo c.toNat ls))), .v (.int .i64 0)] else .tup [.v (.string (bs [])), .v (.int .i64 2)]
theorem drop_cons {α : Type} {l : List α} {i : Nat} {x : α} (hx : l[i]? = some x) : l.drop i = x :: l.drop (i + 1) := by
  obtain ⟨h, rfl⟩ := List.getElem?_eq_some_iff.1 hx
  exact List.drop_eq_getElem_cons h
theorem all_of_get {α : Type} {p : α → Bool} {l : List α} {i : Nat} {x : α} (hx : l[i]? = some x) (h : p x = false) : l.all p = false := by
  rw [List.all_eq_false]
  exact ⟨x, List.mem_of_getElem? hx, by simp [h]⟩
theorem fmtV_bad {c : Int} {ls : List (List UInt8)} (h : fmtOk c ls = false) : fmtV c ls = .tup [.v (.string (bs [])), .v (.int .i64 2)] := by rw [fmtV, h]; rfl
theorem fmtV_line {c : Int} {ls : List (List UInt8)} {i : Nat} {s : List UInt8} (hs : ls[i]? = some s) (h : lineOk s = false) : fmtV c ls = .tup [.v (.string (bs [])), .v (.int .i64 2)] := by
  apply fmtV_bad
  rw [fmtOk, all_of_get hs h, Bool.and_false]
theorem format_call (c : Int) (ls : List (List UInt8)) (tok : Tok) (h : AH) (hl : ls.length ≤ 140737488351232) : Call P w0 ref01_Format [.agg [.v (.int .i64 c), .list 1 (srows ls) tok]] h
    (fun v h' => v = fmtV c ls ∧ Ext h h') := by
  have xl := srows_len
  have xg := srows_get
  by_cases hc0 : 200 ≤ c ∧ c ≤ 599 ∧ ls ≠ []
  · obtain ⟨hc1, hc2, hne⟩ := hc0
    obtain ⟨n, rfl⟩ : ∃ n : Nat, c = n := ⟨c.toNat, by omega⟩
    have hlen : 0 < ls.length := List.length_pos_iff.2 hne
    have hd := udecS_20 n (by omega)
    refine Call.bodyF b_ref01_Format rfl rfl ?_
    unfold c_ref01_Format
    repeat' (first
    | ((with_reducible apply opsF.op rfl); (case hs => (first | exact tHT | exact tHS)))
    | with_reducible (first | apply opsF.nil | apply seqF.nn | apply vcF.seq | apply vcF.region | apply vcF.dregion | apply vcF.skip | apply vcF.block | apply vcF.exit | apply vcF.ret | apply vcF.loop | apply seqF.e | apply seqF.r | apply blkF.nn | apply blkF.e | apply blkF.r | apply blkF.o rfl | apply dopsF.nil | apply stabsF.nil | apply stabsF.cons | apply dopsF.cont)
    | ((with_reducible apply opsF.call); (case hx => exact tAG))
    | ((with_reducible apply opsF.want); (case hg => exact tEV); (case hb => exact tNB))
    | ((with_reducible apply opsF.skip); (case hg => exact tEV); (case hb => exact tNB))
    | (first | ((with_reducible apply opsF.case); (case hg => exact tEV)) | ((with_reducible apply vcF.cond); (case hx => exact tEV)) | ((with_reducible apply dopsF.case); (case hg => exact tEV))) <;> ((intro hc; try simp only [Int.reduceLT, Int.reduceLE, Int.reduceEq, Int.reduceNe, Int.cast_ofNat_Int, Int.reduceNeg, decide_true, decide_false, not_true_eq_false, not_false_eq_true, decide_eq_true_eq, decide_eq_false_iff_not, Bool.not_eq_true', Bool.not_eq_false', Bool.not_true, Bool.not_false, Bool.false_eq_true, Bool.true_eq_false, Bool.not_eq_true, Bool.not_eq_false, beq_iff_eq, beq_eq_false_iff_ne, bne_iff_ne, bne_eq_false_iff_eq, ne_eq, Int.not_lt, Int.not_le, ge_iff_le, gt_iff_lt, Decidable.not_not, reduceCtorEq, *] at hc) <;> (try (exfalso; omega)))
    | ((with_reducible apply opsF.und); (case hg => rfl))
    | ((with_reducible apply opsF.callv); (case hf => exact tEV); (case hx => exact tCV))
    | ((with_reducible apply dopsF.op rfl); (case hs => (first | exact tHT | exact tHS)))
    | ((with_reducible apply dopsF.call); (case hx => exact tAG))
    | ((with_reducible apply dopsF.want); (case hg => exact tEV); (case hb => exact tNB))
    | ((with_reducible apply dopsF.skip); (case hg => exact tEV); (case hb => exact tNB))
    | ((with_reducible apply dopsF.und); (case hg => rfl))
    | ((with_reducible apply stabF.und); rfl)
    | ((with_reducible apply stabF.want); (case hg => exact tEV); (case hb => exact tNB))
    | ((with_reducible apply stabF.skip); (case hg => exact tEV); (case hb => exact tNB))
    | ((with_reducible apply stabF.op); (case hs => (first | exact tHT | exact tHS)); (case hv => exact tSV))
    | ((with_reducible apply retF.r); (case hv => exact tRS))
    | ((with_reducible apply retF.nn); (case hv => exact tRS)))
    refine LpF.ind rfl (fun i : Nat => ls.length - i) (fun i σ h' => h' = h.alloc (.cells [.v (.int .i64 n), .list 1 (srows ls) tok]) ∧ σ 1 = .ptr h.n 0 ∧ σ 5 = .v (.int .i64 (i : Nat)) ∧ i ≤ ls.length ∧ (ls.take i).all lineOk = true ∧ ∃ pre : List UInt8, σ 4 = .v (.string (bs pre)) ∧ pre.length ≤ 500 * i ∧ fmtGo n ls = pre ++ fmtGo n (ls.drop i)) ?_ (i := 0) ⟨rfl, rfl, rfl, Nat.zero_le _, rfl, [], rfl, Nat.zero_le _, rfl⟩
    rintro i σ h' ⟨rfl, h1, h5, hi, hok, pre, h4, hp, hS⟩
    rcases Nat.lt_or_ge i ls.length with hlt | hge
    · obtain ⟨s, hs⟩ : ∃ s, ls[i]? = some s := ⟨_, List.getElem?_eq_getElem hlt⟩
      repeat' (first
    | ((with_reducible apply opsF.op rfl); (case hs => (first | exact tHT | exact tHS)))
    | with_reducible (first | apply opsF.nil | apply seqF.nn | apply vcF.seq | apply vcF.region | apply vcF.dregion | apply vcF.skip | apply vcF.block | apply vcF.exit | apply vcF.ret | apply vcF.loop | apply seqF.e | apply seqF.r | apply blkF.nn | apply blkF.e | apply blkF.r | apply blkF.o rfl | apply dopsF.nil | apply stabsF.nil | apply stabsF.cons | apply dopsF.cont)
    | ((with_reducible apply opsF.call); (case hx => exact tAG))
    | ((with_reducible apply opsF.want); (case hg => exact tEV); (case hb => exact tNB))
    | ((with_reducible apply opsF.skip); (case hg => exact tEV); (case hb => exact tNB))
    | (first | ((with_reducible apply opsF.case); (case hg => exact tEV)) | ((with_reducible apply vcF.cond); (case hx => exact tEV)) | ((with_reducible apply dopsF.case); (case hg => exact tEV))) <;> ((intro hc; try simp only [Int.reduceLT, Int.reduceLE, Int.reduceEq, Int.reduceNe, Int.cast_ofNat_Int, Int.reduceNeg, decide_true, decide_false, not_true_eq_false, not_false_eq_true, decide_eq_true_eq, decide_eq_false_iff_not, Bool.not_eq_true', Bool.not_eq_false', Bool.not_true, Bool.not_false, Bool.false_eq_true, Bool.true_eq_false, Bool.not_eq_true, Bool.not_eq_false, beq_iff_eq, beq_eq_false_iff_ne, bne_iff_ne, bne_eq_false_iff_eq, ne_eq, Int.not_lt, Int.not_le, ge_iff_le, gt_iff_lt, Decidable.not_not, reduceCtorEq, *] at hc) <;> (try (exfalso; omega)))
    | ((with_reducible apply opsF.und); (case hg => rfl))
    | ((with_reducible apply opsF.callv); (case hf => exact tEV); (case hx => exact tCV))
    | ((with_reducible apply dopsF.op rfl); (case hs => (first | exact tHT | exact tHS)))
    | ((with_reducible apply dopsF.call); (case hx => exact tAG))
    | ((with_reducible apply dopsF.want); (case hg => exact tEV); (case hb => exact tNB))
    | ((with_reducible apply dopsF.skip); (case hg => exact tEV); (case hb => exact tNB))
    | ((with_reducible apply dopsF.und); (case hg => rfl))
    | ((with_reducible apply stabF.und); rfl)
    | ((with_reducible apply stabF.want); (case hg => exact tEV); (case hb => exact tNB))
    | ((with_reducible apply stabF.skip); (case hg => exact tEV); (case hb => exact tNB))
    | ((with_reducible apply stabF.op); (case hs => (first | exact tHT | exact tHS)); (case hv => exact tSV))
    | ((with_reducible apply retF.r); (case hv => exact tRS))
    | ((with_reducible apply retF.nn); (case hv => exact tRS)))
      · refine ⟨?_, Ext.alloc _ _⟩
        rw [fmtV_line hs]
        simp [lineOk]; omega
      · refine LpF.ind rfl (fun k : Nat => s.length - k) (fun k σ h' => h' = h.alloc (.cells [.v (.int .i64 n), .list 1 (srows ls) tok]) ∧ σ 1 = .ptr h.n 0 ∧ σ 5 = .v (.int .i64 (i : Nat)) ∧ σ 4 = .v (.string (bs pre)) ∧ σ 6 = .v (.string (bs s)) ∧ σ 7 = .v (.int .i64 (k : Nat)) ∧ k ≤ s.length ∧ (s.take k).all fine = true) ?_ (i := 0) ⟨rfl, h1, h5, h4, rfl, rfl, Nat.zero_le _, rfl⟩
        clear h1 h5 h4
        rintro k σ h' ⟨rfl, h1, h5, h4, h6, h7, hk, hf⟩
        rcases Nat.lt_or_ge k s.length with hlt2 | hge2
        · obtain ⟨x, hx⟩ : ∃ x, s[k]? = some x := ⟨_, List.getElem?_eq_getElem hlt2⟩
          repeat' (first
    | ((with_reducible apply opsF.op rfl); (case hs => (first | exact tHT | exact tHS)))
    | with_reducible (first | apply opsF.nil | apply seqF.nn | apply vcF.seq | apply vcF.region | apply vcF.dregion | apply vcF.skip | apply vcF.block | apply vcF.exit | apply vcF.ret | apply vcF.loop | apply seqF.e | apply seqF.r | apply blkF.nn | apply blkF.e | apply blkF.r | apply blkF.o rfl | apply dopsF.nil | apply stabsF.nil | apply stabsF.cons | apply dopsF.cont)
    | ((with_reducible apply opsF.call); (case hx => exact tAG))
    | ((with_reducible apply opsF.want); (case hg => exact tEV); (case hb => exact tNB))
    | ((with_reducible apply opsF.skip); (case hg => exact tEV); (case hb => exact tNB))
    | (first | ((with_reducible apply opsF.case); (case hg => exact tEV)) | ((with_reducible apply vcF.cond); (case hx => exact tEV)) | ((with_reducible apply dopsF.case); (case hg => exact tEV))) <;> ((intro hc; try simp only [Int.reduceLT, Int.reduceLE, Int.reduceEq, Int.reduceNe, Int.cast_ofNat_Int, Int.reduceNeg, decide_true, decide_false, not_true_eq_false, not_false_eq_true, decide_eq_true_eq, decide_eq_false_iff_not, Bool.not_eq_true', Bool.not_eq_false', Bool.not_true, Bool.not_false, Bool.false_eq_true, Bool.true_eq_false, Bool.not_eq_true, Bool.not_eq_false, beq_iff_eq, beq_eq_false_iff_ne, bne_iff_ne, bne_eq_false_iff_eq, ne_eq, Int.not_lt, Int.not_le, ge_iff_le, gt_iff_lt, Decidable.not_not, reduceCtorEq, *] at hc) <;> (try (exfalso; omega)))
    | ((with_reducible apply opsF.und); (case hg => rfl))
    | ((with_reducible apply opsF.callv); (case hf => exact tEV); (case hx => exact tCV))
    | ((with_reducible apply dopsF.op rfl); (case hs => (first | exact tHT | exact tHS)))
    | ((with_reducible apply dopsF.call); (case hx => exact tAG))
    | ((with_reducible apply dopsF.want); (case hg => exact tEV); (case hb => exact tNB))
    | ((with_reducible apply dopsF.skip); (case hg => exact tEV); (case hb => exact tNB))
    | ((with_reducible apply dopsF.und); (case hg => rfl))
    | ((with_reducible apply stabF.und); rfl)
    | ((with_reducible apply stabF.want); (case hg => exact tEV); (case hb => exact tNB))
    | ((with_reducible apply stabF.skip); (case hg => exact tEV); (case hb => exact tNB))
    | ((with_reducible apply stabF.op); (case hs => (first | exact tHT | exact tHS)); (case hv => exact tSV))
    | ((with_reducible apply retF.r); (case hv => exact tRS))
    | ((with_reducible apply retF.nn); (case hv => exact tRS)))
          · have hb : lineOk s = false := by rw [lineOk, all_of_get hx (by simp [fine]; omega), Bool.and_false]
            exact ⟨(fmtV_line hs hb).symm, Ext.alloc _ _⟩
          · refine ⟨k + 1, by omega, rfl, h1, h5, h4, h6, rfl, by omega, ?_⟩
            rw [List.take_add_one, hx, List.all_append, hf]
            simp [fine]; omega
          · have hb : lineOk s = false := by rw [lineOk, all_of_get hx (by simp [fine]; omega), Bool.and_false]
            exact ⟨(fmtV_line hs hb).symm, Ext.alloc _ _⟩
        · obtain rfl : k = s.length := by omega
          have hfs : s.all fine = true := by rw [List.take_length] at hf; exact hf
          repeat' (first
    | ((with_reducible apply opsF.op rfl); (case hs => (first | exact tHT | exact tHS)))
    | with_reducible (first | apply opsF.nil | apply seqF.nn | apply vcF.seq | apply vcF.region | apply vcF.dregion | apply vcF.skip | apply vcF.block | apply vcF.exit | apply vcF.ret | apply vcF.loop | apply seqF.e | apply seqF.r | apply blkF.nn | apply blkF.e | apply blkF.r | apply blkF.o rfl | apply dopsF.nil | apply stabsF.nil | apply stabsF.cons | apply dopsF.cont)
    | ((with_reducible apply opsF.call); (case hx => exact tAG))
    | ((with_reducible apply opsF.want); (case hg => exact tEV); (case hb => exact tNB))
    | ((with_reducible apply opsF.skip); (case hg => exact tEV); (case hb => exact tNB))
    | (first | ((with_reducible apply opsF.case); (case hg => exact tEV)) | ((with_reducible apply vcF.cond); (case hx => exact tEV)) | ((with_reducible apply dopsF.case); (case hg => exact tEV))) <;> ((intro hc; try simp only [Int.reduceLT, Int.reduceLE, Int.reduceEq, Int.reduceNe, Int.cast_ofNat_Int, Int.reduceNeg, decide_true, decide_false, not_true_eq_false, not_false_eq_true, decide_eq_true_eq, decide_eq_false_iff_not, Bool.not_eq_true', Bool.not_eq_false', Bool.not_true, Bool.not_false, Bool.false_eq_true, Bool.true_eq_false, Bool.not_eq_true, Bool.not_eq_false, beq_iff_eq, beq_eq_false_iff_ne, bne_iff_ne, bne_eq_false_iff_eq, ne_eq, Int.not_lt, Int.not_le, ge_iff_le, gt_iff_lt, Decidable.not_not, reduceCtorEq, *] at hc) <;> (try (exfalso; omega)))
    | ((with_reducible apply opsF.und); (case hg => rfl))
    | ((with_reducible apply opsF.callv); (case hf => exact tEV); (case hx => exact tCV))
    | ((with_reducible apply dopsF.op rfl); (case hs => (first | exact tHT | exact tHS)))
    | ((with_reducible apply dopsF.call); (case hx => exact tAG))
    | ((with_reducible apply dopsF.want); (case hg => exact tEV); (case hb => exact tNB))
    | ((with_reducible apply dopsF.skip); (case hg => exact tEV); (case hb => exact tNB))
    | ((with_reducible apply dopsF.und); (case hg => rfl))
    | ((with_reducible apply stabF.und); rfl)
    | ((with_reducible apply stabF.want); (case hg => exact tEV); (case hb => exact tNB))
    | ((with_reducible apply stabF.skip); (case hg => exact tEV); (case hb => exact tNB))
    | ((with_reducible apply stabF.op); (case hs => (first | exact tHT | exact tHS)); (case hv => exact tSV))
    | ((with_reducible apply retF.r); (case hv => exact tRS))
    | ((with_reducible apply retF.nn); (case hv => exact tRS))
    | ((refine (dec_call n _ (by omega)).mono fun v h' hp => ?_); obtain ⟨rfl, rfl⟩ := hp))
          · have hemp : (ls.drop (i + 1)).isEmpty = true := by simp; omega
            refine ⟨i + 1, by omega, rfl, h1, (by first | rfl | ((conv => lhs; whnf); rw [show ((i + 1 : Nat) : Int) = (ls.length : Int) by omega])), by omega, ?_, pre ++ udecS n ++ [32] ++ s ++ [13, 10], ?_, ?_, ?_⟩
            · rw [List.take_add_one, hs, List.all_append, hok]
              simp [lineOk, hfs]; omega
            · exact rfl
            · simp; omega
            · rw [hS, drop_cons hs, fmtGo, hemp, fmtLine]
              simp [List.append_assoc]
          · have hemp : (ls.drop (i + 1)).isEmpty = false := by simp; omega
            refine ⟨i + 1, by omega, rfl, h1, (by first | rfl | ((conv => lhs; whnf); rw [show ((i + 1 : Nat) : Int) = (ls.length : Int) by omega])), by omega, ?_, pre ++ udecS n ++ [45] ++ s ++ [13, 10], ?_, ?_, ?_⟩
            · rw [List.take_add_one, hs, List.all_append, hok]
              simp [lineOk, hfs]; omega
            · exact rfl
            · simp; omega
            · rw [hS, drop_cons hs, fmtGo, hemp, fmtLine]
              simp [List.append_assoc]
    · obtain rfl : i = ls.length := by omega
      repeat' (first
    | ((with_reducible apply opsF.op rfl); (case hs => (first | exact tHT | exact tHS)))
    | with_reducible (first | apply opsF.nil | apply seqF.nn | apply vcF.seq | apply vcF.region | apply vcF.dregion | apply vcF.skip | apply vcF.block | apply vcF.exit | apply vcF.ret | apply vcF.loop | apply seqF.e | apply seqF.r | apply blkF.nn | apply blkF.e | apply blkF.r | apply blkF.o rfl | apply dopsF.nil | apply stabsF.nil | apply stabsF.cons | apply dopsF.cont)
    | ((with_reducible apply opsF.call); (case hx => exact tAG))
    | ((with_reducible apply opsF.want); (case hg => exact tEV); (case hb => exact tNB))
    | ((with_reducible apply opsF.skip); (case hg => exact tEV); (case hb => exact tNB))
    | (first | ((with_reducible apply opsF.case); (case hg => exact tEV)) | ((with_reducible apply vcF.cond); (case hx => exact tEV)) | ((with_reducible apply dopsF.case); (case hg => exact tEV))) <;> ((intro hc; try simp only [Int.reduceLT, Int.reduceLE, Int.reduceEq, Int.reduceNe, Int.cast_ofNat_Int, Int.reduceNeg, decide_true, decide_false, not_true_eq_false, not_false_eq_true, decide_eq_true_eq, decide_eq_false_iff_not, Bool.not_eq_true', Bool.not_eq_false', Bool.not_true, Bool.not_false, Bool.false_eq_true, Bool.true_eq_false, Bool.not_eq_true, Bool.not_eq_false, beq_iff_eq, beq_eq_false_iff_ne, bne_iff_ne, bne_eq_false_iff_eq, ne_eq, Int.not_lt, Int.not_le, ge_iff_le, gt_iff_lt, Decidable.not_not, reduceCtorEq, *] at hc) <;> (try (exfalso; omega)))
    | ((with_reducible apply opsF.und); (case hg => rfl))
    | ((with_reducible apply opsF.callv); (case hf => exact tEV); (case hx => exact tCV))
    | ((with_reducible apply dopsF.op rfl); (case hs => (first | exact tHT | exact tHS)))
    | ((with_reducible apply dopsF.call); (case hx => exact tAG))
    | ((with_reducible apply dopsF.want); (case hg => exact tEV); (case hb => exact tNB))
    | ((with_reducible apply dopsF.skip); (case hg => exact tEV); (case hb => exact tNB))
    | ((with_reducible apply dopsF.und); (case hg => rfl))
    | ((with_reducible apply stabF.und); rfl)
    | ((with_reducible apply stabF.want); (case hg => exact tEV); (case hb => exact tNB))
    | ((with_reducible apply stabF.skip); (case hg => exact tEV); (case hb => exact tNB))
    | ((with_reducible apply stabF.op); (case hs => (first | exact tHT | exact tHS)); (case hv => exact tSV))
    | ((with_reducible apply retF.r); (case hv => exact tRS))
    | ((with_reducible apply retF.nn); (case hv => exact tRS)))
      refine ⟨?_, Ext.alloc _ _⟩
      rw [List.take_length] at hok
      rw [List.drop_length, fmtGo, List.append_nil] at hS
      have hb : fmtOk n ls = true := by
        simp only [fmtOk, hok, Bool.and_true, Bool.and_eq_true, decide_eq_true_eq, Bool.not_eq_true', List.isEmpty_eq_false_iff]
        exact ⟨⟨hc1, hc2⟩, hne⟩
      rw [fmtV, hb, Int.toNat_natCast, hS]
      rfl
  · have hb : fmtV c ls = .tup [.v (.string (bs [])), .v (.int .i64 2)] := by
      apply fmtV_bad
      rw [Bool.eq_false_iff]
      intro hx
      simp only [fmtOk, Bool.and_eq_true, decide_eq_true_eq, Bool.not_eq_true', List.isEmpty_eq_false_iff] at hx
      exact hc0 ⟨hx.1.1.1, hx.1.1.2, hx.1.2⟩
    refine Call.bodyF b_ref01_Format rfl rfl ?_
    unfold c_ref01_Format
    repeat' (first
    | ((with_reducible apply opsF.op rfl); (case hs => (first | exact tHT | exact tHS)))
    | with_reducible (first | apply opsF.nil | apply seqF.nn | apply vcF.seq | apply vcF.region | apply vcF.dregion | apply vcF.skip | apply vcF.block | apply vcF.exit | apply vcF.ret | apply vcF.loop | apply seqF.e | apply seqF.r | apply blkF.nn | apply blkF.e | apply blkF.r | apply blkF.o rfl | apply dopsF.nil | apply stabsF.nil | apply stabsF.cons | apply dopsF.cont)
    | ((with_reducible apply opsF.call); (case hx => exact tAG))
    | ((with_reducible apply opsF.want); (case hg => exact tEV); (case hb => exact tNB))
    | ((with_reducible apply opsF.skip); (case hg => exact tEV); (case hb => exact tNB))
    | (first | ((with_reducible apply opsF.case); (case hg => exact tEV)) | ((with_reducible apply vcF.cond); (case hx => exact tEV)) | ((with_reducible apply dopsF.case); (case hg => exact tEV))) <;> ((intro hc; try simp only [Int.reduceLT, Int.reduceLE, Int.reduceEq, Int.reduceNe, Int.cast_ofNat_Int, Int.reduceNeg, decide_true, decide_false, not_true_eq_false, not_false_eq_true, decide_eq_true_eq, decide_eq_false_iff_not, Bool.not_eq_true', Bool.not_eq_false', Bool.not_true, Bool.not_false, Bool.false_eq_true, Bool.true_eq_false, Bool.not_eq_true, Bool.not_eq_false, beq_iff_eq, beq_eq_false_iff_ne, bne_iff_ne, bne_eq_false_iff_eq, ne_eq, Int.not_lt, Int.not_le, ge_iff_le, gt_iff_lt, Decidable.not_not, reduceCtorEq, *] at hc) <;> (try (exfalso; omega)))
    | ((with_reducible apply opsF.und); (case hg => rfl))
    | ((with_reducible apply opsF.callv); (case hf => exact tEV); (case hx => exact tCV))
    | ((with_reducible apply dopsF.op rfl); (case hs => (first | exact tHT | exact tHS)))
    | ((with_reducible apply dopsF.call); (case hx => exact tAG))
    | ((with_reducible apply dopsF.want); (case hg => exact tEV); (case hb => exact tNB))
    | ((with_reducible apply dopsF.skip); (case hg => exact tEV); (case hb => exact tNB))
    | ((with_reducible apply dopsF.und); (case hg => rfl))
    | ((with_reducible apply stabF.und); rfl)
    | ((with_reducible apply stabF.want); (case hg => exact tEV); (case hb => exact tNB))
    | ((with_reducible apply stabF.skip); (case hg => exact tEV); (case hb => exact tNB))
    | ((with_reducible apply stabF.op); (case hs => (first | exact tHT | exact tHS)); (case hv => exact tSV))
    | ((with_reducible apply retF.r); (case hv => exact tRS))
    | ((with_reducible apply retF.nn); (case hv => exact tRS)))
    all_goals first
      | exact ⟨hb.symm, Ext.alloc _ _⟩
      | (exfalso; apply hc0; exact ⟨by omega, by omega, by rintro rfl; simp at *⟩)
/-- The lines of a format. -/
def fmtLines (n : Nat) : List (List UInt8) → List (Int × List UInt8)
  | [] => []
  | s :: r => (1, udecS n ++ [if r.isEmpty then 32 else 45] ++ s) :: fmtLines n r
theorem linesS_seg {most : Int} {r : List UInt8} : ∀ (seg cur : List UInt8), seg.all (fun x => decide (x ≠ 13)) = true → linesS most cur (seg ++ 13 :: 10 :: r) = (lineS most (cur ++ seg) :: (linesS most [] r).1, (linesS most [] r).2)
  | [], cur, _ => by rw [List.nil_append, linesS_hit, List.append_nil]
  | x :: seg, cur, h => by
    simp only [List.all_cons, Bool.and_eq_true, decide_eq_true_eq] at h
    have key : ∃ y r', seg ++ 13 :: 10 :: r = y :: r' := by cases seg <;> exact ⟨_, _, rfl⟩
    obtain ⟨y, r', hy⟩ := key
    rw [List.cons_append, hy, linesS_skip (fun hh => h.1 hh.1), ← hy, linesS_seg seg (cur ++ [x]) h.2, List.append_assoc, List.singleton_append]
theorem udec3 (n : Nat) (h1 : 200 ≤ n) (h2 : n ≤ 599) : udecS n = [UInt8.ofNat (48 + n / 100), UInt8.ofNat (48 + n / 10 % 10), UInt8.ofNat (48 + n % 10)] := by
  rw [udecS, dif_neg (by omega), udecS, dif_neg (by omega), udecS, dif_pos (by omega), show n / 10 / 10 = n / 100 by omega]
  rfl
theorem u8_nat {n : Nat} (h : n < 256) : (UInt8.ofNat n).toNat = n := by rw [UInt8.toNat_ofNat']; omega
theorem fine_ne {x : UInt8} (h : fine x = true) (k : UInt8) (hk : k.toNat < 32) : x ≠ k := by
  rintro rfl
  simp [fine] at h
  omega
theorem dig_ne {n : Nat} (h : 32 ≤ n) (h' : n < 256) (k : UInt8) (hk : k.toNat < 32) : UInt8.ofNat n ≠ k := by
  rintro rfl
  rw [u8_nat h'] at hk
  omega
theorem seg_all {n : Nat} (h1 : 200 ≤ n) (h2 : n ≤ 599) {b : Bool} {s : List UInt8} (hs : lineOk s = true) (k : UInt8) (hk : k.toNat < 32) : (udecS n ++ [if b then 32 else 45] ++ s).all (fun x => decide (x ≠ k)) = true := by
  rw [udec3 n h1 h2, List.all_append, List.all_append]
  simp only [lineOk, Bool.and_eq_true] at hs
  have h3 : s.all (fun x => decide (x ≠ k)) = true := by
    rw [List.all_eq_true]
    intro x hx
    exact decide_eq_true (fine_ne (List.all_eq_true.1 hs.2 x hx) k hk)
  have hm : (if b = true then (32 : UInt8) else 45) ≠ k := by
    cases b <;> (simp only [if_true, Bool.false_eq_true, if_false]; rintro rfl; revert hk; decide)
  rw [h3]
  simp only [List.all_cons, List.all_nil, Bool.and_true, Bool.and_eq_true, decide_eq_true_eq]
  exact ⟨⟨dig_ne (by omega) (by omega) k hk, dig_ne (by omega) (by omega) k hk, dig_ne (by omega) (by omega) k hk⟩, hm⟩
theorem lineS_seg {n : Nat} (h1 : 200 ≤ n) (h2 : n ≤ 599) {b : Bool} {s : List UInt8} (hs : lineOk s = true) : lineS 1000 (udecS n ++ [if b then 32 else 45] ++ s) = (1, udecS n ++ [if b then 32 else 45] ++ s) := by
  have hl : ¬ (1000 : Int) < ((udecS n ++ [if b then 32 else 45] ++ s).length : Int) + 2 := by
    have := hs
    simp only [lineOk, Bool.and_eq_true, decide_eq_true_eq] at this
    rw [udec3 n h1 h2]
    simp only [List.length_append, List.length_cons, List.length_nil]
    omega
  have hb : (udecS n ++ [if b then 32 else 45] ++ s).any (fun x => x = 0 || x = 10 || x = 13) = false := by
    rw [List.any_eq_false]
    intro x hx
    have a := of_decide_eq_true (List.all_eq_true.1 (seg_all h1 h2 (b := b) hs 0 (by decide)) x hx)
    have c := of_decide_eq_true (List.all_eq_true.1 (seg_all h1 h2 (b := b) hs 10 (by decide)) x hx)
    have d := of_decide_eq_true (List.all_eq_true.1 (seg_all h1 h2 (b := b) hs 13 (by decide)) x hx)
    simp [a, c, d]
  rw [lineS, if_neg hl, hb]
  rfl
theorem linesS_fmt {n : Nat} (h1 : 200 ≤ n) (h2 : n ≤ 599) : ∀ (ls : List (List UInt8)), ls.all lineOk = true → linesS 1000 [] (fmtGo n ls) = (fmtLines n ls, [])
  | [], _ => rfl
  | s :: r, h => by
    simp only [List.all_cons, Bool.and_eq_true] at h
    have ih := linesS_fmt h1 h2 r h.2
    rw [fmtGo, fmtLine, List.append_assoc _ [13, 10], List.cons_append, List.cons_append, List.nil_append, linesS_seg _ _ (seg_all h1 h2 h.1 13 (by decide)), List.nil_append, lineS_seg h1 h2 h.1, ih]
    rfl
theorem fmtLines_len (n : Nat) : ∀ ls, (fmtLines n ls).length = ls.length
  | [] => rfl
  | s :: r => by simp [fmtLines, fmtLines_len n r]
theorem fmtLines_get (n : Nat) : ∀ (ls : List (List UInt8)) (i : Nat) (s : List UInt8), ls[i]? = some s → (fmtLines n ls)[i]? = some (1, udecS n ++ [if i + 1 = ls.length then 32 else 45] ++ s)
  | t :: r, 0, s, h => by
    simp only [List.getElem?_cons_zero, Option.some.injEq] at h
    subst h
    rw [fmtLines, List.getElem?_cons_zero]
    cases r <;> simp
  | t :: r, i + 1, s, h => by
    rw [List.getElem?_cons_succ] at h
    rw [fmtLines, List.getElem?_cons_succ, fmtLines_get n r i s h]
    simp
theorem oneS_fmt {n : Nat} (h1 : 200 ≤ n) (h2 : n ≤ 599) (b : Bool) (s : List UInt8) : oneS 1 (udecS n ++ [if b then 32 else 45] ++ s) = some ((n : Int), !b, s) := by
  have hn : num3 (UInt8.ofNat (48 + n / 100)) (UInt8.ofNat (48 + n / 10 % 10)) (UInt8.ofNat (48 + n % 10)) = n := by
    rw [num3, u8_nat (by omega), u8_nat (by omega), u8_nat (by omega)]; omega
  have hd : ∀ k, k < 10 → dig (UInt8.ofNat (48 + k)) = true := by
    intro k hk
    rw [dig, u8_nat (by omega)]
    simp; omega
  rw [udec3 n h1 h2]
  simp only [List.cons_append, List.nil_append, oneS, hn]
  rw [if_pos ⟨trivial, hd _ (by omega), hd _ (by omega), hd _ (by omega), by omega, by omega⟩]
  cases b <;> rfl
end Go.Abs.F
