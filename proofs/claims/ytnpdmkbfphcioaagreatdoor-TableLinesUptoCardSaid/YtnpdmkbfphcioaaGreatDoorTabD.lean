/- Tables: a text's lines, each taken by the parser. -/
import Derived.Test.YtnpdmkbfphcioaaGreatDoorTabA
import Derived.Test.YtnpdmkbfphcioaaGreatDoorFnR
namespace Go.Abs
open Go Go.RowKit
set_option linter.unusedVariables false
/-- What waits for a round's end, by frames as functions. -/
def rndF (i l : Nat) (R : LpR) (fr : List AV) (K : AV → AH → Prop) : AExit → Fm → AH → Prop
  | .normal, _, h => h.objs i = some (.lp l R .busy none fr) ∧ K (.v (.bool true)) (h.set i (.lp l R .ready none fr))
  | .exit id, _, h => h.objs i = some (.lp l R .busy none fr) ∧ K (.v (.bool false)) (h.set i (.lp l R .done (some (.exit id)) fr))
  | .ret, _, h => h.objs i = some (.lp l R .busy none fr) ∧ K (.v (.bool false)) (h.set i (.lp l R .done (some .ret) fr))
def asgF (P : Program) (w0 : World) (n i l : Nat) (R : LpR) (fr : List AV) (ib : IC) (K : AV → AH → Prop) : AExit → Fm → AH → Prop
  | .normal, σ, h => h.objs i = some (.lp l R .ready none fr) ∧ vcF P w0 n ib (rndF i l R fr K) σ (h.set i (.lp l R .busy none fr))
  | _, _, _ => False
theorem Yld.ofF {P : Program} {w0 : World} {n : Nat} {ia ib : IC} {i l p : Nat} {R : LpR} {fr : List AV} {a : AV} {h : AH} {K : AV → AH → Prop} (ho : h.objs i = some (.lp l R .ready none fr)) (hps : R.ps = #[p]) (hca : ∃ rows, comp P rows R.asg = some ia) (hcb : ∃ rows, comp P rows R.body = some ib)
    (hl : fr.length = n) (hp : p < n) (hoka : icOk n ia = true) (hokb : icOk n ib = true) (hv : vcF P w0 n ia (asgF P w0 n i l R fr ib K) (up (frF fr) (some p) a) h) : Yld P w0 l [a] h K := by
  obtain ⟨r1, h1⟩ := hca
  obtain ⟨r2, h2⟩ := hcb
  have e : frF (fr.set p a) = up (frF fr) (some p) a := (frF_put (n := n) hl (o := ⟨some p, .mkm, none⟩) (by simp only [opOk, Nat.blt_eq]; exact hp) a).2
  rw [← e] at hv
  refine Yld.of ho hps h1 h2 (vc_mono (fun e fr1 h1 hh => ?_) (vcF_sound (by simp [hl]) hoka hv))
  cases e with
  | normal =>
    obtain ⟨hl1, ho1, hv1⟩ := hh
    refine ⟨rfl, ho1, vc_mono (fun e fr2 h2 hh => ?_) (vcF_sound hl1 hokb hv1)⟩
    cases e <;> exact hh.2
  | _ => exact hh.2.elim
end Go.Abs
namespace Go.Abs.F
open Go Go.Abs
set_option maxRecDepth 10000
set_option maxHeartbeats 20000000
set_option linter.unusedSimpArgs false
set_option linter.unusedVariables false
variable {w0 : World}
theorem hasSf (s : List UInt8) (c : UInt8) (h : AH) (hl : s.length ≤ 1000000) : Call P w0 i_stringslite_HasSuffix [.v (.string (bs s)), .v (.string (bs [c]))] h (fun v h' => v = .v (.bool (decide (s.getLast? = some c))) ∧ h' = h) := by
  refine Call.bodyF b_i_stringslite_HasSuffix rfl rfl ?_
  unfold c_i_stringslite_HasSuffix
  rcases List.eq_nil_or_concat s with rfl | ⟨a, x, rfl⟩
  · repeat' (first
    | ((with_reducible apply opsF.op rfl); (case hs => (first | exact tHT | exact tHS)))
    | with_reducible (first | apply opsF.nil | apply seqF.nn | apply vcF.seq | apply vcF.region | apply vcF.skip | apply vcF.ret | apply seqF.r)
    | ((with_reducible apply opsF.call); (case hx => exact tAG))
    | ((with_reducible apply opsF.want); (case hg => exact tEV); (case hb => exact tNB))
    | ((with_reducible apply opsF.skip); (case hg => exact tEV); (case hb => exact tNB))
    | (first | ((with_reducible apply opsF.case); (case hg => exact tEV)) | ((with_reducible apply vcF.cond); (case hx => exact tEV))) <;> ((intro hc; try simp only [Int.reduceLT, Int.reduceLE, Int.reduceEq, Int.reduceNe, Int.cast_ofNat_Int, Int.reduceNeg, decide_true, decide_false, not_true_eq_false, not_false_eq_true, decide_eq_true_eq, decide_eq_false_iff_not, Bool.not_eq_true', Bool.not_eq_false', Bool.not_true, Bool.not_false, Bool.false_eq_true, Bool.true_eq_false, Bool.not_eq_true, Bool.not_eq_false, beq_iff_eq, beq_eq_false_iff_ne, bne_iff_ne, bne_eq_false_iff_eq, ne_eq, Int.not_lt, Int.not_le, ge_iff_le, gt_iff_lt, Decidable.not_not, reduceCtorEq, *] at hc) <;> (try (exfalso; omega)))
    | ((with_reducible apply opsF.und); (case hg => rfl))
    | ((with_reducible apply retF.r); (case hv => exact tRS))
    | ((with_reducible apply retF.nn); (case hv => exact tRS)))
    all_goals exact ⟨rfl, rfl⟩
  · have hlen : (a ++ [x]).length = a.length + 1 := by simp
    have hd : ((a ++ [x]).take (a.length + 1)).drop a.length = [x] := by
      rw [← hlen, List.take_length]; simp
    have ht1 : (((a.length + 1 : Nat) : Int) - 1).toNat = a.length := by omega
    have hgl : (a ++ [x]).getLast? = some x := by simp
    rw [List.concat_eq_append] at hl ⊢
    rw [hgl]
    generalize a ++ [x] = s at *
    repeat' (first
    | ((with_reducible apply opsF.op rfl); (case hs => (first | exact tHT | exact tHS)))
    | with_reducible (first | apply opsF.nil | apply seqF.nn | apply vcF.seq | apply vcF.region | apply vcF.skip | apply vcF.ret | apply seqF.r)
    | ((with_reducible apply opsF.call); (case hx => exact tAG))
    | ((with_reducible apply opsF.want); (case hg => exact tEV); (case hb => exact tNB))
    | ((with_reducible apply opsF.skip); (case hg => exact tEV); (case hb => exact tNB))
    | (first | ((with_reducible apply opsF.case); (case hg => exact tEV)) | ((with_reducible apply vcF.cond); (case hx => exact tEV))) <;> ((intro hc; try simp only [Int.reduceLT, Int.reduceLE, Int.reduceEq, Int.reduceNe, Int.cast_ofNat_Int, Int.reduceNeg, decide_true, decide_false, not_true_eq_false, not_false_eq_true, decide_eq_true_eq, decide_eq_false_iff_not, Bool.not_eq_true', Bool.not_eq_false', Bool.not_true, Bool.not_false, Bool.false_eq_true, Bool.true_eq_false, Bool.not_eq_true, Bool.not_eq_false, beq_iff_eq, beq_eq_false_iff_ne, bne_iff_ne, bne_eq_false_iff_eq, ne_eq, Int.not_lt, Int.not_le, ge_iff_le, gt_iff_lt, Decidable.not_not, reduceCtorEq, *] at hc) <;> (try (exfalso; omega)))
    | ((with_reducible apply opsF.und); (case hg => rfl))
    | ((with_reducible apply retF.r); (case hv => exact tRS))
    | ((with_reducible apply retF.nn); (case hv => exact tRS)))
    all_goals refine ⟨?_, rfl⟩
    all_goals simp [hd]
theorem trimSf (s : List UInt8) (c : UInt8) (h : AH) (hl : s.length ≤ 1000000) : Call P w0 strings_TrimSuffix [.v (.string (bs s)), .v (.string (bs [c]))] h (fun v h' => v = .v (.string (bs (if s.getLast? = some c then s.dropLast else s))) ∧ h' = h) := by
  have key : Call P w0 i_stringslite_TrimSuffix [.v (.string (bs s)), .v (.string (bs [c]))] h (fun v h' => v = .v (.string (bs (if s.getLast? = some c then s.dropLast else s))) ∧ h' = h) := by
    have hs := fun h => hasSf (w0 := w0) s c h hl
    refine Call.bodyF b_i_stringslite_TrimSuffix rfl rfl ?_
    unfold c_i_stringslite_TrimSuffix
    by_cases hg : s.getLast? = some c
    · rw [if_pos hg]
      rw [decide_eq_true hg] at hs
      have hpos : 1 ≤ s.length := by
        cases s with
        | nil => simp at hg
        | cons a r => simp
      have hdl : s.take (((s.length : Int) - ((1 : Nat) : Int)).toNat) = s.dropLast := by
        rw [List.dropLast_eq_take]; congr 1; omega
      repeat' (first
    | ((with_reducible apply opsF.op rfl); (case hs => (first | exact tHT | exact tHS)))
    | with_reducible (first | apply opsF.nil | apply seqF.nn | apply vcF.seq | apply vcF.region | apply vcF.skip | apply vcF.ret | apply seqF.r)
    | ((with_reducible apply opsF.call); (case hx => exact tAG))
    | (first | ((with_reducible apply vcF.cond); (case hx => exact tEV))) <;> ((intro hc; try simp only [Int.reduceLT, Int.reduceLE, Int.reduceEq, Int.reduceNe, Int.cast_ofNat_Int, Int.reduceNeg, decide_true, decide_false, not_true_eq_false, not_false_eq_true, decide_eq_true_eq, decide_eq_false_iff_not, Bool.not_eq_true', Bool.not_eq_false', Bool.not_true, Bool.not_false, Bool.false_eq_true, Bool.true_eq_false, Bool.not_eq_true, Bool.not_eq_false, beq_iff_eq, beq_eq_false_iff_ne, bne_iff_ne, bne_eq_false_iff_eq, ne_eq, Int.not_lt, Int.not_le, ge_iff_le, gt_iff_lt, Decidable.not_not, reduceCtorEq, *] at hc) <;> (try (exfalso; omega)))
    | ((with_reducible apply retF.r); (case hv => exact tRS))
    | ((with_reducible apply retF.nn); (case hv => exact tRS))
    | ((refine Call.use (hs _) ?_)))
      all_goals exact ⟨by rw [← hdl], rfl⟩
    · rw [if_neg hg]
      rw [decide_eq_false hg] at hs
      repeat' (first
    | ((with_reducible apply opsF.op rfl); (case hs => (first | exact tHT | exact tHS)))
    | with_reducible (first | apply opsF.nil | apply seqF.nn | apply vcF.seq | apply vcF.region | apply vcF.skip | apply vcF.ret | apply seqF.r)
    | ((with_reducible apply opsF.call); (case hx => exact tAG))
    | (first | ((with_reducible apply vcF.cond); (case hx => exact tEV))) <;> ((intro hc; try simp only [Int.reduceLT, Int.reduceLE, Int.reduceEq, Int.reduceNe, Int.cast_ofNat_Int, Int.reduceNeg, decide_true, decide_false, not_true_eq_false, not_false_eq_true, decide_eq_true_eq, decide_eq_false_iff_not, Bool.not_eq_true', Bool.not_eq_false', Bool.not_true, Bool.not_false, Bool.false_eq_true, Bool.true_eq_false, Bool.not_eq_true, Bool.not_eq_false, beq_iff_eq, beq_eq_false_iff_ne, bne_iff_ne, bne_eq_false_iff_eq, ne_eq, Int.not_lt, Int.not_le, ge_iff_le, gt_iff_lt, Decidable.not_not, reduceCtorEq, *] at hc) <;> (try (exfalso; omega)))
    | ((with_reducible apply retF.r); (case hv => exact tRS))
    | ((with_reducible apply retF.nn); (case hv => exact tRS))
    | ((refine Call.use (hs _) ?_)))
      all_goals exact ⟨rfl, rfl⟩
  refine Call.bodyF b_strings_TrimSuffix rfl rfl ?_
  unfold c_strings_TrimSuffix
  repeat' (first
    | ((with_reducible apply opsF.op rfl); (case hs => (first | exact tHT | exact tHS)))
    | with_reducible (first | apply opsF.nil | apply seqF.nn | apply vcF.seq | apply vcF.region | apply vcF.skip | apply vcF.ret | apply seqF.r)
    | ((with_reducible apply opsF.call); (case hx => exact tAG))
    | (first | ((with_reducible apply vcF.cond); (case hx => exact tEV))) <;> ((intro hc; try simp only [Int.reduceLT, Int.reduceLE, Int.reduceEq, Int.reduceNe, Int.cast_ofNat_Int, Int.reduceNeg, decide_true, decide_false, not_true_eq_false, not_false_eq_true, decide_eq_true_eq, decide_eq_false_iff_not, Bool.not_eq_true', Bool.not_eq_false', Bool.not_true, Bool.not_false, Bool.false_eq_true, Bool.true_eq_false, Bool.not_eq_true, Bool.not_eq_false, beq_iff_eq, beq_eq_false_iff_ne, bne_iff_ne, bne_eq_false_iff_eq, ne_eq, Int.not_lt, Int.not_le, ge_iff_le, gt_iff_lt, Decidable.not_not, reduceCtorEq, *] at hc) <;> (try (exfalso; omega)))
    | ((with_reducible apply retF.r); (case hv => exact tRS))
    | ((with_reducible apply retF.nn); (case hv => exact tRS))
    | ((refine Call.use key ?_)))
  all_goals exact ⟨rfl, rfl⟩
/-- Where the parser stands between two lines. -/
structure LS (h0 hh : AH) (bd l : Nat) (R : LpR) (fr : List AV) (rest : List UInt8) (k n : Nat) (t : TB) (t1 t2 t3 : Tok) : Prop where
  e : Ext h0 hh
  z0 : hh.objs h0.n = some (.cells (tabC zeroT .full .full .full))
  z1 : hh.objs (h0.n + 1) = some (.cells [.v (.int .i64 0)])
  z2 : hh.objs (h0.n + 2) = some (.cells [.v (.int .i64 0)])
  pp : hh.objs (h0.n + 4) = some (.cells [.ptr (h0.n + 3) 0])
  kk : hh.objs (h0.n + 5) = some (.cells [.v (.int .i64 (k : Nat))])
  ss : hh.objs (h0.n + 6) = some (.cells [.v (.string (bs rest))])
  dd : hh.objs (h0.n + 7) = some (.dfr bd)
  lp : hh.objs (h0.n + 8) = some (.lp l R .ready none fr)
  ps : TS h0.nt hh (h0.n + 3) t (nR n) t1 t2 t3
  lt : h0.n + 8 < hh.n
/-- Where it stands behind a line that is none. -/
structure DS (h0 hh : AH) (bd l : Nat) (R : LpR) (fr : List AV) (k : Nat) : Prop where
  e : Ext h0 hh
  z0 : hh.objs h0.n = some (.cells (tabC zeroT .full .full .full))
  z1 : hh.objs (h0.n + 1) = some (.cells [.v (.int .i64 (k : Nat))])
  z2 : hh.objs (h0.n + 2) = some (.cells [.v (.int .i64 7)])
  dd : hh.objs (h0.n + 7) = some (.dfr bd)
  lp : hh.objs (h0.n + 8) = some (.lp l R .done (some .ret) fr)
  lt : h0.n + 8 < hh.n
def RoundP (h0 : AH) (bd l : Nat) (R : LpR) (fr : List AV) (rest : List UInt8) (k : Nat) (o : Option (TB × Nat)) (v : AV) (h' : AH) : Prop :=
  (∃ t' n', o = some (t', n') ∧ v = .v (.bool true) ∧ ∃ t1 t2 t3, LS h0 h' bd l R fr rest (k + 1) n' t' t1 t2 t3) ∨ (o = none ∧ v = .v (.bool false) ∧ DS h0 h' bd l R fr (k + 1))
theorem TS.ne {B : Nat} {h : AH} {id : Nat} {t : TB} {rest : List AV} {t1 t2 t3 : Tok} (hT : TS B h id t rest t1 t2 t3) {i : Nat} (hi : id ≠ i) (o : AObj) : TS B (h.set i o) id t rest t1 t2 t3 :=
  ⟨by rw [set_at, if_neg hi]; exact hT.ob, hT.lt, hT.nt, hT.u1.set, hT.u2.set, hT.u3.set, hT.d12, hT.d13, hT.d23, hT.b1, hT.b2, hT.b3⟩
theorem Ext.thenX {I T : Nat → Prop} {a b c : AH} (e : Ext a b) (k : ExtX I T b c) (hi : ∀ i, I i → a.n ≤ i) (ht : ∀ t, T t → a.nt ≤ t) : Ext a c := Ext.transX e k hi ht
theorem LS.after {h0 hh h3 : AH} {bd l : Nat} {R : LpR} {fr : List AV} {rest : List UInt8} {k n : Nat} {t : TB} {t1 t2 t3 : Tok} (L : LS h0 hh bd l R fr rest k n t t1 t2 t3) {o8 o5 : AObj} (hE3 : ExtI h0.nt (h0.n + 3) ((hh.set (h0.n + 8) o8).set (h0.n + 5) o5) h3) :
    h3.objs h0.n = some (.cells (tabC zeroT .full .full .full)) ∧ h3.objs (h0.n + 1) = some (.cells [.v (.int .i64 0)]) ∧ h3.objs (h0.n + 2) = some (.cells [.v (.int .i64 0)]) ∧ h3.objs (h0.n + 4) = some (.cells [.ptr (h0.n + 3) 0]) ∧ h3.objs (h0.n + 5) = some o5 ∧ h3.objs (h0.n + 6) = some (.cells [.v (.string (bs rest))]) ∧
      h3.objs (h0.n + 7) = some (.dfr bd) ∧ h3.objs (h0.n + 8) = some o8 ∧ h0.n + 8 < h3.n ∧ Ext h0 h3 := by
  have hlt := L.lt
  have ob : ∀ i, i ≠ h0.n + 3 → i ≤ h0.n + 8 → i ≠ h0.n + 5 → i ≠ h0.n + 8 → h3.objs i = hh.objs i := fun i h1 h2 h4 h5 => by
    rw [hE3.objs i (by simp only [set_n]; omega) h1, set_at, if_neg h4, set_at, if_neg h5]
  refine ⟨(ob _ (by omega) (by omega) (by omega) (by omega)).trans L.z0, (ob _ (by omega) (by omega) (by omega) (by omega)).trans L.z1, (ob _ (by omega) (by omega) (by omega) (by omega)).trans L.z2, (ob _ (by omega) (by omega) (by omega) (by omega)).trans L.pp, ?_, (ob _ (by omega) (by omega) (by omega) (by omega)).trans L.ss, (ob _ (by omega) (by omega) (by omega) (by omega)).trans L.dd, ?_, ?_, ?_⟩
  · rw [hE3.objs _ (by simp only [set_n]; omega) (by omega), set_at, if_pos rfl]
  · rw [hE3.objs _ (by simp only [set_n]; omega) (by omega), set_at, if_neg (by omega), set_at, if_pos rfl]
  · have := hE3.n; simp only [set_n] at this; omega
  · exact Ext.thenX ((L.e.set (by omega) _).set (by omega) _) hE3 (fun i hi => by omega) (fun t ht => ht)
theorem round_yld (hP : PowTab w0) (hEv : ErrVars w0) {h0 hh : AH} {bd l : Nat} {R : LpR} {fr : List AV} {rest : List UInt8} {k n : Nat} {t : TB} {t1 t2 t3 : Tok} (L : LS h0 hh bd l R fr rest k n t t1 t2 t3)
    (hR : R.ps = #[c_table_Parse.p]) (ha : ∃ rows, comp P rows R.asg = some c_table_Parse.ia) (hb : ∃ rows, comp P rows R.body = some c_table_Parse.ib) (hl : fr.length = 30)
    (h2 : frF fr 2 = .ptr h0.n 0) (h3 : frF fr 3 = .ptr (h0.n + 1) 0) (h4 : frF fr 4 = .ptr (h0.n + 2) 0) (h5 : frF fr 5 = .ptr (h0.n + 4) 0) (h6 : frF fr 6 = .ptr (h0.n + 5) 0)
    (line a : List UInt8) (hln : (if line.getLast? = some 10 then line.dropLast else line) = a) (hll : line.length ≤ 100000) (hn : n ≤ 1000) (hk : k ≤ 1000000) (hbd : t.1.length ≤ 1000 ∧ t.2.1.length ≤ 1000 ∧ t.2.2.1.length ≤ 1000) :
    Yld P w0 l [.v (.string (bs line))] hh (RoundP h0 bd l R fr rest k (lineO a t n)) := by
  refine Yld.ofF (n := 30) L.lp hR ha hb hl (by unfold c_table_Parse; decide) (by unfold c_table_Parse; rfl) (by unfold c_table_Parse; rfl) ?_
  unfold c_table_Parse
  dsimp only
  generalize frF fr = σ at *
  have hal : a.length ≤ 100000 := by
    rw [← hln]; split
    · rw [List.length_dropLast]; omega
    · exact hll
  have htr := fun h => trimSf (w0 := w0) line 10 h (by omega)
  rw [hln] at htr
  clear hln
  have l_lt := L.lt
  have l_z0 := L.z0
  have l_z1 := L.z1
  have l_z2 := L.z2
  have l_pp := L.pp
  have l_kk := L.kk
  have l_lp := L.lp
  repeat' (first
    | ((with_reducible apply opsF.op rfl); (case hs => (first | exact tHT | exact tHS)))
    | with_reducible (first | apply opsF.nil | apply seqF.nn | apply vcF.seq | apply vcF.region | apply vcF.dregion | apply vcF.skip | apply vcF.block | apply vcF.exit | apply vcF.ret | apply vcF.loop | apply seqF.e | apply seqF.r | apply blkF.nn | apply blkF.e | apply blkF.r | apply blkF.o rfl | apply dopsF.nil | apply stabsF.nil | apply stabsF.cons | apply dopsF.cont)
    | ((with_reducible apply opsF.call); (case hx => exact tAG))
    | ((with_reducible apply opsF.want); (case hg => exact tEV); (case hb => exact tNB))
    | ((with_reducible apply opsF.skip); (case hg => exact tEV); (case hb => exact tNB))
    | (first | ((with_reducible apply opsF.case); (case hg => exact tEV)) | ((with_reducible apply vcF.cond); (case hx => exact tEV)) | ((with_reducible apply dopsF.case); (case hg => exact tEV))) <;> ((intro hc; try simp only [Int.reduceLT, Int.reduceLE, Int.reduceEq, Int.reduceNe, Int.cast_ofNat_Int, Int.reduceNeg, decide_true, decide_false, not_true_eq_false, not_false_eq_true, decide_eq_true_eq, decide_eq_false_iff_not, Bool.not_eq_true', Bool.not_eq_false', Bool.not_true, Bool.not_false, Bool.false_eq_true, Bool.true_eq_false, Bool.not_eq_true, Bool.not_eq_false, beq_iff_eq, beq_eq_false_iff_ne, bne_iff_ne, bne_eq_false_iff_eq, ne_eq, Int.not_lt, Int.not_le, ge_iff_le, gt_iff_lt, Decidable.not_not, reduceCtorEq, *] at hc) <;> (try (exfalso; omega)))
    | ((with_reducible apply opsF.und); (case hg => rfl))
    | ((with_reducible apply opsF.callv); (case hf => exact tEV); (case hx => exact tCV))
    | ((with_reducible apply dopsF.op rfl); (case hs => (first | exact tHT | exact tHS)))
    | ((with_reducible apply dopsF.call); (case hx => exact tAG))
    | ((with_reducible apply dopsF.want); (case hg => exact tEV); (case hb => exact tNB))
    | ((with_reducible apply dopsF.skip); (case hg => exact tEV); (case hb => exact tNB))
    | ((with_reducible apply dopsF.und); (case hg => rfl))
    | ((with_reducible apply stabF.und); rfl)
    | ((with_reducible apply stabF.want); (case hg => exact tEV); (case hb => exact tNB))
    | ((with_reducible apply stabF.skip); (case hg => exact tEV); (case hb => exact tNB))
    | ((with_reducible apply stabF.op); (case hs => (first | exact tHT | exact tHS)); (case hv => exact tSV))
    | ((with_reducible apply retF.r); (case hv => exact tRS))
    | ((with_reducible apply retF.nn); (case hv => exact tRS)))
  refine ⟨L.lp, ?_⟩
  have n1 : ¬ h0.n + 4 = h0.n + 8 := by omega
  have n2 : ¬ h0.n + 5 = h0.n + 8 := by omega
  have n3 : ¬ h0.n + 4 = h0.n + 5 := by omega
  have hT2 : ∀ o1 o2, TS h0.nt ((hh.set (h0.n + 8) o1).set (h0.n + 5) o2) (h0.n + 3) t (nR n) t1 t2 t3 := fun o1 o2 => (L.ps.ne (by omega) _).ne (by omega) _
  cases ho : lineO a t n with
  | none =>
    repeat' (first
    | ((with_reducible apply opsF.op rfl); (case hs => (first | exact tHT | exact tHS)))
    | with_reducible (first | apply opsF.nil | apply seqF.nn | apply vcF.seq | apply vcF.region | apply vcF.dregion | apply vcF.skip | apply vcF.block | apply vcF.exit | apply vcF.ret | apply vcF.loop | apply seqF.e | apply seqF.r | apply blkF.nn | apply blkF.e | apply blkF.r | apply blkF.o rfl | apply dopsF.nil | apply stabsF.nil | apply stabsF.cons | apply dopsF.cont)
    | ((with_reducible apply opsF.call); (case hx => exact tAG))
    | ((with_reducible apply opsF.want); (case hg => exact tEV); (case hb => exact tNB))
    | ((with_reducible apply opsF.skip); (case hg => exact tEV); (case hb => exact tNB))
    | (first | ((with_reducible apply opsF.case); (case hg => exact tEV)) | ((with_reducible apply vcF.cond); (case hx => exact tEV)) | ((with_reducible apply dopsF.case); (case hg => exact tEV))) <;> ((intro hc; try simp only [Int.reduceLT, Int.reduceLE, Int.reduceEq, Int.reduceNe, Int.cast_ofNat_Int, Int.reduceNeg, decide_true, decide_false, not_true_eq_false, not_false_eq_true, decide_eq_true_eq, decide_eq_false_iff_not, Bool.not_eq_true', Bool.not_eq_false', Bool.not_true, Bool.not_false, Bool.false_eq_true, Bool.true_eq_false, Bool.not_eq_true, Bool.not_eq_false, beq_iff_eq, beq_eq_false_iff_ne, bne_iff_ne, bne_eq_false_iff_eq, ne_eq, Int.not_lt, Int.not_le, ge_iff_le, gt_iff_lt, Decidable.not_not, reduceCtorEq, *] at hc) <;> (try (exfalso; omega)))
    | ((with_reducible apply opsF.und); (case hg => rfl))
    | ((with_reducible apply opsF.callv); (case hf => exact tEV); (case hx => exact tCV))
    | ((with_reducible apply dopsF.op rfl); (case hs => (first | exact tHT | exact tHS)))
    | ((with_reducible apply dopsF.call); (case hx => exact tAG))
    | ((with_reducible apply dopsF.want); (case hg => exact tEV); (case hb => exact tNB))
    | ((with_reducible apply dopsF.skip); (case hg => exact tEV); (case hb => exact tNB))
    | ((with_reducible apply dopsF.und); (case hg => rfl))
    | ((with_reducible apply stabF.und); rfl)
    | ((with_reducible apply stabF.want); (case hg => exact tEV); (case hb => exact tNB))
    | ((with_reducible apply stabF.skip); (case hg => exact tEV); (case hb => exact tNB))
    | ((with_reducible apply stabF.op); (case hs => (first | exact tHT | exact tHS)); (case hv => exact tSV))
    | ((with_reducible apply retF.r); (case hv => exact tRS))
    | ((with_reducible apply retF.nn); (case hv => exact tRS))
    | ((refine Call.use (htr _) ?_))
    | ((refine (line_call hP hEv h0.nt _ t n t1 t2 t3 a _ (hT2 _ _) hal hn hbd).mono fun v h3 hq => ?_); rw [ho] at hq; unfold LineP at hq; simp only [Option.isSome_none, Option.isSome_some] at hq; obtain ⟨rfl, hE3, hS3⟩ := hq; obtain ⟨q0, q1, q2, q4, q5, q6, q7, q8, q9, qe⟩ := L.after hE3; clear hT2 hS3 L))
    have sN : ∀ (i : Nat) o o0 o1 o2, h0.n + 2 < i → h3.objs i = some o → (((h3.set h0.n o0).set (h0.n + 1) o1).set (h0.n + 2) o2).objs i = some o := fun i o o0 o1 o2 hi hq => by
      rw [set_at, if_neg (by omega), set_at, if_neg (by omega), set_at, if_neg (by omega)]; exact hq
    refine ⟨sN _ _ _ _ _ (by omega) q8, .inr ⟨rfl, rfl, ⟨(((qe.set (by omega) _).set (by omega) _).set (by omega) _).set (by omega) _, ?_, ?_, ?_, ?_, ?_, q9⟩⟩⟩
    · rw [set_at, if_neg (by omega), set_at, if_neg (by omega), set_at, if_neg (by omega), set_at, if_pos rfl]; rfl
    · rw [set_at, if_neg (by omega), set_at, if_neg (by omega), set_at, if_pos rfl]; rfl
    · rw [set_at, if_neg (by omega), set_at, if_pos rfl]
    · rw [set_at, if_neg (by omega)]; exact sN _ _ _ _ _ (by omega) q7
    · rw [set_at, if_pos rfl]
  | some x =>
    obtain ⟨t', n'⟩ := x
    repeat' (first
    | ((with_reducible apply opsF.op rfl); (case hs => (first | exact tHT | exact tHS)))
    | with_reducible (first | apply opsF.nil | apply seqF.nn | apply vcF.seq | apply vcF.region | apply vcF.dregion | apply vcF.skip | apply vcF.block | apply vcF.exit | apply vcF.ret | apply vcF.loop | apply seqF.e | apply seqF.r | apply blkF.nn | apply blkF.e | apply blkF.r | apply blkF.o rfl | apply dopsF.nil | apply stabsF.nil | apply stabsF.cons | apply dopsF.cont)
    | ((with_reducible apply opsF.call); (case hx => exact tAG))
    | ((with_reducible apply opsF.want); (case hg => exact tEV); (case hb => exact tNB))
    | ((with_reducible apply opsF.skip); (case hg => exact tEV); (case hb => exact tNB))
    | (first | ((with_reducible apply opsF.case); (case hg => exact tEV)) | ((with_reducible apply vcF.cond); (case hx => exact tEV)) | ((with_reducible apply dopsF.case); (case hg => exact tEV))) <;> ((intro hc; try simp only [Int.reduceLT, Int.reduceLE, Int.reduceEq, Int.reduceNe, Int.cast_ofNat_Int, Int.reduceNeg, decide_true, decide_false, not_true_eq_false, not_false_eq_true, decide_eq_true_eq, decide_eq_false_iff_not, Bool.not_eq_true', Bool.not_eq_false', Bool.not_true, Bool.not_false, Bool.false_eq_true, Bool.true_eq_false, Bool.not_eq_true, Bool.not_eq_false, beq_iff_eq, beq_eq_false_iff_ne, bne_iff_ne, bne_eq_false_iff_eq, ne_eq, Int.not_lt, Int.not_le, ge_iff_le, gt_iff_lt, Decidable.not_not, reduceCtorEq, *] at hc) <;> (try (exfalso; omega)))
    | ((with_reducible apply opsF.und); (case hg => rfl))
    | ((with_reducible apply opsF.callv); (case hf => exact tEV); (case hx => exact tCV))
    | ((with_reducible apply dopsF.op rfl); (case hs => (first | exact tHT | exact tHS)))
    | ((with_reducible apply dopsF.call); (case hx => exact tAG))
    | ((with_reducible apply dopsF.want); (case hg => exact tEV); (case hb => exact tNB))
    | ((with_reducible apply dopsF.skip); (case hg => exact tEV); (case hb => exact tNB))
    | ((with_reducible apply dopsF.und); (case hg => rfl))
    | ((with_reducible apply stabF.und); rfl)
    | ((with_reducible apply stabF.want); (case hg => exact tEV); (case hb => exact tNB))
    | ((with_reducible apply stabF.skip); (case hg => exact tEV); (case hb => exact tNB))
    | ((with_reducible apply stabF.op); (case hs => (first | exact tHT | exact tHS)); (case hv => exact tSV))
    | ((with_reducible apply retF.r); (case hv => exact tRS))
    | ((with_reducible apply retF.nn); (case hv => exact tRS))
    | ((refine Call.use (htr _) ?_))
    | ((refine (line_call hP hEv h0.nt _ t n t1 t2 t3 a _ (hT2 _ _) hal hn hbd).mono fun v h3 hq => ?_); rw [ho] at hq; unfold LineP at hq; simp only [Option.isSome_none, Option.isSome_some] at hq; obtain ⟨rfl, hE3, hS3⟩ := hq; obtain ⟨q0, q1, q2, q4, q5, q6, q7, q8, q9, qe⟩ := L.after hE3))
    obtain ⟨u1, u2, u3, hT3⟩ := hS3 t' n' rfl
    refine ⟨q8, .inl ⟨t', n', rfl, rfl, u1, u2, u3, ?_⟩⟩
    have s8 : ∀ (i : Nat) o, i ≠ h0.n + 8 → h3.objs i = some o → (h3.set (h0.n + 8) (.lp l R .ready none fr)).objs i = some o := fun i o hi hq => by rw [set_at, if_neg hi]; exact hq
    exact ⟨qe.set (by omega) _, s8 _ _ (by omega) q0, s8 _ _ (by omega) q1, s8 _ _ (by omega) q2, s8 _ _ (by omega) q4, s8 _ _ (by omega) q5, s8 _ _ (by omega) q6, s8 _ _ (by omega) q7, by rw [set_at, if_pos rfl], hT3.ne (by omega) _, q9⟩
theorem linesS_nil : linesS [] = [] := by simp [linesS, splB]
theorem linesS_miss {s : List UInt8} (h : (10 : UInt8) ∉ s) (hne : s ≠ []) : linesS s = [s] := by
  rw [linesS, splB_miss h]
  simp [hne]
theorem linesS_hit {a r : List UInt8} (h : (10 : UInt8) ∉ a) : linesS (a ++ 10 :: r) = a :: linesS r := by
  rw [linesS, linesS, splB_hit h]
  have hne := splB_ne 10 r
  cases hs : splB 10 r with
  | nil => exact absurd hs hne
  | cons x l =>
    rw [List.getLast?_cons_cons, List.dropLast_cons_cons]
    split <;> rfl
theorem tparse_cons (l : List UInt8) (ls : List (List UInt8)) (k n : Nat) (t : TB) : tparse (l :: ls) k n t = match lineO l t n with
    | some (t', n') => tparse ls (k + 1) n' t'
    | none => (zeroT, k + 1, 7) := by
  rw [tparse, lineO]
  cases skipB l with
  | true => rfl
  | false =>
    simp only [Bool.false_eq_true, if_false]
    cases entryO t (splB 32 l) with
    | none => rfl
    | some t' =>
      simp only [lineN]
      split <;> rfl
def TBd (t : TB) (n : Nat) : Prop := t.1.length ≤ n ∧ t.2.1.length ≤ n ∧ t.2.2.1.length ≤ n
theorem entry_bd {t t' : TB} {ws : List (List UInt8)} {n : Nat} (h : entryO t ws = some t') (hb : TBd t n) : TBd t' (n + 1) := by
  obtain ⟨h1, h2, h3⟩ := hb
  cases ws with
  | nil => cases h
  | cons k ws =>
    simp only [entryO] at h
    split at h
    · unfold aliasO at h
      split at h
      · split at h
        · cases h
        · cases h; exact ⟨by simp; omega, by simp; omega, by simp; omega⟩
      · cases h
    · split at h
      · unfold hopO at h
        split at h
        · split at h
          · cases h; exact ⟨by simp; omega, by simp; omega, by simp; omega⟩
          · cases h
        · cases h
      · split at h
        · unfold banO at h
          split at h
          · split at h
            · simp only [Option.map_eq_some_iff] at h
              obtain ⟨m, _, rfl⟩ := h
              exact ⟨by simp; omega, by simp; omega, by simp; omega⟩
            · cases h
          · cases h
        · split at h
          · unfold sizeO at h
            split at h
            · split at h
              · cases h
              · simp only [Option.map_eq_some_iff] at h
                obtain ⟨m, _, rfl⟩ := h
                exact ⟨by simp; omega, by simp; omega, by simp; omega⟩
            · cases h
          · cases h
theorem line_bd {l : List UInt8} {t t' : TB} {n n' : Nat} (h : lineO l t n = some (t', n')) (hb : TBd t n) (hn : n ≤ 200) : TBd t' n' ∧ n' ≤ 200 := by
  rw [lineO] at h
  split at h
  · cases h; exact ⟨hb, hn⟩
  · cases he : entryO t (splB 32 l) with
    | none => rw [he] at h; cases h
    | some u =>
      rw [he] at h
      simp only [lineN] at h
      split at h
      · cases h; exact ⟨entry_bd he hb, by assumption⟩
      · cases h
theorem LS.str {h0 hh : AH} {bd l : Nat} {R : LpR} {fr : List AV} {rest : List UInt8} {k n : Nat} {t : TB} {t1 t2 t3 : Tok} (L : LS h0 hh bd l R fr rest k n t t1 t2 t3) (r : List UInt8) : LS h0 (hh.set (h0.n + 6) (.cells [.v (.string (bs r))])) bd l R fr r k n t t1 t2 t3 := by
  have s6 : ∀ (i : Nat) o, i ≠ h0.n + 6 → hh.objs i = some o → (hh.set (h0.n + 6) (.cells [.v (.string (bs r))])).objs i = some o := fun i o hi hq => by rw [set_at, if_neg hi]; exact hq
  exact ⟨L.e.set (by omega) _, s6 _ _ (by omega) L.z0, s6 _ _ (by omega) L.z1, s6 _ _ (by omega) L.z2, s6 _ _ (by omega) L.pp, s6 _ _ (by omega) L.kk, by rw [set_at, if_pos rfl], s6 _ _ (by omega) L.dd, s6 _ _ (by omega) L.lp, L.ps.ne (by omega) _, L.lt⟩
/-- How the walk over the lines ends. -/
def EndP (h0 : AH) (bd l : Nat) (R : LpR) (fr : List AV) (T : TB × Nat × Nat) (h' : AH) : Prop :=
  (∃ k n t t1 t2 t3, LS h0 h' bd l R fr [] k n t t1 t2 t3 ∧ T = (t, 0, 0)) ∨ ∃ k, DS h0 h' bd l R fr k ∧ T = (zeroT, k, 7)
theorem lines1_call (hP : PowTab w0) (hEv : ErrVars w0) {h0 hh : AH} {bd l : Nat} {R : LpR} {fr : List AV} {rest0 : List UInt8} {k0 n0 : Nat} {t0 : TB} {u1 u2 u3 : Tok} (L0 : LS h0 hh bd l R fr rest0 k0 n0 t0 u1 u2 u3)
    (hR : R.ps = #[c_table_Parse.p]) (ha : ∃ rows, comp P rows R.asg = some c_table_Parse.ia) (hb : ∃ rows, comp P rows R.body = some c_table_Parse.ib) (hl : fr.length = 30)
    (f2 : frF fr 2 = .ptr h0.n 0) (f3 : frF fr 3 = .ptr (h0.n + 1) 0) (f4 : frF fr 4 = .ptr (h0.n + 2) 0) (f5 : frF fr 5 = .ptr (h0.n + 4) 0) (f6 : frF fr 6 = .ptr (h0.n + 5) 0)
    (hs : rest0.length ≤ 17000) (hk0 : k0 = 0) (hbd : TBd t0 n0) (hn0 : n0 ≤ 200) :
    Call P w0 strings_Lines_1 [.func (.yield l) [] [], .ptr (h0.n + 6) 0] hh (fun _ h' => EndP h0 bd l R fr (tparse (linesS rest0) k0 n0 t0) h') := by
  refine Call.bodyF b_strings_Lines_1 rfl rfl ?_
  unfold c_strings_Lines_1
  repeat' (first
    | ((with_reducible apply opsF.op rfl); (case hs => (first | exact tHT | exact tHS)))
    | with_reducible (first | apply opsF.nil | apply seqF.nn | apply vcF.seq | apply vcF.region | apply vcF.skip | apply vcF.block | apply vcF.exit | apply vcF.ret | apply vcF.loop | apply seqF.e | apply seqF.r | apply blkF.nn | apply blkF.e | apply blkF.r | apply blkF.o rfl)
    | ((with_reducible apply opsF.call); (case hx => exact tAG))
    | (first | ((with_reducible apply vcF.cond); (case hx => exact tEV))) <;> ((intro hc; try simp only [Int.reduceLT, Int.reduceLE, Int.reduceEq, Int.reduceNe, Int.cast_ofNat_Int, Int.reduceNeg, decide_true, decide_false, not_true_eq_false, not_false_eq_true, decide_eq_true_eq, decide_eq_false_iff_not, Bool.not_eq_true', Bool.not_eq_false', Bool.not_true, Bool.not_false, Bool.false_eq_true, Bool.true_eq_false, Bool.not_eq_true, Bool.not_eq_false, beq_iff_eq, beq_eq_false_iff_ne, bne_iff_ne, bne_eq_false_iff_eq, ne_eq, Int.not_lt, Int.not_le, ge_iff_le, gt_iff_lt, Decidable.not_not, reduceCtorEq, *] at hc) <;> (try (exfalso; omega)))
    | ((with_reducible apply opsF.callv); (case hf => exact tEV); (case hx => exact tCV))
    | ((with_reducible apply retF.r); (case hv => exact tRS))
    | ((with_reducible apply retF.nn); (case hv => exact tRS)))
  refine LpF.ind rfl (fun i : Nat => rest0.length - i) (fun i σ h' => ∃ (rest : List UInt8) (k n : Nat) (t : TB) (t1 t2 t3 : Tok), i = rest0.length - rest.length ∧ rest.length ≤ rest0.length ∧ k + rest.length ≤ rest0.length ∧ n ≤ 200 ∧ TBd t n ∧ LS h0 h' bd l R fr rest k n t t1 t2 t3 ∧ tparse (linesS rest) k n t = tparse (linesS rest0) k0 n0 t0 ∧
    σ 0 = .func (.yield l) [] [] ∧ σ 1 = .ptr (h0.n + 6) 0) ?_ (i := 0) ⟨rest0, k0, n0, t0, u1, u2, u3, by omega, Nat.le_refl _, by omega, hn0, hbd, L0, rfl, rfl, rfl⟩
  rintro i σ h' ⟨rest, k, n, t, t1, t2, t3, rfl, hr1, hk1, hn1, hb1, L, hT, s0, s1⟩
  have l_ss := L.ss
  have l_lt := L.lt
  have hidx := fun h => idxB_call (w0 := w0) rest 10 h
  rw [← hT]
  obtain ⟨g1, g2, g3⟩ := hb1
  rcases Classical.em (rest = []) with rfl | hne
  · rw [linesS_nil, tparse]
    repeat' (first
    | ((with_reducible apply opsF.op rfl); (case hs => (first | exact tHT | exact tHS)))
    | with_reducible (first | apply opsF.nil | apply seqF.nn | apply vcF.seq | apply vcF.region | apply vcF.skip | apply vcF.block | apply vcF.exit | apply vcF.ret | apply vcF.loop | apply seqF.e | apply seqF.r | apply blkF.nn | apply blkF.e | apply blkF.r | apply blkF.o rfl)
    | ((with_reducible apply opsF.call); (case hx => exact tAG))
    | (first | ((with_reducible apply vcF.cond); (case hx => exact tEV))) <;> ((intro hc; try simp only [Int.reduceLT, Int.reduceLE, Int.reduceEq, Int.reduceNe, Int.cast_ofNat_Int, Int.reduceNeg, decide_true, decide_false, not_true_eq_false, not_false_eq_true, decide_eq_true_eq, decide_eq_false_iff_not, Bool.not_eq_true', Bool.not_eq_false', Bool.not_true, Bool.not_false, Bool.false_eq_true, Bool.true_eq_false, Bool.not_eq_true, Bool.not_eq_false, beq_iff_eq, beq_eq_false_iff_ne, bne_iff_ne, bne_eq_false_iff_eq, ne_eq, Int.not_lt, Int.not_le, ge_iff_le, gt_iff_lt, Decidable.not_not, reduceCtorEq, *] at hc) <;> (try (exfalso; omega)))
    | ((with_reducible apply opsF.callv); (case hf => exact tEV); (case hx => exact tCV))
    | ((with_reducible apply retF.r); (case hv => exact tRS))
    | ((with_reducible apply retF.nn); (case hv => exact tRS)))
    all_goals exact .inl ⟨k, n, t, t1, t2, t3, L, rfl⟩
  · have hpos : 0 < rest.length := List.length_pos_iff.2 hne
    rcases cutB_cases 10 rest with ⟨c1, _⟩ | ⟨a, r, hra, c1, _⟩
    · rw [linesS_miss c1 hne, tparse_cons]
      rw [idx_miss c1] at hidx
      have htl : (if rest.getLast? = some 10 then rest.dropLast else rest) = rest := if_neg fun e => c1 (List.mem_of_getLast? e)
      have hY := round_yld (w0 := w0) hP hEv (L.str []) hR ha hb hl f2 f3 f4 f5 f6 rest rest htl (by omega) (by omega) (by omega) ⟨by omega, by omega, by omega⟩
      repeat' (first
    | ((with_reducible apply opsF.op rfl); (case hs => (first | exact tHT | exact tHS)))
    | with_reducible (first | apply opsF.nil | apply seqF.nn | apply vcF.seq | apply vcF.region | apply vcF.skip | apply vcF.block | apply vcF.exit | apply vcF.ret | apply vcF.loop | apply seqF.e | apply seqF.r | apply blkF.nn | apply blkF.e | apply blkF.r | apply blkF.o rfl)
    | ((with_reducible apply opsF.call); (case hx => exact tAG))
    | (first | ((with_reducible apply vcF.cond); (case hx => exact tEV))) <;> ((intro hc; try simp only [Int.reduceLT, Int.reduceLE, Int.reduceEq, Int.reduceNe, Int.cast_ofNat_Int, Int.reduceNeg, decide_true, decide_false, not_true_eq_false, not_false_eq_true, decide_eq_true_eq, decide_eq_false_iff_not, Bool.not_eq_true', Bool.not_eq_false', Bool.not_true, Bool.not_false, Bool.false_eq_true, Bool.true_eq_false, Bool.not_eq_true, Bool.not_eq_false, beq_iff_eq, beq_eq_false_iff_ne, bne_iff_ne, bne_eq_false_iff_eq, ne_eq, Int.not_lt, Int.not_le, ge_iff_le, gt_iff_lt, Decidable.not_not, reduceCtorEq, *] at hc) <;> (try (exfalso; omega)))
    | ((with_reducible apply opsF.callv); (case hf => exact tEV); (case hx => exact tCV))
    | ((with_reducible apply retF.r); (case hv => exact tRS))
    | ((with_reducible apply retF.nn); (case hv => exact tRS))
    | ((refine Call.use (hidx _) ?_))
    | ((with_reducible apply opsF.yield); (case hf => exact tEV); (case hx => exact tAG); (refine hY.mono fun v h2 hq => ?_); rcases hq with ⟨t', n', ho, rfl, v1, v2, v3, L2⟩ | ⟨ho, rfl, D2⟩))
      · have hb2 := line_bd ho ⟨g1, g2, g3⟩ hn1
        refine ⟨rest0.length - 0, by omega, [], k + 1, n', t', v1, v2, v3, rfl, by simp, by simp; omega, hb2.2, hb2.1, L2, by simp only [ho, linesS_nil], s0, s1⟩
      all_goals exact .inr ⟨k + 1, D2, by simp only [ho]⟩
    · have hlen : rest.length = a.length + (r.length + 1) := by rw [hra]; simp
      have hlr : linesS rest = a :: linesS r := by rw [hra, linesS_hit c1]
      rw [hlr, tparse_cons]
      have hix : Lib.indexByte rest 10 = (a.length : Int) := by rw [hra, idx_hit c1]
      rw [hix] at hidx
      have htk : rest.take (a.length + 1) = a ++ [10] := by
        rw [hra, show a ++ 10 :: r = (a ++ [10]) ++ r by simp, List.take_append_of_le_length (by simp), List.take_of_length_le (by simp)]
      have hdr : rest.drop (a.length + 1) = r := by
        rw [hra, ← List.drop_drop]; simp
      have hi1 : ((a.length : Int) + 1).toNat = a.length + 1 := by omega
      have hd0 : (rest.take (a.length + 1)).drop 0 = a ++ [10] := htk
      have hd1 : (rest.take rest.length).drop (a.length + 1) = r := by rw [List.take_length]; exact hdr
      have hd2 : (rest.take (a.length + (r.length + 1))).drop (a.length + 1) = r := by rw [← hlen]; exact hd1
      have htl : (if (a ++ [10]).getLast? = some (10 : UInt8) then (a ++ [10]).dropLast else a ++ [10]) = a := by
        rw [if_pos (by simp)]; simp
      have hY := round_yld (w0 := w0) hP hEv (L.str r) hR ha hb hl f2 f3 f4 f5 f6 (a ++ [10]) a htl (by simp; omega) (by omega) (by omega) ⟨by omega, by omega, by omega⟩
      clear hra hlr hix htl
      repeat' (first
    | ((with_reducible apply opsF.op rfl); (case hs => (first | exact tHT | exact tHS)))
    | with_reducible (first | apply opsF.nil | apply seqF.nn | apply vcF.seq | apply vcF.region | apply vcF.skip | apply vcF.block | apply vcF.exit | apply vcF.ret | apply vcF.loop | apply seqF.e | apply seqF.r | apply blkF.nn | apply blkF.e | apply blkF.r | apply blkF.o rfl)
    | ((with_reducible apply opsF.call); (case hx => exact tAG))
    | (first | ((with_reducible apply vcF.cond); (case hx => exact tEV))) <;> ((intro hc; try simp only [Int.reduceLT, Int.reduceLE, Int.reduceEq, Int.reduceNe, Int.cast_ofNat_Int, Int.reduceNeg, decide_true, decide_false, not_true_eq_false, not_false_eq_true, decide_eq_true_eq, decide_eq_false_iff_not, Bool.not_eq_true', Bool.not_eq_false', Bool.not_true, Bool.not_false, Bool.false_eq_true, Bool.true_eq_false, Bool.not_eq_true, Bool.not_eq_false, beq_iff_eq, beq_eq_false_iff_ne, bne_iff_ne, bne_eq_false_iff_eq, ne_eq, Int.not_lt, Int.not_le, ge_iff_le, gt_iff_lt, Decidable.not_not, reduceCtorEq, *] at hc) <;> (try (exfalso; omega)))
    | ((with_reducible apply opsF.callv); (case hf => exact tEV); (case hx => exact tCV))
    | ((with_reducible apply retF.r); (case hv => exact tRS))
    | ((with_reducible apply retF.nn); (case hv => exact tRS))
    | ((refine Call.use (hidx _) ?_))
    | ((with_reducible apply opsF.yield); (case hf => exact tEV); (case hx => exact tAG); (refine hY.mono fun v h2 hq => ?_); rcases hq with ⟨t', n', ho, rfl, v1, v2, v3, L2⟩ | ⟨ho, rfl, D2⟩))
      · have hb2 := line_bd ho ⟨g1, g2, g3⟩ hn1
        refine ⟨rest0.length - r.length, by omega, r, k + 1, n', t', v1, v2, v3, rfl, by omega, by omega, hb2.2, hb2.1, L2, by simp only [ho], s0, s1⟩
      all_goals exact .inr ⟨k + 1, D2, by simp only [ho]⟩
theorem lines_call (s : List UInt8) (h : AH) : Call P w0 strings_Lines [.v (.string (bs s))] h (fun v h' => v = .func (.func strings_Lines_1) [] [.ptr h.n 0] ∧ h' = h.alloc (.cells [.v (.string (bs s))])) := by
  refine Call.bodyF b_strings_Lines rfl rfl ?_
  unfold c_strings_Lines
  repeat' (first
    | ((with_reducible apply opsF.op rfl); (case hs => (first | exact tHT | exact tHS)))
    | with_reducible (first | apply opsF.nil | apply seqF.nn | apply vcF.seq | apply vcF.region | apply vcF.skip | apply vcF.ret | apply seqF.r)
    | ((with_reducible apply opsF.call); (case hx => exact tAG))
    | (first | ((with_reducible apply vcF.cond); (case hx => exact tEV))) <;> ((intro hc; try simp only [Int.reduceLT, Int.reduceLE, Int.reduceEq, Int.reduceNe, Int.cast_ofNat_Int, Int.reduceNeg, decide_true, decide_false, not_true_eq_false, not_false_eq_true, decide_eq_true_eq, decide_eq_false_iff_not, Bool.not_eq_true', Bool.not_eq_false', Bool.not_true, Bool.not_false, Bool.false_eq_true, Bool.true_eq_false, Bool.not_eq_true, Bool.not_eq_false, beq_iff_eq, beq_eq_false_iff_ne, bne_iff_ne, bne_eq_false_iff_eq, ne_eq, Int.not_lt, Int.not_le, ge_iff_le, gt_iff_lt, Decidable.not_not, reduceCtorEq, *] at hc) <;> (try (exfalso; omega)))
    | ((with_reducible apply retF.r); (case hv => exact tRS))
    | ((with_reducible apply retF.nn); (case hv => exact tRS)))
  exact ⟨rfl, rfl⟩
def resV (T : TB × Nat × Nat) (t1 t2 t3 : Tok) : AV := .tup [.agg (tabC T.1 t1 t2 t3), .v (.int .i64 (T.2.1 : Nat)), .v (.int .i64 (T.2.2 : Nat))]
theorem retM_ok {i bd : Nat} {rs : List ARes} {Q : AV → AH → Prop} {σ : Fm} {h : AH} {v : AV} (ho : h.objs i = some (.dfr bd)) {h2 : AH} (he : h.drop i = h2) (hv : aresF σ h2 rs = some v) (k : Q v h2) : retM i bd rs Q .ret σ h := by
  subst he
  refine ⟨ho, ?_⟩
  rw [hv]; exact k
theorem drop_ne {h : AH} {i j : Nat} {o : AObj} (hi : j ≠ i) (hq : h.objs j = some o) : (h.drop i).objs j = some o := by
  simp only [AH.drop]; rw [if_neg hi]; exact hq
theorem Ext.dropd {h h' : AH} (e : Ext h h') {i : Nat} (hi : h.n ≤ i) : Ext h (h'.drop i) := ⟨e.n, e.nt, fun j hj => by simp only [AH.drop]; rw [if_neg (by omega)]; exact e.objs j hj, e.ver⟩
theorem parse_raw (hP : PowTab w0) (hEv : ErrVars w0) (s : List UInt8) (h : AH) (hl : s.length ≤ 1000000000) : Call P w0 table_Parse [.v (.string (bs s))] h (fun v h' => (∃ t1 t2 t3, v = resV (tableS s) t1 t2 t3) ∧ Ext h h') := by
  refine Call.bodyR b_table_Parse rfl rfl rfl rfl ?_
  have hli := fun h => lines_call (w0 := w0) s h
  unfold preF
  rcases Nat.lt_or_ge 16384 s.length with hbig | hsm
  · have hT : tableS s = (zeroT, 0, 9) := if_pos hbig
    rw [hT]
    unfold c_table_Parse
    dsimp only [preF]
    repeat' (first
    | ((with_reducible apply opsF.op rfl); (case hs => (first | exact tHT | exact tHS)))
    | with_reducible (first | apply opsF.nil | apply seqF.nn | apply vcF.seq | apply vcF.region | apply vcF.dregion | apply vcF.skip | apply vcF.block | apply vcF.exit | apply vcF.ret | apply vcF.loop | apply seqF.e | apply seqF.r | apply blkF.nn | apply blkF.e | apply blkF.r | apply blkF.o rfl | apply dopsF.nil | apply stabsF.nil | apply stabsF.cons | apply dopsF.cont)
    | ((with_reducible apply opsF.call); (case hx => exact tAG))
    | ((with_reducible apply opsF.want); (case hg => exact tEV); (case hb => exact tNB))
    | ((with_reducible apply opsF.skip); (case hg => exact tEV); (case hb => exact tNB))
    | (first | ((with_reducible apply opsF.case); (case hg => exact tEV)) | ((with_reducible apply vcF.cond); (case hx => exact tEV)) | ((with_reducible apply dopsF.case); (case hg => exact tEV))) <;> ((intro hc; try simp only [Int.reduceLT, Int.reduceLE, Int.reduceEq, Int.reduceNe, Int.cast_ofNat_Int, Int.reduceNeg, decide_true, decide_false, not_true_eq_false, not_false_eq_true, decide_eq_true_eq, decide_eq_false_iff_not, Bool.not_eq_true', Bool.not_eq_false', Bool.not_true, Bool.not_false, Bool.false_eq_true, Bool.true_eq_false, Bool.not_eq_true, Bool.not_eq_false, beq_iff_eq, beq_eq_false_iff_ne, bne_iff_ne, bne_eq_false_iff_eq, ne_eq, Int.not_lt, Int.not_le, ge_iff_le, gt_iff_lt, Decidable.not_not, reduceCtorEq, *] at hc) <;> (try (exfalso; omega)))
    | ((with_reducible apply opsF.und); (case hg => rfl))
    | ((with_reducible apply opsF.callv); (case hf => exact tEV); (case hx => exact tCV))
    | ((with_reducible apply dopsF.op rfl); (case hs => (first | exact tHT | exact tHS)))
    | ((with_reducible apply dopsF.call); (case hx => exact tAG))
    | ((with_reducible apply dopsF.want); (case hg => exact tEV); (case hb => exact tNB))
    | ((with_reducible apply dopsF.skip); (case hg => exact tEV); (case hb => exact tNB))
    | ((with_reducible apply dopsF.und); (case hg => rfl))
    | ((with_reducible apply stabF.und); rfl)
    | ((with_reducible apply stabF.want); (case hg => exact tEV); (case hb => exact tNB))
    | ((with_reducible apply stabF.skip); (case hg => exact tEV); (case hb => exact tNB))
    | ((with_reducible apply stabF.op); (case hs => (first | exact tHT | exact tHS)); (case hv => exact tSV))
    | ((with_reducible apply retF.r); (case hv => exact tRS))
    | ((with_reducible apply retF.nn); (case hv => exact tRS)))
    refine ⟨⟨.full, .full, .full, rfl⟩, ?_⟩
    repeat' first
      | exact .refl _
      | refine Ext.set ?_ (by first | exact Nat.le_refl _ | (simp only [alloc_n, set_n]; omega)) _
      | refine Ext.trans ?_ (Ext.alloc _ _)
  · have hT : tableS s = tparse (linesS s) 0 0 zeroT := if_neg (by omega)
    rw [hT]
    unfold c_table_Parse
    dsimp only [preF]
    repeat' (first
    | ((with_reducible apply opsF.op rfl); (case hs => (first | exact tHT | exact tHS)))
    | with_reducible (first | apply opsF.nil | apply seqF.nn | apply vcF.seq | apply vcF.region | apply vcF.dregion | apply vcF.skip | apply vcF.block | apply vcF.exit | apply vcF.ret | apply vcF.loop | apply seqF.e | apply seqF.r | apply blkF.nn | apply blkF.e | apply blkF.r | apply blkF.o rfl | apply dopsF.nil | apply stabsF.nil | apply stabsF.cons | apply dopsF.cont)
    | ((with_reducible apply opsF.call); (case hx => exact tAG))
    | ((with_reducible apply opsF.want); (case hg => exact tEV); (case hb => exact tNB))
    | ((with_reducible apply opsF.skip); (case hg => exact tEV); (case hb => exact tNB))
    | (first | ((with_reducible apply opsF.case); (case hg => exact tEV)) | ((with_reducible apply vcF.cond); (case hx => exact tEV)) | ((with_reducible apply dopsF.case); (case hg => exact tEV))) <;> ((intro hc; try simp only [Int.reduceLT, Int.reduceLE, Int.reduceEq, Int.reduceNe, Int.cast_ofNat_Int, Int.reduceNeg, decide_true, decide_false, not_true_eq_false, not_false_eq_true, decide_eq_true_eq, decide_eq_false_iff_not, Bool.not_eq_true', Bool.not_eq_false', Bool.not_true, Bool.not_false, Bool.false_eq_true, Bool.true_eq_false, Bool.not_eq_true, Bool.not_eq_false, beq_iff_eq, beq_eq_false_iff_ne, bne_iff_ne, bne_eq_false_iff_eq, ne_eq, Int.not_lt, Int.not_le, ge_iff_le, gt_iff_lt, Decidable.not_not, reduceCtorEq, *] at hc) <;> (try (exfalso; omega)))
    | ((with_reducible apply opsF.und); (case hg => rfl))
    | ((with_reducible apply opsF.callv); (case hf => exact tEV); (case hx => exact tCV))
    | ((with_reducible apply dopsF.op rfl); (case hs => (first | exact tHT | exact tHS)))
    | ((with_reducible apply dopsF.call); (case hx => exact tAG))
    | ((with_reducible apply dopsF.want); (case hg => exact tEV); (case hb => exact tNB))
    | ((with_reducible apply dopsF.skip); (case hg => exact tEV); (case hb => exact tNB))
    | ((with_reducible apply dopsF.und); (case hg => rfl))
    | ((with_reducible apply stabF.und); rfl)
    | ((with_reducible apply stabF.want); (case hg => exact tEV); (case hb => exact tNB))
    | ((with_reducible apply stabF.skip); (case hg => exact tEV); (case hb => exact tNB))
    | ((with_reducible apply stabF.op); (case hs => (first | exact tHT | exact tHS)); (case hv => exact tSV))
    | ((with_reducible apply retF.r); (case hv => exact tRS))
    | ((with_reducible apply retF.nn); (case hv => exact tRS))
    | ((refine (hli _).mono fun v h2 hq => ?_); obtain ⟨rfl, rfl⟩ := hq))
    have hE0 : ∀ o1 o2 o3 o4 o5 o6 o7 o8 o9, Ext h (((((((((h.alloc o1).alloc o2).alloc o3).alloc o4).alloc o5).set (h.n + 4) o6).alloc o7).set (h.n + 5) o8).alloc o9) := fun o1 o2 o3 o4 o5 o6 o7 o8 o9 => by
      repeat' first
        | exact .refl _
        | refine Ext.set ?_ (by omega) _
        | refine Ext.trans ?_ (Ext.alloc _ _)
    refine ⟨strings_Lines_1, [], [.ptr (h.n + 6) 0], rfl, fun fr R l bd hl2 hσ hR ha hb => ?_⟩
    rw [← hσ]
    refine ((lines1_call hP hEv (h0 := h) (bd := bd) (l := l) (R := R) (fr := fr) (rest0 := s) (k0 := 0) (n0 := 0) (t0 := zeroT) (u1 := .full) (u2 := .full) (u3 := .full) ?_ hR ha hb hl2 ?_ ?_ ?_ ?_ ?_ (by omega) rfl ⟨Nat.le_refl _, Nat.le_refl _, Nat.le_refl _⟩ (by omega)).mono fun v h' hq => ?_)
    · have hn : ∀ (i : Nat) (x : Nat), (Tok.full : Tok).owner = some x → False := fun _ x hx => by cases hx
      refine ⟨?_, ?_, ?_, ?_, ?_, ?_, ?_, ?_, ?_, ⟨?_, ?_, ?_, trivial, trivial, trivial, (fun x hx => by cases hx), (fun x hx => by cases hx), (fun x hx => by cases hx), (fun x hx => by cases hx), (fun x hx => by cases hx), (fun x hx => by cases hx)⟩, ?_⟩
      · repeat' first
          | exact .refl _
          | refine Ext.set ?_ (by first | exact Nat.le_refl _ | (simp only [alloc_n, set_n]; omega)) _
          | refine Ext.trans ?_ (Ext.alloc _ _)
      · exact tHX
      · exact tHX
      · exact tHX
      · exact tHX
      · exact tHX
      · exact tHX
      · exact tHX
      · exact tHX
      · exact tHX
      · simp only [alloc_n, set_n]; omega
      · exact Nat.le_refl _
      · simp only [alloc_n, set_n]; omega
    · rw [hσ]; rfl
    · rw [hσ]; rfl
    · rw [hσ]; rfl
    · rw [hσ]; rfl
    · rw [hσ]; rfl
    · rw [hσ]
      have hb1 : ∀ {A C : Prop}, A → (A → C) → C := fun a f => f a
      rcases hq with ⟨k, n, t, t1, t2, t3, L, hTT⟩ | ⟨k, D, hTT⟩
      · rw [hTT]
        refine ⟨.ready, none, L.lp, (by intro e; cases e), ?_⟩
        have dr : ∀ (i : Nat) o, i ≠ h.n + 8 → h'.objs i = some o → (h'.drop (h.n + 8)).objs i = some o := fun i o hi hq => by
          simp only [AH.drop]; rw [if_neg hi]; exact hq
        have x0 := dr _ _ (by omega) L.z0
        have x1 := dr _ _ (by omega) L.z1
        have x2 := dr _ _ (by omega) L.z2
        have x3 := dr _ _ (by omega) L.ps.ob
        have x4 := dr _ _ (by omega) L.pp
        have x7 := dr _ _ (by omega) L.dd
        have hEd : Ext h (h'.drop (h.n + 8)) := ⟨L.e.n, L.e.nt, fun i hi => by simp only [AH.drop]; rw [if_neg (by omega)]; exact L.e.objs i hi, L.e.ver⟩
        simp only [rngF, alloc_n, set_n, Nat.add_assoc, Nat.reduceAdd]
        generalize h'.drop (h.n + 8) = hx at *
        clear hli hE0 L dr hσ
        unfold tabC nR at x3
        unfold tabC at x0
        repeat' (first
    | ((with_reducible apply opsF.op rfl); (case hs => (first | exact tHT | exact tHS)))
    | with_reducible (first | apply opsF.nil | apply seqF.nn | apply vcF.seq | apply vcF.region | apply vcF.dregion | apply vcF.skip | apply vcF.block | apply vcF.exit | apply vcF.ret | apply vcF.loop | apply seqF.e | apply seqF.r | apply blkF.nn | apply blkF.e | apply blkF.r | apply blkF.o rfl | apply dopsF.nil | apply stabsF.nil | apply stabsF.cons | apply dopsF.cont)
    | ((with_reducible apply opsF.call); (case hx => exact tAG))
    | ((with_reducible apply opsF.want); (case hg => exact tEV); (case hb => exact tNB))
    | ((with_reducible apply opsF.skip); (case hg => exact tEV); (case hb => exact tNB))
    | (first | ((with_reducible apply opsF.case); (case hg => exact tEV)) | ((with_reducible apply vcF.cond); (case hx => exact tEV)) | ((with_reducible apply dopsF.case); (case hg => exact tEV))) <;> ((intro hc; try simp only [Int.reduceLT, Int.reduceLE, Int.reduceEq, Int.reduceNe, Int.cast_ofNat_Int, Int.reduceNeg, decide_true, decide_false, not_true_eq_false, not_false_eq_true, decide_eq_true_eq, decide_eq_false_iff_not, Bool.not_eq_true', Bool.not_eq_false', Bool.not_true, Bool.not_false, Bool.false_eq_true, Bool.true_eq_false, Bool.not_eq_true, Bool.not_eq_false, beq_iff_eq, beq_eq_false_iff_ne, bne_iff_ne, bne_eq_false_iff_eq, ne_eq, Int.not_lt, Int.not_le, ge_iff_le, gt_iff_lt, Decidable.not_not, reduceCtorEq, *] at hc) <;> (try (exfalso; omega)))
    | ((with_reducible apply opsF.und); (case hg => rfl))
    | ((with_reducible apply opsF.callv); (case hf => exact tEV); (case hx => exact tCV))
    | ((with_reducible apply dopsF.op rfl); (case hs => (first | exact tHT | exact tHS)))
    | ((with_reducible apply dopsF.call); (case hx => exact tAG))
    | ((with_reducible apply dopsF.want); (case hg => exact tEV); (case hb => exact tNB))
    | ((with_reducible apply dopsF.skip); (case hg => exact tEV); (case hb => exact tNB))
    | ((with_reducible apply dopsF.und); (case hg => rfl))
    | ((with_reducible apply stabF.und); rfl)
    | ((with_reducible apply stabF.want); (case hg => exact tEV); (case hb => exact tNB))
    | ((with_reducible apply stabF.skip); (case hg => exact tEV); (case hb => exact tNB))
    | ((with_reducible apply stabF.op); (case hs => (first | exact tHT | exact tHS)); (case hv => exact tSV))
    | ((with_reducible apply retF.r); (case hv => exact tRS))
    | ((with_reducible apply retF.nn); (case hv => exact tRS)))
        apply retM_ok
        case ho => rw [set_at, if_neg (by omega), set_at, if_neg (by omega), set_at, if_neg (by omega)]; exact x7
        case he => rfl
        case hv =>
          have y0 : ∀ A B C, ((((hx.set h.n A).set (h.n + 1) B).set (h.n + 2) C).drop (h.n + 7)).objs h.n = some A := fun A B C => drop_ne (by omega) (by rw [set_at, if_neg (by omega), set_at, if_neg (by omega), set_at, if_pos rfl])
          have y1 : ∀ A B C, ((((hx.set h.n A).set (h.n + 1) B).set (h.n + 2) C).drop (h.n + 7)).objs (h.n + 1) = some B := fun A B C => drop_ne (by omega) (by rw [set_at, if_neg (by omega), set_at, if_pos rfl])
          have y2 : ∀ A B C, ((((hx.set h.n A).set (h.n + 1) B).set (h.n + 2) C).drop (h.n + 7)).objs (h.n + 2) = some C := fun A B C => drop_ne (by omega) (by rw [set_at, if_pos rfl])
          exact tRS
        case k =>
          refine ⟨⟨t1, t2, t3, rfl⟩, Ext.dropd ?_ (by omega)⟩
          exact ((hEd.set (by omega) _).set (by omega) _).set (by omega) _
      · rw [hTT]
        refine ⟨.done, some .ret, D.lp, (by intro e; cases e), ?_⟩
        have dr : ∀ (i : Nat) o, i ≠ h.n + 8 → h'.objs i = some o → (h'.drop (h.n + 8)).objs i = some o := fun i o hi hq => by
          simp only [AH.drop]; rw [if_neg hi]; exact hq
        have x0 := dr _ _ (by omega) D.z0
        have x1 := dr _ _ (by omega) D.z1
        have x2 := dr _ _ (by omega) D.z2
        have x7 := dr _ _ (by omega) D.dd
        have hEd : Ext h (h'.drop (h.n + 8)) := ⟨D.e.n, D.e.nt, fun i hi => by simp only [AH.drop]; rw [if_neg (by omega)]; exact D.e.objs i hi, D.e.ver⟩
        simp only [rngF, alloc_n, set_n, Nat.add_assoc, Nat.reduceAdd]
        generalize h'.drop (h.n + 8) = hx at *
        clear hσ hE0 hli D dr
        apply retM_ok
        case ho => exact x7
        case he => rfl
        case hv =>
          have y0 := drop_ne (i := h.n + 7) (by omega) x0
          have y1 := drop_ne (i := h.n + 7) (by omega) x1
          have y2 := drop_ne (i := h.n + 7) (by omega) x2
          generalize hx.drop (h.n + 7) = hy at *
          unfold tabC at y0
          exact tRS
        case k => exact ⟨⟨.full, .full, .full, rfl⟩, Ext.dropd hEd (by omega)⟩
def tabV (T : TB × Nat × Nat) : AV := resV T .no .no .no
theorem tab_plain (T : TB × Nat × Nat) : Plain (tabV T) := by
  refine Plain.tupv fun x hx => ?_
  simp only [List.mem_cons, List.not_mem_nil, or_false] at hx
  rcases hx with rfl | rfl | rfl
  · refine Plain.aggv fun y hy => ?_
    simp only [tabC, List.mem_cons, List.not_mem_nil, or_false] at hy
    rcases hy with rfl | rfl | rfl | rfl
    · refine Plain.listv trivial fun r hr x hx => ?_
      obtain ⟨a, _, rfl⟩ := List.mem_map.1 hr
      simp only [arow, List.mem_cons, List.not_mem_nil, or_false] at hx
      rcases hx with rfl | rfl
      · exact .v _
      · refine Plain.listv trivial fun r hr x hx => ?_
        simp only [srows, List.mem_map] at hr
        obtain ⟨b, _, rfl⟩ := hr
        rw [List.mem_singleton.1 hx]; exact .v _
    · refine Plain.listv trivial fun r hr x hx => ?_
      obtain ⟨a, _, rfl⟩ := List.mem_map.1 hr
      simp only [hrow, List.mem_cons, List.not_mem_nil, or_false] at hx
      rcases hx with rfl | rfl <;> exact .v _
    · refine Plain.listv trivial fun r hr x hx => ?_
      obtain ⟨a, _, rfl⟩ := List.mem_map.1 hr
      simp only [brow, List.mem_cons, List.not_mem_nil, or_false] at hx
      rcases hx with rfl | rfl <;> exact .v _
    · exact .v _
  · exact .v _
  · exact .v _
/-- Parse: the tables of a text. -/
theorem table_call (hP : PowTab w0) (hEv : ErrVars w0) (s : List UInt8) (h : AH) (hl : s.length ≤ 1000000000) : Call P w0 table_Parse [.v (.string (bs s))] h (fun v h' => v = tabV (tableS s) ∧ h' = h) :=
  Call.pure (tab_plain _) ((parse_raw hP hEv s h hl).weak fun v h' hq => by
    obtain ⟨⟨t1, t2, t3, rfl⟩, hE⟩ := hq
    exact ⟨tabV (tableS s), h', AV.le.tup (.cons (AV.le.agg (.cons AV.le.noTok (.cons AV.le.noTok (.cons AV.le.noTok (.refl _))))) (.refl _)), .refl _, rfl, hE⟩)
end Go.Abs.F
