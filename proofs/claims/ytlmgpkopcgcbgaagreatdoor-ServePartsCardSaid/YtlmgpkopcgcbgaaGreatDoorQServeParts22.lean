/- What the proof needs, part 22: Layer 6: a peer's session: an answer is taken; Layer 6: a peer's session: all that it says, and the mails, when all that it asks is answered with 250: the plain side; Layer 6: a peer's session: a new one; Layer 6: a peer's session: what it says or asks next; Layer 6: a peer's session, all that it asks answered with 250: what it says, and the mails; Layer 6: a peer's session: commands, bodies, as it is told them: the plain side; Layer 6: commands in any order: the plain side; Layer 6: a peer's session: bytes in parts: the plain side. -/
import Derived.Test.YtlmgpkopcgcbgaaGreatDoorQServeParts21
import Derived.Test.YtlmgpkopcgcbgaaGreatDoorQServeParts20
/- Layer 6: a peer's session: an answer is taken. -/
namespace Go.Abs.F
open Go Go.Abs
set_option maxRecDepth 10000
set_option maxHeartbeats 20000000
set_option linter.unusedSimpArgs false
set_option linter.unusedVariables false
variable {w0 : World}
theorem sans_yes (hP : PowTab w0) (x : SK) (s : SV) (ap : AV) (tq tr tt tl : Tok) (R : List Tok) (e : Ev) (c : Int) (h : AH) (H : SvO h x s ap tq tr tt tl) (hT : Toks h (tq :: tr :: tt :: tl :: R)) (hq : s.asked = some e) (ho : s.out = []) (hc1 : 200 ≤ c) (hc2 : c ≤ 599) (hr : s.rcpts.length ≤ 1000000000) :
    Call P w0 serve_Server_Answer [.ptr x.id 0, .v (.int .i64 c)] h (fun v h' => v = .v (.bool true) ∧ SvQ x (s.got e c) R h h') := by
  have hob := H.o
  have ha := H.a
  have hlt := H.lt.1
  have hlt2 := H.lt.2
  have hne := H.ne
  have hl := H.l
  rw [hq] at ha
  obtain ⟨aid, rfl, ha1, ha2, ha3⟩ := ha
  have S1 : ∀ {h' : AH}, Ext h h' → SvO (h'.set x.id (.cells (vcel x ({ s with asked := none }) (.v (.pointer none)) tq tr tt))) x ({ s with asked := none }) (.v (.pointer none)) tq tr tt tl := fun {h'} E =>
    ⟨by rw [set_at, if_pos rfl], rfl, by rw [set_at, if_neg (Ne.symm hne)]; exact (E.objs _ hlt2).trans hl, by rw [set_n]; have := E.n; omega, hne⟩
  have ho1 : ({ s with asked := none } : SV).out = [] := ho
  have hr1 : ({ s with asked := none } : SV).rcpts.length ≤ 1000000000 := hr
  have hgot : s.got e c = ((if e.kind = 4 then ({ s with asked := none } : SV).reset else if c ≤ 299 then (if e.kind = 2 then { ({ s with asked := none } : SV) with sender := true, sndr := e.text } else { ({ s with asked := none } : SV) with rcpts := ({ s with asked := none } : SV).rcpts ++ [e.text] }) else ({ s with asked := none } : SV)) : SV).say (if c ≤ 299 then 250 else c) := rfl
  rw [hgot]
  clear hgot
  generalize hs1 : ({ s with asked := none } : SV) = s1 at *
  have hv : vcel x s1 (.v (.pointer none)) tq tr tt = [.v (.string (bs s.host)), .v (.int .i64 s.size), .v (.int .i64 s.rmax), .v (.bool s.drain), .ptr x.lid 0, .list 6 (erows []) tq, .v (.pointer none), .v (.bool s.greeted), .v (.bool s.sender), .v (.string (bs s.sndr)), .list 1 (srows s.rcpts) tr, .v (.bool s.body), .v (.bool s.bad), .v (.int .i64 s.bsize), .list 1 (srows s.text) tt, .v (.bool s.over)] := by
    rw [← hs1]; unfold vcel; dsimp only; rw [ho]
  rw [hv] at S1
  clear hs1 hv
  unfold vcel at hob
  rw [ho] at hob
  unfold erow at ha1
  refine Call.bodyF b_serve_Server_Answer rfl rfl ?_
  unfold c_serve_Server_Answer
  have hx3 : ¬ aid = x.id := fun q => ha3 (by simp [SK.ids, q])
  repeat' (first
| (with_reducible refine vcF.cut (a := .region (⟨some 38, .mv (.tmp 0), none⟩ :: _)) (fun σ hh => SvO hh x s1 (.v (.pointer none)) tq tr tt tl ∧ Toks hh (tq :: tr :: tt :: tl :: R) ∧ Fr x.ids h hh ∧ σ 0 = .ptr x.id 0 ∧ σ 1 = .v (.int .i64 c) ∧ ∃ j, σ 5 = .ptr j 0 ∧ hh.objs j = some (.cells (erow e)) ∧ j < hh.n ∧ ¬ j ∈ x.ids) ?_ ?_)
| ((with_reducible first | apply opsF.op rfl | apply dopsF.op rfl); case hs => first | exact tHT | exact tHS)
| (with_reducible first | apply opsF.nil | apply seqF.nn | apply vcF.seq | apply vcF.region | apply vcF.dregion | apply vcF.skip | apply vcF.block | apply vcF.exit | apply vcF.ret | apply vcF.loop | apply seqF.e | apply seqF.r | apply blkF.nn | apply blkF.e | apply blkF.r | apply blkF.o rfl | apply dopsF.nil | apply stabsF.nil | apply stabsF.cons | apply dopsF.cont)
| ((with_reducible first | apply opsF.call | apply dopsF.call); case hx => exact tAG)
| ((with_reducible first | apply opsF.want | apply dopsF.want | apply stabF.want); (case hg => exact tEV); case hb => exact tNB)
| ((with_reducible first | apply opsF.skip | apply dopsF.skip | apply stabF.skip); (case hg => exact tEV); case hb => exact tNB)
| (first | ((with_reducible first | apply opsF.case | apply dopsF.case); case hg => exact tEV) | ((with_reducible apply vcF.cond); case hx => exact tEV)) <;> ((intro hc; try simp only [Int.reduceLT, Int.reduceLE, Int.reduceEq, Int.reduceNe, Int.cast_ofNat_Int, Int.reduceNeg, reduceCtorEq, ne_eq, ge_iff_le, gt_iff_lt, beq_iff_eq, beq_eq_false_iff_ne, bne_iff_ne, bne_eq_false_iff_eq, nrm, *] at hc) <;> try (exfalso; omega))
| ((with_reducible first | apply opsF.und | apply dopsF.und); case hg => rfl)
| ((with_reducible apply stabF.und); rfl)
| ((with_reducible apply stabF.op); (case hs => first | exact tHT | exact tHS); case hv => exact tSV)
| ((with_reducible first | apply retF.r | apply retF.nn); case hv => exact tRS)
| fail)
  rotate_right
  · rintro σ hh ⟨O, T, F, g0, g1, j, g5, oj, j1, j2⟩
    have gob := O.o
    have hj : ¬ j = x.id := fun q => j2 (by simp [SK.ids, q])
    have hol : s1.out.length ≤ 1000000000 := by rw [ho1]; exact Nat.zero_le _
    unfold erow at oj
    unfold vcel at gob
    clear hob ha1 S1 hl ho1
    by_cases hk : e.kind = 4
    · rw [if_pos hk]
      have hre := sreset_call (w0 := w0) x s1 (.v (.pointer none)) tq tr tt tl hh O
      by_cases hc : c ≤ 299
      · rw [if_pos hc]
        repeat' (first
| ((with_reducible first | apply opsF.op rfl | apply dopsF.op rfl); case hs => first | exact tHT | exact tHS)
| (with_reducible first | apply opsF.nil | apply seqF.nn | apply vcF.seq | apply vcF.region | apply vcF.dregion | apply vcF.skip | apply vcF.block | apply vcF.exit | apply vcF.ret | apply vcF.loop | apply seqF.e | apply seqF.r | apply blkF.nn | apply blkF.e | apply blkF.r | apply blkF.o rfl | apply dopsF.nil | apply stabsF.nil | apply stabsF.cons | apply dopsF.cont)
| ((with_reducible first | apply opsF.call | apply dopsF.call); case hx => exact tAG)
| ((with_reducible first | apply opsF.want | apply dopsF.want | apply stabF.want); (case hg => exact tEV); case hb => exact tNB)
| ((with_reducible first | apply opsF.skip | apply dopsF.skip | apply stabF.skip); (case hg => exact tEV); case hb => exact tNB)
| (first | ((with_reducible first | apply opsF.case | apply dopsF.case); case hg => exact tEV) | ((with_reducible apply vcF.cond); case hx => exact tEV)) <;> ((intro hc; try simp only [Int.reduceLT, Int.reduceLE, Int.reduceEq, Int.reduceNe, Int.cast_ofNat_Int, Int.reduceNeg, reduceCtorEq, ne_eq, ge_iff_le, gt_iff_lt, beq_iff_eq, beq_eq_false_iff_ne, bne_iff_ne, bne_eq_false_iff_eq, nrm, *] at hc) <;> try (exfalso; omega))
| ((with_reducible first | apply opsF.und | apply dopsF.und); case hg => rfl)
| ((with_reducible apply stabF.und); rfl)
| ((with_reducible apply stabF.op); (case hs => first | exact tHT | exact tHS); case hv => exact tSV)
| ((with_reducible first | apply retF.r | apply retF.nn); case hv => exact tRS)
| ((refine hre.mono fun v h3 hp => ?_); obtain ⟨O3, T3, F3⟩ := hp)
| ((refine (ssay_call hP x s1.reset (.v (.pointer none)) tq .full .full tl (.full :: .full :: tl :: R) 250 _ O3 (T3 _ (Toks.ff T)) hol).mono fun v h5 hp => ?_); obtain ⟨tq5, O5, T5, F5⟩ := hp)
| fail)
        all_goals exact ⟨rfl, ⟨_, tq5, .full, .full, tl, O5, T5⟩, (F.trans F3).trans F5⟩
      · rw [if_neg hc]
        repeat' (first
| ((with_reducible first | apply opsF.op rfl | apply dopsF.op rfl); case hs => first | exact tHT | exact tHS)
| (with_reducible first | apply opsF.nil | apply seqF.nn | apply vcF.seq | apply vcF.region | apply vcF.dregion | apply vcF.skip | apply vcF.block | apply vcF.exit | apply vcF.ret | apply vcF.loop | apply seqF.e | apply seqF.r | apply blkF.nn | apply blkF.e | apply blkF.r | apply blkF.o rfl | apply dopsF.nil | apply stabsF.nil | apply stabsF.cons | apply dopsF.cont)
| ((with_reducible first | apply opsF.call | apply dopsF.call); case hx => exact tAG)
| ((with_reducible first | apply opsF.want | apply dopsF.want | apply stabF.want); (case hg => exact tEV); case hb => exact tNB)
| ((with_reducible first | apply opsF.skip | apply dopsF.skip | apply stabF.skip); (case hg => exact tEV); case hb => exact tNB)
| (first | ((with_reducible first | apply opsF.case | apply dopsF.case); case hg => exact tEV) | ((with_reducible apply vcF.cond); case hx => exact tEV)) <;> ((intro hc; try simp only [Int.reduceLT, Int.reduceLE, Int.reduceEq, Int.reduceNe, Int.cast_ofNat_Int, Int.reduceNeg, reduceCtorEq, ne_eq, ge_iff_le, gt_iff_lt, beq_iff_eq, beq_eq_false_iff_ne, bne_iff_ne, bne_eq_false_iff_eq, nrm, *] at hc) <;> try (exfalso; omega))
| ((with_reducible first | apply opsF.und | apply dopsF.und); case hg => rfl)
| ((with_reducible apply stabF.und); rfl)
| ((with_reducible apply stabF.op); (case hs => first | exact tHT | exact tHS); case hv => exact tSV)
| ((with_reducible first | apply retF.r | apply retF.nn); case hv => exact tRS)
| ((refine hre.mono fun v h3 hp => ?_); obtain ⟨O3, T3, F3⟩ := hp)
| ((refine (ssay_call hP x s1.reset (.v (.pointer none)) tq .full .full tl (.full :: .full :: tl :: R) c _ O3 (T3 _ (Toks.ff T)) hol).mono fun v h5 hp => ?_); obtain ⟨tq5, O5, T5, F5⟩ := hp)
| fail)
        all_goals exact ⟨rfl, ⟨_, tq5, .full, .full, tl, O5, T5⟩, (F.trans F3).trans F5⟩
    · rw [if_neg hk]
      by_cases hc : c ≤ 299
      · rw [if_pos hc, if_pos hc]
        by_cases hk2 : e.kind = 2
        · rw [if_pos hk2]
          have U := O.upd (h2 := hh) (s' := { s1 with sender := true, sndr := e.text }) (tq' := tq) (tr' := tr) (tt' := tt) (.refl _ _) rfl rfl
          have hsy := ssay_call (w0 := w0) hP x ({ s1 with sender := true, sndr := e.text }) (.v (.pointer none)) tq tr tt tl (tr :: tt :: tl :: R) 250 _ U T.set hol
          unfold vcel at hsy
          dsimp only at hsy
          clear hk
          have hk : ¬ e.kind = 4 := by omega
          repeat' (first
| ((with_reducible first | apply opsF.op rfl | apply dopsF.op rfl); case hs => first | exact tHT | exact tHS)
| (with_reducible first | apply opsF.nil | apply seqF.nn | apply vcF.seq | apply vcF.region | apply vcF.dregion | apply vcF.skip | apply vcF.block | apply vcF.exit | apply vcF.ret | apply vcF.loop | apply seqF.e | apply seqF.r | apply blkF.nn | apply blkF.e | apply blkF.r | apply blkF.o rfl | apply dopsF.nil | apply stabsF.nil | apply stabsF.cons | apply dopsF.cont)
| ((with_reducible first | apply opsF.call | apply dopsF.call); case hx => exact tAG)
| ((with_reducible first | apply opsF.want | apply dopsF.want | apply stabF.want); (case hg => exact tEV); case hb => exact tNB)
| ((with_reducible first | apply opsF.skip | apply dopsF.skip | apply stabF.skip); (case hg => exact tEV); case hb => exact tNB)
| (first | ((with_reducible first | apply opsF.case | apply dopsF.case); case hg => exact tEV) | ((with_reducible apply vcF.cond); case hx => exact tEV)) <;> ((intro hc; try simp only [Int.reduceLT, Int.reduceLE, Int.reduceEq, Int.reduceNe, Int.cast_ofNat_Int, Int.reduceNeg, reduceCtorEq, ne_eq, ge_iff_le, gt_iff_lt, beq_iff_eq, beq_eq_false_iff_ne, bne_iff_ne, bne_eq_false_iff_eq, nrm, *] at hc) <;> try (exfalso; omega))
| ((with_reducible first | apply opsF.und | apply dopsF.und); case hg => rfl)
| ((with_reducible apply stabF.und); rfl)
| ((with_reducible apply stabF.op); (case hs => first | exact tHT | exact tHS); case hv => exact tSV)
| ((with_reducible first | apply retF.r | apply retF.nn); case hv => exact tRS)
| ((refine hsy.mono fun v h5 hp => ?_); obtain ⟨tq5, O5, T5, F5⟩ := hp)
| ((rw [set_set]; refine hsy.mono fun v h5 hp => ?_); obtain ⟨tq5, O5, T5, F5⟩ := hp)
| fail)
          all_goals exact ⟨rfl, ⟨_, tq5, tr, tt, tl, O5, T5⟩, (F.set (.inl (by simp [SK.ids])) _).trans F5⟩
        · rw [if_neg hk2]
          obtain ⟨tr', h2, hap, T2, k4, k5, k6⟩ := (T.swap).app
          have xr := srows_len s1.rcpts
          have e2 : srows (s1.rcpts ++ [e.text]) = srows s1.rcpts ++ [[.v (.string (bs e.text))]] := by rw [srows_app]; rfl
          have U := O.upd (h2 := h2) (s' := { s1 with rcpts := s1.rcpts ++ [e.text] }) (tq' := tq) (tr' := tr') (tt' := tt) ((Fr.refl [] hh).app k4 k5 k6) rfl rfl
          have hsy := ssay_call (w0 := w0) hP x ({ s1 with rcpts := s1.rcpts ++ [e.text] }) (.v (.pointer none)) tq tr' tt tl (tr' :: tt :: tl :: R) 250 _ U (T2.swap).set hol
          unfold vcel at hsy
          dsimp only at hsy
          rw [e2] at hsy
          repeat' (first
| ((with_reducible first | apply opsF.op rfl | apply dopsF.op rfl); case hs => first | exact tHT | exact tHS)
| (with_reducible first | apply opsF.nil | apply seqF.nn | apply vcF.seq | apply vcF.region | apply vcF.dregion | apply vcF.skip | apply vcF.block | apply vcF.exit | apply vcF.ret | apply vcF.loop | apply seqF.e | apply seqF.r | apply blkF.nn | apply blkF.e | apply blkF.r | apply blkF.o rfl | apply dopsF.nil | apply stabsF.nil | apply stabsF.cons | apply dopsF.cont)
| ((with_reducible first | apply opsF.call | apply dopsF.call); case hx => exact tAG)
| ((with_reducible first | apply opsF.want | apply dopsF.want | apply stabF.want); (case hg => exact tEV); case hb => exact tNB)
| ((with_reducible first | apply opsF.skip | apply dopsF.skip | apply stabF.skip); (case hg => exact tEV); case hb => exact tNB)
| (first | ((with_reducible first | apply opsF.case | apply dopsF.case); case hg => exact tEV) | ((with_reducible apply vcF.cond); case hx => exact tEV)) <;> ((intro hc; try simp only [Int.reduceLT, Int.reduceLE, Int.reduceEq, Int.reduceNe, Int.cast_ofNat_Int, Int.reduceNeg, reduceCtorEq, ne_eq, ge_iff_le, gt_iff_lt, beq_iff_eq, beq_eq_false_iff_ne, bne_iff_ne, bne_eq_false_iff_eq, nrm, *] at hc) <;> try (exfalso; omega))
| ((with_reducible first | apply opsF.und | apply dopsF.und); case hg => rfl)
| ((with_reducible apply stabF.und); rfl)
| ((with_reducible apply stabF.op); (case hs => first | exact tHT | exact tHS); case hv => exact tSV)
| ((with_reducible first | apply retF.r | apply retF.nn); case hv => exact tRS)
| ((refine hsy.mono fun v h5 hp => ?_); obtain ⟨tq5, O5, T5, F5⟩ := hp)
| fail)
          all_goals exact ⟨rfl, ⟨_, tq5, tr', tt, tl, O5, T5⟩, ((F.app k4 k5 k6).set (.inl (by simp [SK.ids])) _).trans F5⟩
      · rw [if_neg hc, if_neg hc]
        repeat' (first
| ((with_reducible first | apply opsF.op rfl | apply dopsF.op rfl); case hs => first | exact tHT | exact tHS)
| (with_reducible first | apply opsF.nil | apply seqF.nn | apply vcF.seq | apply vcF.region | apply vcF.dregion | apply vcF.skip | apply vcF.block | apply vcF.exit | apply vcF.ret | apply vcF.loop | apply seqF.e | apply seqF.r | apply blkF.nn | apply blkF.e | apply blkF.r | apply blkF.o rfl | apply dopsF.nil | apply stabsF.nil | apply stabsF.cons | apply dopsF.cont)
| ((with_reducible first | apply opsF.call | apply dopsF.call); case hx => exact tAG)
| ((with_reducible first | apply opsF.want | apply dopsF.want | apply stabF.want); (case hg => exact tEV); case hb => exact tNB)
| ((with_reducible first | apply opsF.skip | apply dopsF.skip | apply stabF.skip); (case hg => exact tEV); case hb => exact tNB)
| (first | ((with_reducible first | apply opsF.case | apply dopsF.case); case hg => exact tEV) | ((with_reducible apply vcF.cond); case hx => exact tEV)) <;> ((intro hc; try simp only [Int.reduceLT, Int.reduceLE, Int.reduceEq, Int.reduceNe, Int.cast_ofNat_Int, Int.reduceNeg, reduceCtorEq, ne_eq, ge_iff_le, gt_iff_lt, beq_iff_eq, beq_eq_false_iff_ne, bne_iff_ne, bne_eq_false_iff_eq, nrm, *] at hc) <;> try (exfalso; omega))
| ((with_reducible first | apply opsF.und | apply dopsF.und); case hg => rfl)
| ((with_reducible apply stabF.und); rfl)
| ((with_reducible apply stabF.op); (case hs => first | exact tHT | exact tHS); case hv => exact tSV)
| ((with_reducible first | apply retF.r | apply retF.nn); case hv => exact tRS)
| ((refine (ssay_call hP x s1 (.v (.pointer none)) tq tr tt tl (tr :: tt :: tl :: R) c _ O T hol).mono fun v h5 hp => ?_); obtain ⟨tq5, O5, T5, F5⟩ := hp)
| fail)
        all_goals exact ⟨rfl, ⟨_, tq5, tr, tt, tl, O5, T5⟩, F.trans F5⟩
  all_goals exact ⟨S1 (by repeat' (first | exact Ext.refl _ | (refine Ext.set ?_ (by first | exact Nat.le_refl _ | (simp only [alloc_n, set_n]; omega) | (simp only [alloc_n, set_n, drop_n]; omega)) _) | (refine Ext.trans ?_ (Ext.alloc _ _)) | (refine Ext.drop ?_ (by first | exact Nat.le_refl _ | (simp only [alloc_n, set_n, drop_n]; omega))))), (hT.ext (by repeat' (first | exact Ext.refl _ | (refine Ext.set ?_ (by first | exact Nat.le_refl _ | (simp only [alloc_n, set_n]; omega) | (simp only [alloc_n, set_n, drop_n]; omega)) _) | (refine Ext.trans ?_ (Ext.alloc _ _)) | (refine Ext.drop ?_ (by first | exact Nat.le_refl _ | (simp only [alloc_n, set_n, drop_n]; omega)))))).set, (Fr.ext (by repeat' (first | exact Ext.refl _ | (refine Ext.set ?_ (by first | exact Nat.le_refl _ | (simp only [alloc_n, set_n]; omega) | (simp only [alloc_n, set_n, drop_n]; omega)) _) | (refine Ext.trans ?_ (Ext.alloc _ _)) | (refine Ext.drop ?_ (by first | exact Nat.le_refl _ | (simp only [alloc_n, set_n, drop_n]; omega)))))).set (.inl (by simp [SK.ids])) _, rfl, rfl, h.n, rfl, by simp (disch := omega) only [set_at, alloc_at, if_neg, if_pos, eq_self, if_true]; rfl, by simp only [set_n, alloc_n]; omega, by simp [SK.ids]; omega⟩
end Go.Abs.F
/- Layer 6: a peer's session: all that it says, and the mails, when all that it asks is answered with 250: the plain side. -/
namespace Go.Abs.F
open Go Go.Abs
set_option maxRecDepth 10000
set_option linter.unusedSimpArgs false
set_option linter.unusedVariables false
def SV.aN (s : SV) : Nat := if s.asked.isSome = true then 1 else 0
theorem aN_none {s : SV} (h : s.asked = none) : s.aN = 0 := by unfold SV.aN; rw [h]; rfl
theorem aN_some {s : SV} {e : Ev} (h : s.asked = some e) : s.aN = 1 := by unfold SV.aN; rw [h]; rfl
/-- What holds of a session to which no more than so many bytes have come. -/
structure SV.In (s : SV) (N : Nat) : Prop where
  out : s.out.length + s.wait.length + s.aN ≤ N
  host : s.host.length ≤ 1000000
  size : 0 ≤ s.size ∧ s.size ≤ 1000000
  bs : 0 ≤ s.bsize ∧ s.bsize + (s.wait.length : Int) ≤ (N : Int)
  tx : s.text.length + s.wait.length ≤ N
  rc : s.rcpts.length + s.wait.length + s.aN ≤ N
  ev : ∀ e ∈ s.out, e.rc.length ≤ N ∧ e.bd.length ≤ N
  ak : ∀ e, s.asked = some e → e.kind ≠ 0
/-- What a line may change. -/
structure Ef (s s' : SV) (d : Nat) : Prop where
  wait : s'.wait = s.wait
  host : s'.host = s.host
  size : s'.size = s.size
  out : s'.out.length + s'.aN ≤ s.out.length + 2
  bs : 0 ≤ s'.bsize ∧ s'.bsize ≤ s.bsize + (d : Int)
  tx : s'.text.length ≤ s.text.length + d
  rc : s'.rcpts.length ≤ s.rcpts.length
  ev : ∀ e ∈ s'.out, e ∈ s.out ∨ (e.rc.length ≤ s.rcpts.length ∧ e.bd.length ≤ s.text.length)
  ak : ∀ e, s'.asked = some e → e.kind ≠ 0
theorem ef_same {s : SV} (s' : SV) (ha : s.asked = none) (hb : 0 ≤ s.bsize) (e1 : s'.wait = s.wait) (e2 : s'.host = s.host) (e3 : s'.size = s.size) (e4 : s'.bsize = s.bsize ∨ s'.bsize = 0) (e5 : s'.text = s.text ∨ s'.text = []) (e6 : s'.rcpts = s.rcpts ∨ s'.rcpts = [])
    (q : (∃ e, s'.out = s.out ++ [e] ∧ e.rc.length ≤ s.rcpts.length ∧ e.bd.length ≤ s.text.length) ∨ (∃ e f, s'.out = s.out ++ [e] ++ [f] ∧ e.rc = [] ∧ e.bd = [] ∧ f.rc = [] ∧ f.bd = [] ∧ s'.asked = none) ∨ s'.out = s.out) (d : Nat) (qa : s'.asked = none ∨ ∃ e, s'.asked = some e ∧ e.kind ≠ 0) : Ef s s' d := by
  refine ⟨e1, e2, e3, ?_, ?_, ?_, ?_, ?_, fun e he => by
    rcases qa with qa | ⟨f, qa, q2⟩
    · rw [qa] at he; cases he
    · rw [qa] at he; injection he with he; subst he; exact q2⟩
  · have h1 : s'.aN ≤ 1 := by unfold SV.aN; split <;> omega
    rcases q with ⟨e, q, _⟩ | ⟨e, f, q, _, _, _, _, q2⟩ | q
    · rw [q, List.length_append, List.length_singleton]; omega
    · rw [q, List.length_append, List.length_append, List.length_singleton, List.length_singleton, aN_none q2]; omega
    · rw [q]; omega
  · rcases e4 with e4 | e4 <;> rw [e4] <;> omega
  · rcases e5 with e5 | e5 <;> rw [e5]
    · omega
    · simp
  · rcases e6 with e6 | e6 <;> rw [e6]
    · omega
    · simp
  · intro x hx
    rcases q with ⟨e, q, q1, q2⟩ | ⟨e, f, q, r1, r2, r3, r4, _⟩ | q
    · rw [q, List.mem_append, List.mem_singleton] at hx
      rcases hx with hx | rfl
      · exact .inl hx
      · exact .inr ⟨q1, q2⟩
    · rw [q, List.mem_append, List.mem_append, List.mem_singleton, List.mem_singleton] at hx
      rcases hx with (hx | rfl) | rfl
      · exact .inl hx
      · exact .inr (by rw [r1, r2]; simp)
      · exact .inr (by rw [r3, r4]; simp)
    · rw [q] at hx; exact .inl hx
theorem say_ef {s : SV} (s' : SV) (ha : s.asked = none) (hb : 0 ≤ s.bsize) (c : Int) (e0 : s'.out = s.out) (e1 : s'.wait = s.wait) (e2 : s'.host = s.host) (e3 : s'.size = s.size) (e4 : s'.bsize = s.bsize ∨ s'.bsize = 0) (e5 : s'.text = s.text ∨ s'.text = []) (e6 : s'.rcpts = s.rcpts ∨ s'.rcpts = []) (d : Nat) (ea : s'.asked = s.asked) : Ef s (s'.say c) d :=
  ef_same (s'.say c) ha hb e1 e2 e3 e4 e5 e6 (.inl ⟨evSay (plainS c), by show s'.out ++ _ = _; rw [e0], by simp [evSay], by simp [evSay]⟩) d (.inl (ea.trans ha))
theorem put_ef {s : SV} (s' : SV) (e : Ev) (ha : s.asked = none) (hb : 0 ≤ s.bsize) (e0 : s'.out = s.out ++ [e]) (e1 : s'.wait = s.wait) (e2 : s'.host = s.host) (e3 : s'.size = s.size) (e4 : s'.bsize = s.bsize ∨ s'.bsize = 0) (e5 : s'.text = s.text ∨ s'.text = []) (e6 : s'.rcpts = s.rcpts ∨ s'.rcpts = []) (h1 : e.rc.length ≤ s.rcpts.length) (h2 : e.bd.length ≤ s.text.length) (d : Nat) (qa : s'.asked = none ∨ ∃ e, s'.asked = some e ∧ e.kind ≠ 0) : Ef s s' d :=
  ef_same s' ha hb e1 e2 e3 e4 e5 e6 (.inl ⟨e, e0, h1, h2⟩) d qa
theorem command_ef (s : SV) (k : Int) (t : L8) (ha : s.asked = none) (hb : 0 ≤ s.bsize) : Ef s (s.command k t) 0 := by
  unfold SV.command
  split
  · exact say_ef s ha hb _ rfl rfl rfl rfl (.inl rfl) (.inl rfl) (.inl rfl) 0 rfl
  split
  · exact say_ef s ha hb _ rfl rfl rfl rfl (.inl rfl) (.inl rfl) (.inl rfl) 0 rfl
  unfold SV.doVerb
  split
  · exact say_ef s.greet ha hb _ rfl rfl rfl rfl (.inr rfl) (.inr rfl) (.inr rfl) 0 rfl
  split
  · exact put_ef s.greet.hello (evSay (fmtB 250 (helloL s.greet))) ha hb rfl rfl rfl rfl (.inr rfl) (.inr rfl) (.inr rfl) (by simp [evSay]) (by simp [evSay]) 0 (.inl ha)
  split
  · exact say_ef s.reset ha hb _ rfl rfl rfl rfl (.inr rfl) (.inr rfl) (.inr rfl) 0 rfl
  split
  · exact say_ef s ha hb _ rfl rfl rfl rfl (.inl rfl) (.inl rfl) (.inl rfl) 0 rfl
  split
  · exact say_ef s ha hb _ rfl rfl rfl rfl (.inl rfl) (.inl rfl) (.inl rfl) 0 rfl
  split
  · exact ef_same (s.say 221).shut ha hb rfl rfl rfl (.inl rfl) (.inl rfl) (.inl rfl) (.inr (.inl ⟨evSay (plainS 221), evShut, rfl, rfl, rfl, rfl, rfl, ha⟩)) 0 (.inl ha)
  split
  · unfold SV.mail
    split
    · exact say_ef s ha hb _ rfl rfl rfl rfl (.inl rfl) (.inl rfl) (.inl rfl) 0 rfl
    split
    · exact say_ef s ha hb _ rfl rfl rfl rfl (.inl rfl) (.inl rfl) (.inl rfl) 0 rfl
    · exact put_ef (s.ask ⟨2, (verbS t).2.2.1, (verbS t).2.2.2.1, [], [], []⟩) ⟨2, (verbS t).2.2.1, (verbS t).2.2.2.1, [], [], []⟩ ha hb rfl rfl rfl rfl (.inl rfl) (.inl rfl) (.inl rfl) (by simp) (by simp) 0 (.inr ⟨_, rfl, by simp⟩)
  split
  · unfold SV.rcpt
    split
    · exact say_ef s ha hb _ rfl rfl rfl rfl (.inl rfl) (.inl rfl) (.inl rfl) 0 rfl
    split
    · exact say_ef s ha hb _ rfl rfl rfl rfl (.inl rfl) (.inl rfl) (.inl rfl) 0 rfl
    · exact put_ef (s.ask ⟨3, (verbS t).2.2.1, -1, [], [], []⟩) ⟨3, (verbS t).2.2.1, -1, [], [], []⟩ ha hb rfl rfl rfl rfl (.inl rfl) (.inl rfl) (.inl rfl) (by simp) (by simp) 0 (.inr ⟨_, rfl, by simp⟩)
  split
  · unfold SV.data
    split
    · exact say_ef s ha hb _ rfl rfl rfl rfl (.inl rfl) (.inl rfl) (.inl rfl) 0 rfl
    · exact put_ef { s.say 354 with body := true } (evSay (plainS 354)) ha hb rfl rfl rfl rfl (.inl rfl) (.inl rfl) (.inl rfl) (by simp [evSay]) (by simp [evSay]) 0 (.inl ha)
  exact ef_same s ha hb rfl rfl rfl (.inl rfl) (.inl rfl) (.inl rfl) (.inr (.inr rfl)) 0 (.inl ha)
theorem undot_len (t : L8) : (undot t).length ≤ t.length := by
  unfold undot
  split
  · rw [List.length_tail]; omega
  · omega
theorem content_ef (s : SV) (k : Int) (t : L8) (ha : s.asked = none) (hb : 0 ≤ s.bsize) : Ef s (s.content k t) (t.length + 2) := by
  unfold SV.content
  split
  · exact ef_same { s with bad := true } ha hb rfl rfl rfl (.inl rfl) (.inl rfl) (.inl rfl) (.inr (.inr rfl)) _ (.inl ha)
  split
  · unfold SV.whole
    dsimp only
    split
    · exact say_ef ({ s with body := false } : SV).reset ha hb _ rfl rfl rfl rfl (.inr rfl) (.inr rfl) (.inr rfl) _ rfl
    split
    · exact say_ef ({ s with body := false } : SV).reset ha hb _ rfl rfl rfl rfl (.inr rfl) (.inr rfl) (.inr rfl) _ rfl
    · exact put_ef (({ s with body := false } : SV).ask ⟨4, [], -1, s.sndr, s.rcpts, s.text⟩) ⟨4, [], -1, s.sndr, s.rcpts, s.text⟩ ha hb rfl rfl rfl rfl (.inl rfl) (.inl rfl) (.inl rfl) (by simp) (by simp) _ (.inr ⟨_, rfl, by simp⟩)
  · have hu := undot_len t
    unfold SV.line
    dsimp only
    split
    · refine ⟨rfl, rfl, rfl, ?_, ⟨?_, ?_⟩, ?_, Nat.le_refl _, fun e he => .inl he, fun e he => by have he : s.asked = some e := he; rw [ha] at he; cases he⟩
      · rw [aN_none (by exact ha)]; exact Nat.le_add_right _ _
      · show (0 : Int) ≤ s.bsize + _; omega
      · show s.bsize + (((undot t).length + 2 : Nat) : Int) ≤ s.bsize + ((t.length + 2 : Nat) : Int); omega
      · show (s.text ++ [undot t]).length ≤ _; rw [List.length_append, List.length_singleton]; omega
    · refine ⟨rfl, rfl, rfl, ?_, ⟨?_, ?_⟩, ?_, Nat.le_refl _, fun e he => .inl he, fun e he => by have he : s.asked = some e := he; rw [ha] at he; cases he⟩
      · rw [aN_none (by exact ha)]; exact Nat.le_add_right _ _
      · show (0 : Int) ≤ s.bsize + _; omega
      · show s.bsize + (((undot t).length + 2 : Nat) : Int) ≤ s.bsize + ((t.length + 2 : Nat) : Int); omega
      · show s.text.length ≤ _; omega
theorem lineS_le (most : Int) (a : L8) : (lineS most a).2.length ≤ a.length := by
  unfold lineS
  split
  · simp
  · split
    · simp
    · exact Nat.le_refl _
theorem take_ef (s : SV) (a r : L8) (ha : s.asked = none) (hb : 0 ≤ s.bsize) : Ef { s with wait := r } (s.take a r) (a.length + 2) := by
  unfold SV.take
  split
  · have q := content_ef { s with wait := r } (lineS s.most a).1 (lineS s.most a).2 ha hb
    have hl := lineS_le s.most a
    exact ⟨q.wait, q.host, q.size, q.out, ⟨q.bs.1, by have := q.bs.2; omega⟩, by have := q.tx; omega, q.rc, q.ev, q.ak⟩
  · have q := command_ef { s with wait := r } (lineS s.most a).1 (lineS s.most a).2 ha hb
    exact ⟨q.wait, q.host, q.size, q.out, ⟨q.bs.1, by have := q.bs.2; omega⟩, by have := q.tx; omega, q.rc, q.ev, q.ak⟩
theorem take_wait {s : SV} {a r : L8} (ha : s.asked = none) (hb : 0 ≤ s.bsize) : (s.take a r).wait = r := (take_ef s a r ha hb).wait
theorem SV.In.take {s : SV} {N : Nat} (h : s.In N) (ho : s.out = []) (ha : s.asked = none) {a r : L8} (hc : cutL s.wait = some (a, r)) : (s.take a r).In N := by
  have q := take_ef s a r ha h.bs.1
  have hl := cutL_len hc
  have w := q.wait
  have h1 := q.out
  have h2 := q.bs
  have h3 := q.tx
  have h4 := q.rc
  dsimp only at w h1 h2 h3 h4
  have g0 := h.out
  have g1 := h.bs
  have g2 := h.tx
  have g3 := h.rc
  rw [ho, List.length_nil] at h1 g0
  rw [aN_none ha] at g0 g3
  refine ⟨by rw [w]; omega, by rw [q.host]; exact h.host, by rw [q.size]; exact h.size, ⟨h2.1, by rw [w]; omega⟩, by rw [w]; omega, ?_, fun e he => ?_, q.ak⟩
  · rw [w]
    have : (s.take a r).aN ≤ 1 := by unfold SV.aN; split <;> omega
    omega
  · rcases q.ev e he with k | ⟨k1, k2⟩
    · dsimp only at k; rw [ho] at k; cases k
    · dsimp only at k1 k2; exact ⟨by omega, by omega⟩
theorem SV.In.pop {s : SV} {N : Nat} (h : s.In N) {e : Ev} {q : List Ev} (ho : s.out = e :: q) : ({ s with out := q } : SV).In N := by
  have g0 := h.out
  rw [ho, List.length_cons] at g0
  exact ⟨by show q.length + s.wait.length + s.aN ≤ N; omega, h.host, h.size, h.bs, h.tx, h.rc, fun x hx => h.ev x (by rw [ho]; exact List.mem_cons_of_mem _ hx), h.ak⟩
theorem SV.In.got {s : SV} {N : Nat} (h : s.In N) (ho : s.out = []) {e : Ev} (ha : s.asked = some e) (c : Int) : (s.got e c).In N := by
  have g0 := h.out
  have g1 := h.bs
  have g2 := h.tx
  have g3 := h.rc
  rw [aN_some ha] at g0 g3
  rw [ho, List.length_nil] at g0
  have key : ∀ (s2 : SV) (d : Int), s2.out = s.out → s2.asked = none → s2.wait = s.wait → s2.host = s.host → s2.size = s.size → (s2.bsize = s.bsize ∨ s2.bsize = 0) → (s2.text = s.text ∨ s2.text = []) → s2.rcpts.length ≤ s.rcpts.length + 1 → (s2.say d).In N := by
    intro s2 d e0 ea e1 e2 e3 e4 e5 e6
    refine ⟨?_, by show s2.host.length ≤ _; rw [e2]; exact h.host, by show 0 ≤ s2.size ∧ s2.size ≤ _; rw [e3]; exact h.size, ?_, ?_, ?_, ?_, fun e he => by have he : s2.asked = some e := he; rw [ea] at he; cases he⟩
    · show (s2.out ++ [evSay (plainS d)]).length + s2.wait.length + s2.aN ≤ N
      rw [e0, e1, ho, aN_none ea, List.nil_append, List.length_singleton]; omega
    · show 0 ≤ s2.bsize ∧ s2.bsize + (s2.wait.length : Int) ≤ _
      rw [e1]
      rcases e4 with e4 | e4 <;> rw [e4] <;> omega
    · show s2.text.length + s2.wait.length ≤ N
      rw [e1]
      rcases e5 with e5 | e5 <;> rw [e5]
      · omega
      · simp; omega
    · show s2.rcpts.length + s2.wait.length + s2.aN ≤ N
      rw [e1, aN_none ea]; omega
    · intro x hx
      have hx : x ∈ s2.out ++ [evSay (plainS d)] := hx
      rw [e0, ho, List.nil_append, List.mem_singleton] at hx
      subst hx
      exact ⟨Nat.zero_le _, Nat.zero_le _⟩
  unfold SV.got
  dsimp only
  split
  · exact key _ _ rfl rfl rfl rfl rfl (.inr rfl) (.inr rfl) (Nat.zero_le _)
  split
  · split
    · exact key _ _ rfl rfl rfl rfl rfl (.inl rfl) (.inl rfl) (Nat.le_succ _)
    · exact key _ _ rfl rfl rfl rfl rfl (.inl rfl) (.inl rfl) (by show (s.rcpts ++ [e.text]).length ≤ _; rw [List.length_append, List.length_singleton]; omega)
  · exact key _ _ rfl rfl rfl rfl rfl (.inl rfl) (.inl rfl) (Nat.le_succ _)
theorem SV.In.feed {s : SV} {N : Nat} (h : s.In N) (b : L8) : (s.feed b).In (N + b.length) := by
  have g0 := h.out
  have g1 := h.bs
  have g2 := h.tx
  have g3 := h.rc
  unfold SV.feed
  split
  · exact ⟨by omega, h.host, h.size, ⟨g1.1, by omega⟩, by omega, by omega, fun e he => by have := h.ev e he; omega, h.ak⟩
  · have e : (s.wait ++ b).length = s.wait.length + b.length := List.length_append
    refine ⟨?_, h.host, h.size, ⟨g1.1, ?_⟩, ?_, ?_, fun e he => by have := h.ev e he; omega, h.ak⟩
    · show s.out.length + (s.wait ++ b).length + s.aN ≤ _; omega
    · show s.bsize + ((s.wait ++ b).length : Int) ≤ _; omega
    · show s.text.length + (s.wait ++ b).length ≤ _; omega
    · show s.rcpts.length + (s.wait ++ b).length + s.aN ≤ _; omega
theorem SV.In.sz {s : SV} {N : Nat} (h : s.In N) (hN : N ≤ 999999999) : s.Sz :=
  ⟨by have := h.out; omega, h.host, h.size, by have := h.bs; omega, by have := h.tx; omega, by have := h.out; omega⟩
theorem SV.In.mono {s : SV} {N M : Nat} (h : s.In N) (hN : N ≤ M) : s.In M :=
  ⟨by have := h.out; omega, h.host, h.size, by have := h.bs; omega, by have := h.tx; omega, by have := h.rc; omega, fun e he => by have := h.ev e he; omega, h.ak⟩
/-- Lines are taken till something is said or asked, or none is there. -/
inductive Setl : SV → SV → Prop
  | stop {s : SV} (h : s.out ≠ [] ∨ s.asked.isSome = true ∨ s.over = true ∨ cutL s.wait = none) : Setl s s
  | go {s t : SV} {a r : L8} (h1 : s.out = []) (h2 : s.asked = none) (h3 : s.over = false) (h4 : cutL s.wait = some (a, r)) (k : Setl (s.take a r) t) : Setl s t
/-- A mail. -/
structure ML where
  sndr : L8
  rc : List L8
  bd : List L8
def evML (e : Ev) : ML := ⟨e.sndr, e.rc, e.bd⟩
/-- What a session says, how often, and the mails; where it is then. -/
inductive Runs : SV → Nat → L8 → List ML → SV → Prop
  | done {s : SV} (h1 : s.out = []) (h2 : s.asked = none) (h3 : s.over = true ∨ cutL s.wait = none) : Runs s 0 [] [] s
  | line {s t : SV} {a r o : L8} {n : Nat} {m : List ML} (h1 : s.out = []) (h2 : s.asked = none) (h3 : s.over = false) (h4 : cutL s.wait = some (a, r)) (k : Runs (s.take a r) n o m t) : Runs s n o m t
  | say {s t : SV} {e : Ev} {q : List Ev} {o : L8} {n : Nat} {m : List ML} (h1 : s.out = e :: q) (h2 : e.kind = 1) (k : Runs { s with out := q } n o m t) : Runs s (n + 1) (e.text ++ o) m t
  | shut {s t : SV} {e : Ev} {q : List Ev} {o : L8} {n : Nat} {m : List ML} (h1 : s.out = e :: q) (h2 : e.kind = 5) (k : Runs { s with out := q } n o m t) : Runs s (n + 1) o m t
  | ask {s t : SV} {e : Ev} {o : L8} {n : Nat} {m : List ML} (h1 : s.out = [e]) (h0 : s.asked = some e) (h2 : e.kind = 2 ∨ e.kind = 3) (k : Runs (({ s with out := [] } : SV).got e 250) n o m t) : Runs s (n + 1) o m t
  | store {s t : SV} {e : Ev} {o : L8} {n : Nat} {m : List ML} (h1 : s.out = [e]) (h0 : s.asked = some e) (h2 : e.kind = 4) (k : Runs (({ s with out := [] } : SV).got e 250) n o m t) : Runs s (n + 1) o (evML e :: m) t
/-- What the next word is. -/
inductive Turn1 (s t : SV) (n : Nat) (o : L8) (m : List ML) : Prop
  | none (h1 : s.out = []) (h2 : n = 0) (h3 : o = []) (h4 : m = []) (h5 : t = s)
  | say (e : Ev) (q : List Ev) (o' : L8) (n' : Nat) (h1 : s.out = e :: q) (h2 : e.kind = 1) (h3 : n = n' + 1) (h4 : o = e.text ++ o') (k : Runs { s with out := q } n' o' m t)
  | shut (e : Ev) (q : List Ev) (n' : Nat) (h1 : s.out = e :: q) (h2 : e.kind = 5) (h3 : n = n' + 1) (k : Runs { s with out := q } n' o m t)
  | ask (e : Ev) (n' : Nat) (h1 : s.out = [e]) (h0 : s.asked = some e) (h2 : e.kind = 2 ∨ e.kind = 3) (h3 : n = n' + 1) (k : Runs (({ s with out := [] } : SV).got e 250) n' o m t)
  | store (e : Ev) (n' : Nat) (m' : List ML) (h1 : s.out = [e]) (h0 : s.asked = some e) (h2 : e.kind = 4) (h3 : n = n' + 1) (h4 : m = evML e :: m') (k : Runs (({ s with out := [] } : SV).got e 250) n' o m' t)
theorem Runs.next {s t : SV} {n : Nat} {o : L8} {m : List ML} (h : Runs s n o m t) : ∃ s', Setl s s' ∧ Turn1 s' t n o m := by
  induction h with
  | @done s h1 h2 h3 => exact ⟨s, .stop (.inr (.inr h3)), .none h1 rfl rfl rfl rfl⟩
  | line h1 h2 h3 h4 k ih =>
    obtain ⟨s', k1, k2⟩ := ih
    exact ⟨s', .go h1 h2 h3 h4 k1, k2⟩
  | @say s t e q o n m h1 h2 k ih => exact ⟨s, .stop (.inl (by rw [h1]; simp)), .say e q o n h1 h2 rfl rfl k⟩
  | @shut s t e q o n m h1 h2 k ih => exact ⟨s, .stop (.inl (by rw [h1]; simp)), .shut e q n h1 h2 rfl k⟩
  | @ask s t e o n m h1 h0 h2 k ih => exact ⟨s, .stop (.inl (by rw [h1]; simp)), .ask e n h1 h0 h2 rfl k⟩
  | @store s t e o n m h1 h0 h2 k ih => exact ⟨s, .stop (.inl (by rw [h1]; simp)), .store e n m h1 h0 h2 rfl rfl k⟩
theorem Setl.in {s t : SV} {N : Nat} (k : Setl s t) (h : s.In N) : t.In N := by
  induction k with
  | stop => exact h
  | go h1 h2 h3 h4 k ih => exact ih (h.take h1 h2 h4)
end Go.Abs.F
/- Layer 6: a peer's session: a new one. -/
namespace Go.Abs.F
open Go Go.Abs
set_option maxRecDepth 10000
set_option maxHeartbeats 20000000
set_option linter.unusedSimpArgs false
set_option linter.unusedVariables false
variable {w0 : World}
theorem is_mxx {σ : Fm} {h : AH} {x y : Opd} {a b : Int} (hx : evF σ x = .v (.int .i64 a)) (hy : evF σ y = .v (.int .i64 b)) (hb : b ≤ a) : istep (.mnx true [x, y]) (evF σ) h = some (.v (.int .i64 a), h) := by
  simp only [istep, List.map_cons, List.map_nil, hx, hy, List.foldl_cons, List.foldl_nil, Option.map_some, if_true]
  rw [if_neg (by omega)]
def newS0 (size rmax : Int) : SV := ⟨[104], size, rmax, false, [], [], none, false, false, [], [], false, false, 0, [], false⟩
def newS (size rmax : Int) : SV := (newS0 size rmax).say 220
/-- What a new session is: objects of its own. -/
structure SvNew (x : SK) (s : SV) (R : List Tok) (h h' : AH) : Prop where
  o : ∃ ap tq tr tt tl, SvO h' x s ap tq tr tt tl ∧ Toks h' (tq :: tr :: tt :: tl :: R)
  e : Fr [] h h'
  f : ∀ i ∈ x.ids, h.n ≤ i
theorem Fr.fresh {I J : List Nat} {h h1 h2 : AH} (a : Fr J h h1) (b : Fr I h1 h2) (k : ∀ i ∈ I, h.n ≤ i) : Fr J h h2 :=
  ⟨Nat.le_trans a.n b.n, Nat.le_trans a.nt b.nt, fun i hi hn => (b.o i (Nat.lt_of_lt_of_le hi a.n) fun x => by have := k i x; omega).trans (a.o i hi hn)⟩
theorem snew_call (hP : PowTab w0) (size rmax : Int) (R : List Tok) (h : AH) (hT : Toks h R) (h1 : 1 ≤ size) (h2 : size ≤ 65536) (h3 : 1 ≤ rmax) (h4 : rmax ≤ 20) :
    Call P w0 serve_New [.agg [.v (.string (bs [104])), .v (.int .i64 size), .v (.int .i64 rmax), .v (.bool false)]] h (fun v h' => ∃ x, v = .ptr x.id 0 ∧ SvNew x (newS size rmax) R h h') := by
  have hd : ∀ h, Call P w0 addr_Domain [.v (.string (bs [104]))] h (fun v h' => v = .v (.bool true) ∧ h' = h) := fun h => by
    have q := (domain_call (w0 := w0) [104] h (by simp)).gc (Q' := fun v => v = .v (.bool (domainS [104]))) fun v h' hq => ⟨hq.1 ▸ .v _, hq.2, hq.1⟩
    rw [show domainS [104] = true by decide] at q
    exact q
  have S0 : ∀ (hh : AH) (j l : Nat), hh.objs j = some (.cells (vcel ⟨j, l⟩ (newS0 size rmax) (.v (.pointer none)) .full .full .full)) → hh.objs l = some (.cells [.list 1 [] .full]) → j < hh.n → l < hh.n → j ≠ l → SvO hh ⟨j, l⟩ (newS0 size rmax) (.v (.pointer none)) .full .full .full .full := fun hh j l a1 a2 a3 a4 a5 => ⟨a1, rfl, a2, ⟨a3, a4⟩, a5⟩
  have T0 : ∀ {hh : AH}, Ext h hh → Toks hh (.full :: .full :: .full :: .full :: R) := fun e => (hT.ext e).full.full.full.full
  have hsy := fun (hh : AH) O T => ssay_call (w0 := w0) hP ⟨h.n + 2, h.n + 1⟩ (newS0 size rmax) (.v (.pointer none)) .full .full .full .full (.full :: .full :: .full :: R) 220 hh O T (Nat.zero_le _)
  unfold vcel newS0 at S0
  dsimp only at S0
  refine Call.bodyF b_serve_New rfl rfl ?_
  unfold c_serve_New
  repeat' (first
| ((with_reducible apply opsF.op rfl); (case hs => exact is_mxx tEV tEV (by omega)))
| ((with_reducible apply opsF.op rfl); (case hs => exact is_mn tEV tEV (by omega)))
| ((with_reducible first | apply opsF.op rfl | apply dopsF.op rfl); case hs => first | exact tHT | exact tHS)
| (with_reducible first | apply opsF.nil | apply seqF.nn | apply vcF.seq | apply vcF.region | apply vcF.dregion | apply vcF.skip | apply vcF.ret | apply seqF.r | apply dopsF.nil | apply stabsF.nil | apply stabsF.cons | apply dopsF.cont)
| ((with_reducible first | apply opsF.call | apply dopsF.call); case hx => exact tAG)
| ((with_reducible first | apply opsF.want | apply dopsF.want | apply stabF.want); (case hg => exact tEV); case hb => exact tNB)
| ((with_reducible first | apply opsF.skip | apply dopsF.skip | apply stabF.skip); (case hg => exact tEV); case hb => exact tNB)
| (first | ((with_reducible first | apply opsF.case | apply dopsF.case); case hg => exact tEV) | ((with_reducible apply vcF.cond); case hx => exact tEV)) <;> ((intro hc; try simp only [Int.reduceLT, Int.reduceLE, Int.reduceEq, Int.reduceNe, Int.cast_ofNat_Int, Int.reduceNeg, reduceCtorEq, ne_eq, ge_iff_le, gt_iff_lt, beq_iff_eq, beq_eq_false_iff_ne, bne_iff_ne, bne_eq_false_iff_eq, nrm, *] at hc) <;> try (exfalso; omega))
| ((with_reducible first | apply opsF.und | apply dopsF.und); case hg => rfl)
| ((with_reducible apply stabF.und); rfl)
| ((with_reducible apply stabF.op); (case hs => first | exact tHT | exact tHS); case hv => exact tSV)
| ((with_reducible first | apply retF.r | apply retF.nn); case hv => exact tRS)
| ((refine Call.use (hd _) ?_))
| ((refine (lnew_call _).mono fun v h1 hp => ?_); obtain ⟨rfl, rfl⟩ := hp)
| ((refine (hsy _ (S0 _ _ _ (by simp (disch := omega) only [alloc_at, alloc_n, set_at, set_n, if_pos, if_neg, eq_self, if_true]; rfl) (by simp (disch := omega) only [alloc_at, alloc_n, set_at, set_n, if_pos, if_neg, eq_self, if_true]) (by simp only [alloc_n, set_n]; omega) (by simp only [alloc_n, set_n]; omega) (by omega)) (T0 (by repeat' (first | exact Ext.refl _ | (refine Ext.set ?_ (by first | exact Nat.le_refl _ | (simp only [alloc_n, set_n]; omega) | (simp only [alloc_n, set_n, drop_n]; omega)) _) | (refine Ext.trans ?_ (Ext.alloc _ _)) | (refine Ext.drop ?_ (by first | exact Nat.le_refl _ | (simp only [alloc_n, set_n, drop_n]; omega))))))).mono fun v h5 hp => ?_); obtain ⟨tq5, O5, T5, F5⟩ := hp)
| fail)
  all_goals exact ⟨⟨h.n + 2, h.n + 1⟩, rfl, ⟨_, tq5, _, _, _, O5, T5⟩, Fr.fresh (Fr.ext (by repeat' (first | exact Ext.refl _ | (refine Ext.set ?_ (by first | exact Nat.le_refl _ | (simp only [alloc_n, set_n]; omega) | (simp only [alloc_n, set_n, drop_n]; omega)) _) | (refine Ext.trans ?_ (Ext.alloc _ _)) | (refine Ext.drop ?_ (by first | exact Nat.le_refl _ | (simp only [alloc_n, set_n, drop_n]; omega)))))) F5 (by simp [SK.ids]), by simp [SK.ids]⟩
end Go.Abs.F
/- Layer 6: a peer's session: what it says or asks next. -/
namespace Go.Abs.F
open Go Go.Abs
set_option maxRecDepth 10000
set_option maxHeartbeats 20000000
set_option linter.unusedSimpArgs false
set_option linter.unusedVariables false
variable {w0 : World}
/-- What the word is. -/
def NextP (x : SK) (s : SV) (R : List Tok) (h : AH) (v : AV) (h' : AH) : Prop := match s.out with
  | [] => v = .tup [.agg ev0, .v (.bool false)] ∧ SvQ x s R h h'
  | e :: q => v = .tup [.agg (erow e), .v (.bool true)] ∧ SvQ x { s with out := q } R h h'
/-- In the loop. -/
structure NxI (x : SK) (s : SV) (R : List Tok) (h : AH) (σ : Fm) (hh : AH) : Prop where
  o : ∃ ap tq tr tt tl, SvO hh x s ap tq tr tt tl ∧ Toks hh (tq :: tr :: tt :: tl :: R)
  f : Fr x.ids h hh
  g0 : σ 0 = .ptr x.id 0
  g2 : σ 2 = .ptr h.n 0
  ob : hh.objs h.n = some (.cells ev0)
  lt : h.n < hh.n
theorem Fr.after {I J : List Nat} {h h1 h2 : AH} (a : Fr J h h1) (b : Fr I h1 h2) (k : ∀ i ∈ I, i ∈ J ∨ h.n ≤ i) : Fr J h h2 :=
  ⟨Nat.le_trans a.n b.n, Nat.le_trans a.nt b.nt, fun i hi hn => (b.o i (Nat.lt_of_lt_of_le hi a.n) fun x => by
    rcases k i x with q | q
    · exact hn q
    · omega).trans (a.o i hi hn)⟩
/-- The object of the answer is set, and others that are new. -/
theorem SvO.out {hh h2 : AH} {x : SK} {s s' : SV} {ap : AV} {tq tr tt tl tq' : Tok} {i : Nat} (O : SvO hh x s ap tq tr tt tl) (F : Fr [x.id, i] hh h2) (ob : hh.objs i = some (.cells ev0)) (ak : ∀ e, s.asked = some e → e.kind ≠ 0) (hi : ¬ i ∈ x.ids) (o2 : h2.objs x.id = some (.cells (vcel x s' ap tq' tr tt))) (es : s'.wait = s.wait) (ea : s'.asked = s.asked) : SvO h2 x s' ap tq' tr tt tl := by
  have hi2 : x.lid ≠ i := fun e => hi (by simp [SK.ids, e])
  refine ⟨o2, ?_, ?_, ⟨Nat.lt_of_lt_of_le O.lt.1 F.n, Nat.lt_of_lt_of_le O.lt.2 F.n⟩, O.ne⟩
  · rw [ea]
    have a := O.a
    cases hq : s.asked with
    | none => rw [hq] at a; exact a
    | some e =>
      rw [hq] at a
      obtain ⟨aid, a1, a2, a3, a4⟩ := a
      refine ⟨aid, a1, ?_, Nat.lt_of_lt_of_le a3 F.n, a4⟩
      refine (F.o aid a3 fun hm => ?_).trans a2
      simp only [List.mem_cons, List.not_mem_nil, or_false] at hm
      rcases hm with rfl | rfl
      · exact a4 (by simp [SK.ids])
      · rw [a2] at ob
        have q := ak e hq
        unfold erow ev0 at ob
        injection ob with ob
        injection ob with ob
        injection ob with ob
        injection ob with ob
        injection ob with _ ob
        exact q ob
  · rw [es]
    refine (F.o x.lid O.lt.2 ?_).trans O.l
    simp only [List.mem_cons, List.not_mem_nil, or_false]
    rintro (e | e)
    · exact O.ne e.symm
    · exact hi2 e
theorem snext_call (hP : PowTab w0) (hE : ErrVars w0) (hM : MaxLen w0) (x : SK) (s s' : SV) (ap : AV) (tq tr tt tl : Tok) (R : List Tok) (N : Nat) (h : AH) (H : SvO h x s ap tq tr tt tl) (hT : Toks h (tq :: tr :: tt :: tl :: R)) (k : Setl s s') (hi : s.In N) (hN : N ≤ 999999999) :
    Call P w0 serve_Server_Next [.ptr x.id 0] h (fun v h' => NextP x s' R h v h') := by
  have hid := H.lt.1
  have hlid := H.lt.2
  have hi' := k.in hi
  have hni : ¬ h.n ∈ x.ids := by simp [SK.ids]; omega
  have I0 : ∀ σ : Fm, σ 0 = .ptr x.id 0 → σ 2 = .ptr h.n 0 → NxI x s R h σ (h.alloc (.cells ev0)) := fun σ a b => ⟨⟨ap, tq, tr, tt, tl, H.ext (Ext.alloc _ _), hT.alloc⟩, Fr.ext (Ext.alloc _ _), a, b, by rw [alloc_at, if_pos rfl], by rw [alloc_n]; omega⟩
  have hob := H.o
  unfold vcel at hob
  unfold ev0 at I0
  refine Call.bodyF b_serve_Server_Next rfl rfl ?_
  unfold c_serve_Server_Next
  repeat' (first
| (with_reducible refine vcF.cut (a := .block 0 _) (fun σ hh => NxI x s' R h σ hh) ?_ ?_)
| ((with_reducible first | apply opsF.op rfl | apply dopsF.op rfl); case hs => first | exact tHT | exact tHS)
| (with_reducible first | apply opsF.nil | apply seqF.nn | apply vcF.seq | apply vcF.region | apply vcF.dregion | apply vcF.skip | apply vcF.block | apply vcF.exit | apply vcF.ret | apply vcF.loop | apply seqF.e | apply seqF.r | apply blkF.nn | apply blkF.e | apply blkF.r | apply blkF.o rfl | apply dopsF.nil | apply stabsF.nil | apply stabsF.cons | apply dopsF.cont)
| ((with_reducible first | apply opsF.call | apply dopsF.call); case hx => exact tAG)
| ((with_reducible first | apply opsF.want | apply dopsF.want | apply stabF.want); (case hg => exact tEV); case hb => exact tNB)
| ((with_reducible first | apply opsF.skip | apply dopsF.skip | apply stabF.skip); (case hg => exact tEV); case hb => exact tNB)
| (first | ((with_reducible first | apply opsF.case | apply dopsF.case); case hg => exact tEV) | ((with_reducible apply vcF.cond); case hx => exact tEV)) <;> ((intro hc; try simp only [Int.reduceLT, Int.reduceLE, Int.reduceEq, Int.reduceNe, Int.cast_ofNat_Int, Int.reduceNeg, reduceCtorEq, ne_eq, ge_iff_le, gt_iff_lt, beq_iff_eq, beq_eq_false_iff_ne, bne_iff_ne, bne_eq_false_iff_eq, nrm, *] at hc) <;> try (exfalso; omega))
| ((with_reducible first | apply opsF.und | apply dopsF.und); case hg => rfl)
| ((with_reducible apply stabF.und); rfl)
| ((with_reducible apply stabF.op); (case hs => first | exact tHT | exact tHS); case hv => exact tSV)
| ((with_reducible first | apply retF.r | apply retF.nn); case hv => exact tRS)
| fail)
  rotate_right
  · clear I0 hob hi k H hT
    rintro σ hh J
    obtain ⟨⟨ap, tq, tr, tt, tl, O, T⟩, F, g0, g2, ob, lt⟩ := J
    have gob := O.o
    have gid := O.lt.1
    have gne : ¬ h.n = x.id := by omega
    have gne2 : ¬ x.id = h.n := by omega
    have hlo : s'.out.length ≤ N := by have := hi'.out; omega
    unfold NextP
    have ob0 := ob
    unfold ev0 at ob
    cases ho : s'.out with
    | nil =>
      have S := fun (h2 : AH) F2 o2 => O.out (h2 := h2) (s' := s') (tq' := tq) (i := h.n) F2 ob0 hi'.ak hni o2 rfl rfl
      unfold vcel at gob S
      rw [ho] at gob S
      rw [show erows [] = [] from rfl] at gob S
      dsimp only
      repeat' (first
| ((with_reducible first | apply opsF.op rfl | apply dopsF.op rfl); case hs => first | exact tHT | exact tHS)
| (with_reducible first | apply opsF.nil | apply seqF.nn | apply vcF.seq | apply vcF.region | apply vcF.dregion | apply vcF.skip | apply vcF.block | apply vcF.exit | apply vcF.ret | apply vcF.loop | apply seqF.e | apply seqF.r | apply blkF.nn | apply blkF.e | apply blkF.r | apply blkF.o rfl | apply dopsF.nil | apply stabsF.nil | apply stabsF.cons | apply dopsF.cont)
| ((with_reducible first | apply opsF.call | apply dopsF.call); case hx => exact tAG)
| ((with_reducible first | apply opsF.want | apply dopsF.want | apply stabF.want); (case hg => exact tEV); case hb => exact tNB)
| ((with_reducible first | apply opsF.skip | apply dopsF.skip | apply stabF.skip); (case hg => exact tEV); case hb => exact tNB)
| (first | ((with_reducible first | apply opsF.case | apply dopsF.case); case hg => exact tEV) | ((with_reducible apply vcF.cond); case hx => exact tEV)) <;> ((intro hc; try simp only [Int.reduceLT, Int.reduceLE, Int.reduceEq, Int.reduceNe, Int.cast_ofNat_Int, Int.reduceNeg, reduceCtorEq, ne_eq, ge_iff_le, gt_iff_lt, beq_iff_eq, beq_eq_false_iff_ne, bne_iff_ne, bne_eq_false_iff_eq, nrm, *] at hc) <;> try (exfalso; omega))
| ((with_reducible first | apply opsF.und | apply dopsF.und); case hg => rfl)
| ((with_reducible apply stabF.und); rfl)
| ((with_reducible apply stabF.op); (case hs => first | exact tHT | exact tHS); case hv => exact tSV)
| ((with_reducible first | apply retF.r | apply retF.nn); case hv => exact tRS))
      all_goals exact ⟨rfl, ⟨ap, tq, tr, tt, tl, S _ (by repeat' (first | exact Fr.refl _ _ | (refine Fr.set ?_ (by first | exact .inr (Nat.le_refl _) | exact .inl (.head _) | exact .inl (.tail _ (.head _)) | exact .inr (by omega)) _) | (refine Fr.alloc ?_ _))) (by simp (disch := omega) only [alloc_at, alloc_n, set_at, set_n, if_pos, if_neg, eq_self, if_true]; exact gob), T.set⟩, Fr.after F (I := [x.id, h.n]) (by repeat' (first | exact Fr.refl _ _ | (refine Fr.set ?_ (by first | exact .inr (Nat.le_refl _) | exact .inl (.head _) | exact .inl (.tail _ (.head _)) | exact .inr (by omega)) _) | (refine Fr.alloc ?_ _))) (by simp [SK.ids])⟩
    | cons e q =>
      have S := fun (h2 : AH) F2 o2 => O.out (h2 := h2) (s' := { s' with out := q }) (tq' := tq) (i := h.n) F2 ob0 hi'.ak hni o2 rfl rfl
      have hev := hi'.ev e (by rw [ho]; simp)
      have hql : q.length ≤ N := by rw [ho, List.length_cons] at hlo; omega
      have xl := erows_len q
      unfold vcel at gob S
      rw [ho] at gob
      dsimp only at S
      rw [show erows (e :: q) = erow e :: erows q from rfl] at gob
      have c1 := fun tok h => sclone_call (w0 := w0) e.rc tok h (by omega)
      have c2 := fun tok h => sclone_call (w0 := w0) e.bd tok h (by omega)
      have c3 := fun tok h => sclip_call (w0 := w0) e.rc tok h (by omega)
      have c4 := fun tok h => sclip_call (w0 := w0) e.bd tok h (by omega)
      unfold erow at gob ⊢
      dsimp only
      clear hev hlo ho ob0
      generalize erows q = Q at *
      repeat' (first
| ((with_reducible first | apply opsF.op rfl | apply dopsF.op rfl); case hs => first | exact tHT | exact tHS)
| (with_reducible first | apply opsF.nil | apply seqF.nn | apply vcF.seq | apply vcF.region | apply vcF.dregion | apply vcF.skip | apply vcF.block | apply vcF.exit | apply vcF.ret | apply vcF.loop | apply seqF.e | apply seqF.r | apply blkF.nn | apply blkF.e | apply blkF.r | apply blkF.o rfl | apply dopsF.nil | apply stabsF.nil | apply stabsF.cons | apply dopsF.cont)
| ((with_reducible first | apply opsF.call | apply dopsF.call); case hx => exact tAG)
| ((with_reducible first | apply opsF.want | apply dopsF.want | apply stabF.want); (case hg => exact tEV); case hb => exact tNB)
| ((with_reducible first | apply opsF.skip | apply dopsF.skip | apply stabF.skip); (case hg => exact tEV); case hb => exact tNB)
| (first | ((with_reducible first | apply opsF.case | apply dopsF.case); case hg => exact tEV) | ((with_reducible apply vcF.cond); case hx => exact tEV)) <;> ((intro hc; try simp only [Int.reduceLT, Int.reduceLE, Int.reduceEq, Int.reduceNe, Int.cast_ofNat_Int, Int.reduceNeg, reduceCtorEq, ne_eq, ge_iff_le, gt_iff_lt, beq_iff_eq, beq_eq_false_iff_ne, bne_iff_ne, bne_eq_false_iff_eq, nrm, *] at hc) <;> try (exfalso; omega))
| ((with_reducible first | apply opsF.und | apply dopsF.und); case hg => rfl)
| ((with_reducible apply stabF.und); rfl)
| ((with_reducible apply stabF.op); (case hs => first | exact tHT | exact tHS); case hv => exact tSV)
| ((with_reducible first | apply retF.r | apply retF.nn); case hv => exact tRS)
| ((refine Call.use (c1 _ _) ?_))
| ((refine Call.use (c2 _ _) ?_))
| ((refine Call.use (c3 _ _) ?_))
| ((refine Call.use (c4 _ _) ?_))
| fail)
      all_goals exact ⟨rfl, ⟨ap, tq, tr, tt, tl, S _ (by repeat' (first | exact Fr.refl _ _ | (refine Fr.set ?_ (by first | exact .inr (Nat.le_refl _) | exact .inl (.head _) | exact .inl (.tail _ (.head _)) | exact .inr (by omega)) _) | (refine Fr.alloc ?_ _))) (by simp (disch := omega) only [alloc_at, alloc_n, set_at, set_n, if_pos, if_neg, eq_self, if_true]; simp), (by repeat' (first | exact T | refine Toks.set ?_ | refine Toks.alloc ?_))⟩, Fr.after F (I := [x.id, h.n]) (by repeat' (first | exact Fr.refl _ _ | (refine Fr.set ?_ (by first | exact .inr (Nat.le_refl _) | exact .inl (.head _) | exact .inl (.tail _ (.head _)) | exact .inr (by omega)) _) | (refine Fr.alloc ?_ _))) (by simp [SK.ids])⟩
  · have J0 := I0
    clear I0 hob
    refine LpF.ind rfl (fun i : Nat => i) (fun i σ hh => ∃ s1, NxI x s1 R h σ hh ∧ Setl s1 s' ∧ s1.In N ∧ s1.wait.length = i) ?_ (i := s.wait.length) ⟨s, J0 _ rfl rfl, k, hi, rfl⟩
    clear J0 k hi H hT
    rintro i σ hh ⟨s1, J, k1, hi1, hw⟩
    obtain ⟨⟨ap, tq, tr, tt, tl, O, T⟩, F, g0, g2, ob, lt⟩ := J
    have gob := O.o
    have ha := O.a
    have xl := erows_len s1.out
    have hst := sstep_call (w0 := w0) hP hE hM x s1 ap tq tr tt tl R hh O T (hi1.sz hN)
    have hlo : s1.out.length ≤ N := by have := hi1.out; omega
    unfold vcel at gob
    by_cases ho : s1.out = []
    · rw [ho] at gob
      rw [show erows [] = [] from rfl] at gob
      cases hq : s1.asked with
      | some e =>
        have es : s' = s1 := by
          cases k1 with
          | stop _ => rfl
          | go h1 h2 h3 h4 _ => rw [hq] at h2; cases h2
        subst es
        rw [hq] at ha
        obtain ⟨aid, rfl, ha1, ha2, ha3⟩ := ha
        clear hst
        repeat' (first
| ((with_reducible first | apply opsF.op rfl | apply dopsF.op rfl); case hs => first | exact tHT | exact tHS)
| (with_reducible first | apply opsF.nil | apply seqF.nn | apply vcF.seq | apply vcF.region | apply vcF.dregion | apply vcF.skip | apply vcF.block | apply vcF.exit | apply vcF.ret | apply vcF.loop | apply seqF.e | apply seqF.r | apply blkF.nn | apply blkF.e | apply blkF.r | apply blkF.o rfl | apply dopsF.nil | apply stabsF.nil | apply stabsF.cons | apply dopsF.cont)
| ((with_reducible first | apply opsF.call | apply dopsF.call); case hx => exact tAG)
| ((with_reducible first | apply opsF.want | apply dopsF.want | apply stabF.want); (case hg => exact tEV); case hb => exact tNB)
| ((with_reducible first | apply opsF.skip | apply dopsF.skip | apply stabF.skip); (case hg => exact tEV); case hb => exact tNB)
| (first | ((with_reducible first | apply opsF.case | apply dopsF.case); case hg => exact tEV) | ((with_reducible apply vcF.cond); case hx => exact tEV)) <;> ((intro hc; try simp only [Int.reduceLT, Int.reduceLE, Int.reduceEq, Int.reduceNe, Int.cast_ofNat_Int, Int.reduceNeg, reduceCtorEq, ne_eq, ge_iff_le, gt_iff_lt, beq_iff_eq, beq_eq_false_iff_ne, bne_iff_ne, bne_eq_false_iff_eq, nrm, *] at hc) <;> try (exfalso; omega))
| ((with_reducible first | apply opsF.und | apply dopsF.und); case hg => rfl)
| ((with_reducible apply stabF.und); rfl)
| ((with_reducible apply stabF.op); (case hs => first | exact tHT | exact tHS); case hv => exact tSV)
| ((with_reducible first | apply retF.r | apply retF.nn); case hv => exact tRS))
        all_goals exact ⟨⟨_, tq, tr, tt, tl, O, T⟩, F, g0, g2, ob, lt⟩
      | none =>
        rw [hq] at ha
        have ea : ap = .v (.pointer none) := ha
        subst ea
        cases hv : s1.over with
        | true =>
          have es : s' = s1 := by
            cases k1 with
            | stop _ => rfl
            | go h1 h2 h3 h4 _ => rw [hv] at h3; cases h3
          subst es
          rw [hv] at gob
          clear hst
          repeat' (first
| ((with_reducible first | apply opsF.op rfl | apply dopsF.op rfl); case hs => first | exact tHT | exact tHS)
| (with_reducible first | apply opsF.nil | apply seqF.nn | apply vcF.seq | apply vcF.region | apply vcF.dregion | apply vcF.skip | apply vcF.block | apply vcF.exit | apply vcF.ret | apply vcF.loop | apply seqF.e | apply seqF.r | apply blkF.nn | apply blkF.e | apply blkF.r | apply blkF.o rfl | apply dopsF.nil | apply stabsF.nil | apply stabsF.cons | apply dopsF.cont)
| ((with_reducible first | apply opsF.call | apply dopsF.call); case hx => exact tAG)
| ((with_reducible first | apply opsF.want | apply dopsF.want | apply stabF.want); (case hg => exact tEV); case hb => exact tNB)
| ((with_reducible first | apply opsF.skip | apply dopsF.skip | apply stabF.skip); (case hg => exact tEV); case hb => exact tNB)
| (first | ((with_reducible first | apply opsF.case | apply dopsF.case); case hg => exact tEV) | ((with_reducible apply vcF.cond); case hx => exact tEV)) <;> ((intro hc; try simp only [Int.reduceLT, Int.reduceLE, Int.reduceEq, Int.reduceNe, Int.cast_ofNat_Int, Int.reduceNeg, reduceCtorEq, ne_eq, ge_iff_le, gt_iff_lt, beq_iff_eq, beq_eq_false_iff_ne, bne_iff_ne, bne_eq_false_iff_eq, nrm, *] at hc) <;> try (exfalso; omega))
| ((with_reducible first | apply opsF.und | apply dopsF.und); case hg => rfl)
| ((with_reducible apply stabF.und); rfl)
| ((with_reducible apply stabF.op); (case hs => first | exact tHT | exact tHS); case hv => exact tSV)
| ((with_reducible first | apply retF.r | apply retF.nn); case hv => exact tRS))
          all_goals exact ⟨⟨_, tq, tr, tt, tl, O, T⟩, F, g0, g2, ob, lt⟩
        | false =>
          rw [hv] at gob
          unfold SV.step at hst
          cases hc : cutL s1.wait with
          | none =>
            have es : s' = s1 := by
              cases k1 with
              | stop _ => rfl
              | go h1 h2 h3 h4 _ => rw [hc] at h4; cases h4
            subst es
            rw [hc] at hst
            dsimp only [Option.isSome] at hst
            repeat' (first
| ((with_reducible first | apply opsF.op rfl | apply dopsF.op rfl); case hs => first | exact tHT | exact tHS)
| (with_reducible first | apply opsF.nil | apply seqF.nn | apply vcF.seq | apply vcF.region | apply vcF.dregion | apply vcF.skip | apply vcF.block | apply vcF.exit | apply vcF.ret | apply vcF.loop | apply seqF.e | apply seqF.r | apply blkF.nn | apply blkF.e | apply blkF.r | apply blkF.o rfl | apply dopsF.nil | apply stabsF.nil | apply stabsF.cons | apply dopsF.cont)
| ((with_reducible first | apply opsF.call | apply dopsF.call); case hx => exact tAG)
| ((with_reducible first | apply opsF.want | apply dopsF.want | apply stabF.want); (case hg => exact tEV); case hb => exact tNB)
| ((with_reducible first | apply opsF.skip | apply dopsF.skip | apply stabF.skip); (case hg => exact tEV); case hb => exact tNB)
| (first | ((with_reducible first | apply opsF.case | apply dopsF.case); case hg => exact tEV) | ((with_reducible apply vcF.cond); case hx => exact tEV)) <;> ((intro hc; try simp only [Int.reduceLT, Int.reduceLE, Int.reduceEq, Int.reduceNe, Int.cast_ofNat_Int, Int.reduceNeg, reduceCtorEq, ne_eq, ge_iff_le, gt_iff_lt, beq_iff_eq, beq_eq_false_iff_ne, bne_iff_ne, bne_eq_false_iff_eq, nrm, *] at hc) <;> try (exfalso; omega))
| ((with_reducible first | apply opsF.und | apply dopsF.und); case hg => rfl)
| ((with_reducible apply stabF.und); rfl)
| ((with_reducible apply stabF.op); (case hs => first | exact tHT | exact tHS); case hv => exact tSV)
| ((with_reducible first | apply retF.r | apply retF.nn); case hv => exact tRS)
| ((refine hst.mono fun v h3 hp => ?_); obtain ⟨rfl, ⟨⟨ap3, tq3, tr3, tt3, tl3, O3, T3⟩, F3⟩⟩ := hp)
| fail)
            all_goals exact ⟨⟨ap3, tq3, tr3, tt3, tl3, O3, T3⟩, F.trans F3, g0, g2, (F3.o _ lt hni).trans ob, Nat.lt_of_lt_of_le lt F3.n⟩
          | some p =>
            obtain ⟨a, r⟩ := p
            have k2 : Setl (s1.take a r) s' := by
              cases k1 with
              | stop h => rcases h with h | h | h | h
                          · exact absurd ho h
                          · rw [hq] at h; cases h
                          · rw [hv] at h; cases h
                          · rw [hc] at h; cases h
              | go h1 h2 h3 h4 k3 => rw [hc] at h4; injection h4 with h4; injection h4 with h5 h6; subst h5 h6; exact k3
            have hw2 : (s1.take a r).wait.length < i := by rw [take_wait hq hi1.bs.1]; have := cutL_len hc; omega
            have hi2 := hi1.take ho hq hc
            rw [hc] at hst
            dsimp only [Option.isSome] at hst
            generalize s1.take a r = s2 at *
            repeat' (first
| ((with_reducible first | apply opsF.op rfl | apply dopsF.op rfl); case hs => first | exact tHT | exact tHS)
| (with_reducible first | apply opsF.nil | apply seqF.nn | apply vcF.seq | apply vcF.region | apply vcF.dregion | apply vcF.skip | apply vcF.block | apply vcF.exit | apply vcF.ret | apply vcF.loop | apply seqF.e | apply seqF.r | apply blkF.nn | apply blkF.e | apply blkF.r | apply blkF.o rfl | apply dopsF.nil | apply stabsF.nil | apply stabsF.cons | apply dopsF.cont)
| ((with_reducible first | apply opsF.call | apply dopsF.call); case hx => exact tAG)
| ((with_reducible first | apply opsF.want | apply dopsF.want | apply stabF.want); (case hg => exact tEV); case hb => exact tNB)
| ((with_reducible first | apply opsF.skip | apply dopsF.skip | apply stabF.skip); (case hg => exact tEV); case hb => exact tNB)
| (first | ((with_reducible first | apply opsF.case | apply dopsF.case); case hg => exact tEV) | ((with_reducible apply vcF.cond); case hx => exact tEV)) <;> ((intro hc; try simp only [Int.reduceLT, Int.reduceLE, Int.reduceEq, Int.reduceNe, Int.cast_ofNat_Int, Int.reduceNeg, reduceCtorEq, ne_eq, ge_iff_le, gt_iff_lt, beq_iff_eq, beq_eq_false_iff_ne, bne_iff_ne, bne_eq_false_iff_eq, nrm, *] at hc) <;> try (exfalso; omega))
| ((with_reducible first | apply opsF.und | apply dopsF.und); case hg => rfl)
| ((with_reducible apply stabF.und); rfl)
| ((with_reducible apply stabF.op); (case hs => first | exact tHT | exact tHS); case hv => exact tSV)
| ((with_reducible first | apply retF.r | apply retF.nn); case hv => exact tRS)
| ((refine hst.mono fun v h3 hp => ?_); obtain ⟨rfl, ⟨⟨ap3, tq3, tr3, tt3, tl3, O3, T3⟩, F3⟩⟩ := hp)
| fail)
            all_goals exact ⟨s2.wait.length, hw2, s2, ⟨⟨ap3, tq3, tr3, tt3, tl3, O3, T3⟩, F.trans F3, g0, g2, (F3.o _ lt hni).trans ob, Nat.lt_of_lt_of_le lt F3.n⟩, k2, hi2, rfl⟩
    · have es : s' = s1 := by
        cases k1 with
        | stop _ => rfl
        | go h1 h2 h3 h4 _ => exact absurd h1 ho
      subst es
      have hl0 : 1 ≤ s'.out.length := by
        cases hq : s'.out with
        | nil => exact absurd hq ho
        | cons a l => simp
      clear hst ho
      repeat' (first
| ((with_reducible first | apply opsF.op rfl | apply dopsF.op rfl); case hs => first | exact tHT | exact tHS)
| (with_reducible first | apply opsF.nil | apply seqF.nn | apply vcF.seq | apply vcF.region | apply vcF.dregion | apply vcF.skip | apply vcF.block | apply vcF.exit | apply vcF.ret | apply vcF.loop | apply seqF.e | apply seqF.r | apply blkF.nn | apply blkF.e | apply blkF.r | apply blkF.o rfl | apply dopsF.nil | apply stabsF.nil | apply stabsF.cons | apply dopsF.cont)
| ((with_reducible first | apply opsF.call | apply dopsF.call); case hx => exact tAG)
| ((with_reducible first | apply opsF.want | apply dopsF.want | apply stabF.want); (case hg => exact tEV); case hb => exact tNB)
| ((with_reducible first | apply opsF.skip | apply dopsF.skip | apply stabF.skip); (case hg => exact tEV); case hb => exact tNB)
| (first | ((with_reducible first | apply opsF.case | apply dopsF.case); case hg => exact tEV) | ((with_reducible apply vcF.cond); case hx => exact tEV)) <;> ((intro hc; try simp only [Int.reduceLT, Int.reduceLE, Int.reduceEq, Int.reduceNe, Int.cast_ofNat_Int, Int.reduceNeg, reduceCtorEq, ne_eq, ge_iff_le, gt_iff_lt, beq_iff_eq, beq_eq_false_iff_ne, bne_iff_ne, bne_eq_false_iff_eq, nrm, *] at hc) <;> try (exfalso; omega))
| ((with_reducible first | apply opsF.und | apply dopsF.und); case hg => rfl)
| ((with_reducible apply stabF.und); rfl)
| ((with_reducible apply stabF.op); (case hs => first | exact tHT | exact tHS); case hv => exact tSV)
| ((with_reducible first | apply retF.r | apply retF.nn); case hv => exact tRS))
      all_goals exact ⟨⟨ap, tq, tr, tt, tl, O, T⟩, F, g0, g2, ob, lt⟩
end Go.Abs.F
/- Layer 6: a peer's session, all that it asks answered with 250: what it says, and the mails. -/
namespace Go.Abs.F
open Go Go.Abs
set_option maxRecDepth 60000
set_option maxHeartbeats 20000000
set_option linter.unusedSimpArgs false
set_option linter.unusedVariables false
variable {w0 : World}
def mrow (e : ML) : List AV := [.v (.string (bs e.sndr)), .list 1 (srows e.rc) .no, .list 1 (srows e.bd) .no]
def mrows (l : List ML) : List (List AV) := l.map mrow
theorem mrows_len (l : List ML) : (mrows l).length = l.length := by simp [mrows]
theorem mrows_get (l : List ML) (i : Nat) : (mrows l)[i]? = (l[i]?).map mrow := by simp [mrows]
theorem mrows_app (l m : List ML) : mrows (l ++ m) = mrows l ++ mrows m := by simp [mrows]
/-- In the loop. -/
structure DrI (x : SK) (s : SV) (O : L8) (M : List ML) (i : Nat) (R : List Tok) (h : AH) (σ : Fm) (hh : AH) : Prop where
  o : ∃ ap tq tr tt tl tm, SvO hh x s ap tq tr tt tl ∧ Toks hh (tq :: tr :: tt :: tl :: tm :: R) ∧ σ 7 = .list 3 (mrows M) tm
  f : Fr x.ids h hh
  g0 : σ 0 = .ptr x.id 0
  g6 : σ 6 = .v (.string (bs O))
  g8 : σ 8 = .v (.int .i64 (i : Nat))
/-- Behind a word. -/
structure DrW (x : SK) (s : SV) (O : L8) (M : List ML) (i : Nat) (R : List Tok) (h : AH) (ev : List AV) (b : Bool) (σ : Fm) (hh : AH) : Prop where
  d : DrI x s O M i R h σ hh
  g9 : ∃ j, σ 9 = .ptr j 0 ∧ hh.objs j = some (.cells ev) ∧ ¬ j ∈ x.ids ∧ j < hh.n
  g10 : σ 10 = .v (.bool b)
def NextR (x : SK) (s : SV) (O : L8) (M : List ML) (i : Nat) (R : List Tok) (h : AH) (σ : Fm) (hh : AH) : Prop := match s.out with
  | [] => DrW x s O M i R h ev0 false σ hh
  | e :: q => DrW x { s with out := q } O M i R h (erow e) true σ hh
theorem Toks.r5 {h : AH} {a b c d e : Tok} {R : List Tok} (k : Toks h (a :: b :: c :: d :: e :: R)) : Toks h (e :: a :: b :: c :: d :: R) :=
  Toks.swap (k.perm (List.Perm.cons a ((List.Perm.cons b ((List.Perm.cons c (List.Perm.swap e d R)).trans (List.Perm.swap e c (d :: R)))).trans (List.Perm.swap e b (c :: d :: R)))))
theorem Toks.l5 {h : AH} {a b c d e : Tok} {R : List Tok} (k : Toks h (e :: a :: b :: c :: d :: R)) : Toks h (a :: b :: c :: d :: e :: R) :=
  (Toks.swap k).perm (List.Perm.cons a ((List.Perm.swap b e (c :: d :: R)).trans (List.Perm.cons b ((List.Perm.swap c e (d :: R)).trans (List.Perm.cons c (List.Perm.swap d e R))))))
theorem Runs.mlen {s t : SV} {n : Nat} {o : L8} {m : List ML} (h : Runs s n o m t) : m.length ≤ n := by
  induction h with
  | done h1 h2 h3 => exact Nat.le_refl _
  | line h1 h2 h3 h4 k ih => exact ih
  | say h1 h2 k ih => exact Nat.le_succ_of_le ih
  | shut h1 h2 k ih => exact Nat.le_succ_of_le ih
  | ask h1 h0 h2 k ih => exact Nat.le_succ_of_le ih
  | store h1 h0 h2 k ih => rw [List.length_cons]; exact Nat.succ_le_succ ih
theorem sdrive_call (hP : PowTab w0) (hE : ErrVars w0) (hM : MaxLen w0) (x : SK) (s t : SV) (ap : AV) (tq tr tt tl tb : Tok) (R : List Tok) (N n : Nat) (b o : L8) (m : List ML) (h : AH) (H : SvO h x s ap tq tr tt tl) (hT : Toks h (tq :: tr :: tt :: tl :: R)) (hi : s.In N) (hN : N + b.length ≤ 999999999) (k : Runs (s.feed b) n o m t) (hn : (n : Int) < 10000) (ho : o.length ≤ 1000000000) :
    Call P w0 law06_drive [.ptr x.id 0, .list 1 (brows b) tb] h (fun v h' => ∃ tm, v = .tup [.v (.string (bs o)), .list 3 (mrows m) tm] ∧ SvQ x t (tm :: R) h h') := by
  have hfe := sfeed_call (w0 := w0) x s ap tq tr tt tl tb R b h H hT (by have := hi.out; omega)
  have hi2 := hi.feed b
  have hml := k.mlen
  generalize hs : s.feed b = s0 at *
  clear hs
  refine Call.bodyF b_law06_drive rfl rfl ?_
  unfold c_law06_drive
  repeat' (first
| ((with_reducible apply opsF.op rfl); case hs => first | exact tHT | exact tHS)
| (with_reducible first | apply opsF.nil | apply seqF.nn | apply vcF.seq | apply vcF.region | apply vcF.skip | apply vcF.block | apply vcF.exit | apply vcF.ret | apply vcF.loop | apply seqF.e | apply seqF.r | apply blkF.nn | apply blkF.e | apply blkF.r | apply blkF.o rfl)
| ((with_reducible apply opsF.call); case hx => exact tAG)
| ((with_reducible apply vcF.cond); case hx => exact tEV) <;> ((intro hc; try simp only [Int.reduceLT, Int.reduceLE, Int.reduceEq, Int.reduceNe, Int.cast_ofNat_Int, Int.reduceNeg, reduceCtorEq, ne_eq, ge_iff_le, gt_iff_lt, beq_iff_eq, beq_eq_false_iff_ne, bne_iff_ne, bne_eq_false_iff_eq, nrm, *] at hc) <;> try (exfalso; omega))
| ((with_reducible first | apply retF.r | apply retF.nn); case hv => exact tRS)
| ((refine hfe.mono fun v h3 hp => ?_); obtain ⟨⟨ap3, tq3, tr3, tt3, tl3, O3, T3⟩, F3⟩ := hp)
| fail)
  refine LpF.ind rfl (fun i : Nat => n - i) (fun i σ hh => ∃ s1 n1 o1 m1 O M, DrI x s1 O M i R h σ hh ∧ Runs s1 n1 o1 m1 t ∧ s1.In (N + b.length) ∧ o = O ++ o1 ∧ m = M ++ m1 ∧ n = i + n1) ?_ (i := 0) ⟨s0, n, o, m, [], [], ⟨⟨ap3, tq3, tr3, tt3, tl3, .full, O3, Toks.l5 (Toks.full T3), rfl⟩, F3, rfl, rfl, rfl⟩, k, hi2, rfl, rfl, (Nat.zero_add n).symm⟩
  clear hfe k hi2 O3 T3 F3 H hT
  rintro i σ hh ⟨s1, n1, o1, m1, O, M, J, k1, hi1, eo, em, en⟩
  obtain ⟨⟨ap, tq, tr, tt, tl, tm, OO, T, g7⟩, F, g0, g6, g8⟩ := J
  obtain ⟨s2, kS, kT⟩ := k1.next
  have hnx := snext_call hP hE hM x s1 s2 ap tq tr tt tl (tm :: R) (N + b.length) hh OO T kS hi1 hN
  have hi2 := kS.in hi1
  have hil : (i : Int) < 10000 := by omega
  have hMb : (M.length : Int) < 10000 := by have := congrArg List.length em; rw [List.length_append] at this; omega
  clear k1 kS hn
  repeat' (first
| (with_reducible refine vcF.cut (a := .region (⟨some 19, .mv (.tmp 0), none⟩ :: _)) (fun σ hh => NextR x s2 O M i R h σ hh) ?_ ?_)
| ((with_reducible apply opsF.op rfl); case hs => first | exact tHT | exact tHS)
| (with_reducible first | apply opsF.nil | apply seqF.nn | apply vcF.seq | apply vcF.region | apply vcF.skip | apply vcF.block | apply vcF.exit | apply vcF.ret | apply vcF.loop | apply seqF.e | apply seqF.r | apply blkF.nn | apply blkF.e | apply blkF.r | apply blkF.o rfl)
| ((with_reducible apply opsF.call); case hx => exact tAG)
| ((with_reducible apply vcF.cond); case hx => exact tEV) <;> ((intro hc; try simp only [Int.reduceLT, Int.reduceLE, Int.reduceEq, Int.reduceNe, Int.cast_ofNat_Int, Int.reduceNeg, reduceCtorEq, ne_eq, ge_iff_le, gt_iff_lt, beq_iff_eq, beq_eq_false_iff_ne, bne_iff_ne, bne_eq_false_iff_eq, nrm, *] at hc) <;> try (exfalso; omega))
| ((with_reducible first | apply retF.r | apply retF.nn); case hv => exact tRS)
| ((refine hnx.mono fun v h3 hp => ?_); unfold NextP at hp; unfold NextR)
| fail)
  rotate_right
  · clear hnx
    rintro σ hh NR
    unfold NextR at NR
    have xm := mrows_len M
    have hMl : M.length ≤ m.length := by rw [em, List.length_append]; omega
    cases kT with
    | none h1 h2 h3 h4 h5 =>
      rw [h1] at NR
      obtain ⟨⟨⟨ap, tq, tr, tt, tl, tm, OO, T, g7⟩, F, g0, g6, g8⟩, ⟨j, g9, oj, j1, j2⟩, g10⟩ := NR
      subst h5
      rw [h3, List.append_nil] at eo
      rw [h4, List.append_nil] at em
      rw [← eo] at g6
      rw [← em] at g7
      unfold ev0 at oj
      repeat' (first
| ((with_reducible apply opsF.op rfl); case hs => first | exact tHT | exact tHS)
| (with_reducible first | apply opsF.nil | apply seqF.nn | apply vcF.seq | apply vcF.region | apply vcF.skip | apply vcF.block | apply vcF.exit | apply vcF.ret | apply vcF.loop | apply seqF.e | apply seqF.r | apply blkF.nn | apply blkF.e | apply blkF.r | apply blkF.o rfl)
| ((with_reducible apply opsF.call); case hx => exact tAG)
| ((with_reducible apply vcF.cond); case hx => exact tEV) <;> ((intro hc; try simp only [Int.reduceLT, Int.reduceLE, Int.reduceEq, Int.reduceNe, Int.cast_ofNat_Int, Int.reduceNeg, reduceCtorEq, ne_eq, ge_iff_le, gt_iff_lt, beq_iff_eq, beq_eq_false_iff_ne, bne_iff_ne, bne_eq_false_iff_eq, nrm, *] at hc) <;> try (exfalso; omega))
| ((with_reducible first | apply retF.r | apply retF.nn); case hv => exact tRS))
      all_goals exact ⟨tm, by rw [eo, em], ⟨ap, tq, tr, tt, tl, OO, T⟩, F⟩
    | say e q o' n' h1 h2 h3 h4 k2 =>
      rw [h1] at NR
      obtain ⟨⟨⟨ap, tq, tr, tt, tl, tm, OO, T, g7⟩, F, g0, g6, g8⟩, ⟨j, g9, oj, j1, j2⟩, g10⟩ := NR
      have hl : O.length + e.text.length ≤ 1000000000 := by rw [eo, h4, List.length_append, List.length_append] at ho; omega
      have hp2 := hi2.pop h1
      unfold erow at oj
      generalize ({ s2 with out := q } : SV) = s3 at *
      repeat' (first
| ((with_reducible apply opsF.op rfl); case hs => first | exact tHT | exact tHS)
| (with_reducible first | apply opsF.nil | apply seqF.nn | apply vcF.seq | apply vcF.region | apply vcF.skip | apply vcF.block | apply vcF.exit | apply vcF.ret | apply vcF.loop | apply seqF.e | apply seqF.r | apply blkF.nn | apply blkF.e | apply blkF.r | apply blkF.o rfl)
| ((with_reducible apply opsF.call); case hx => exact tAG)
| ((with_reducible apply vcF.cond); case hx => exact tEV) <;> ((intro hc; try simp only [Int.reduceLT, Int.reduceLE, Int.reduceEq, Int.reduceNe, Int.cast_ofNat_Int, Int.reduceNeg, reduceCtorEq, ne_eq, ge_iff_le, gt_iff_lt, beq_iff_eq, beq_eq_false_iff_ne, bne_iff_ne, bne_eq_false_iff_eq, nrm, *] at hc) <;> try (exfalso; omega))
| ((with_reducible first | apply retF.r | apply retF.nn); case hv => exact tRS))
      all_goals exact ⟨i + 1, by omega, s3, n', o', m1, O ++ e.text, M, ⟨⟨ap, tq, tr, tt, tl, tm, OO, T, g7⟩, F, g0, by first | rfl | simp [bs_append], rfl⟩, k2, hp2, by rw [eo, h4, List.append_assoc], em, by omega⟩
    | shut e q n' h1 h2 h3 k2 =>
      rw [h1] at NR
      obtain ⟨⟨⟨ap, tq, tr, tt, tl, tm, OO, T, g7⟩, F, g0, g6, g8⟩, ⟨j, g9, oj, j1, j2⟩, g10⟩ := NR
      have hp2 := hi2.pop h1
      unfold erow at oj
      generalize ({ s2 with out := q } : SV) = s3 at *
      repeat' (first
| ((with_reducible apply opsF.op rfl); case hs => first | exact tHT | exact tHS)
| (with_reducible first | apply opsF.nil | apply seqF.nn | apply vcF.seq | apply vcF.region | apply vcF.skip | apply vcF.block | apply vcF.exit | apply vcF.ret | apply vcF.loop | apply seqF.e | apply seqF.r | apply blkF.nn | apply blkF.e | apply blkF.r | apply blkF.o rfl)
| ((with_reducible apply opsF.call); case hx => exact tAG)
| ((with_reducible apply vcF.cond); case hx => exact tEV) <;> ((intro hc; try simp only [Int.reduceLT, Int.reduceLE, Int.reduceEq, Int.reduceNe, Int.cast_ofNat_Int, Int.reduceNeg, reduceCtorEq, ne_eq, ge_iff_le, gt_iff_lt, beq_iff_eq, beq_eq_false_iff_ne, bne_iff_ne, bne_eq_false_iff_eq, nrm, *] at hc) <;> try (exfalso; omega))
| ((with_reducible first | apply retF.r | apply retF.nn); case hv => exact tRS))
      all_goals exact ⟨i + 1, by omega, s3, n', o1, m1, O, M, ⟨⟨ap, tq, tr, tt, tl, tm, OO, T, g7⟩, F, g0, g6, rfl⟩, k2, hp2, eo, em, by omega⟩
    | ask e n' h1 h0 h2 h3 k2 =>
      rw [h1] at NR
      obtain ⟨⟨⟨ap, tq, tr, tt, tl, tm, OO, T, g7⟩, F, g0, g6, g8⟩, ⟨j, g9, oj, j1, j2⟩, g10⟩ := NR
      have hp2 := (hi2.pop h1).got rfl h0 250
      have hans := sans_yes (w0 := w0) hP x ({ s2 with out := [] }) ap tq tr tt tl (tm :: R) e 250 hh OO T h0 rfl (by omega) (by omega) (by have := hi2.rc; dsimp only; omega)
      unfold erow at oj
      generalize (({ s2 with out := [] } : SV).got e 250) = s3 at *
      rcases h2 with h2 | h2
      · repeat' (first
| ((with_reducible apply opsF.op rfl); case hs => first | exact tHT | exact tHS)
| (with_reducible first | apply opsF.nil | apply seqF.nn | apply vcF.seq | apply vcF.region | apply vcF.skip | apply vcF.block | apply vcF.exit | apply vcF.ret | apply vcF.loop | apply seqF.e | apply seqF.r | apply blkF.nn | apply blkF.e | apply blkF.r | apply blkF.o rfl)
| ((with_reducible apply opsF.call); case hx => exact tAG)
| ((with_reducible apply vcF.cond); case hx => exact tEV) <;> ((intro hc; try simp only [Int.reduceLT, Int.reduceLE, Int.reduceEq, Int.reduceNe, Int.cast_ofNat_Int, Int.reduceNeg, reduceCtorEq, ne_eq, ge_iff_le, gt_iff_lt, beq_iff_eq, beq_eq_false_iff_ne, bne_iff_ne, bne_eq_false_iff_eq, nrm, *] at hc) <;> try (exfalso; omega))
| ((with_reducible first | apply retF.r | apply retF.nn); case hv => exact tRS)
| ((refine hans.mono fun v h3 hp => ?_); obtain ⟨rfl, ⟨⟨ap3, tq3, tr3, tt3, tl3, O3, T3⟩, F3⟩⟩ := hp)
| fail)
        all_goals exact ⟨i + 1, by omega, s3, n', o1, m1, O, M, ⟨⟨ap3, tq3, tr3, tt3, tl3, tm, O3, T3, g7⟩, F.trans F3, g0, g6, rfl⟩, k2, hp2, eo, em, by omega⟩
      · repeat' (first
| ((with_reducible apply opsF.op rfl); case hs => first | exact tHT | exact tHS)
| (with_reducible first | apply opsF.nil | apply seqF.nn | apply vcF.seq | apply vcF.region | apply vcF.skip | apply vcF.block | apply vcF.exit | apply vcF.ret | apply vcF.loop | apply seqF.e | apply seqF.r | apply blkF.nn | apply blkF.e | apply blkF.r | apply blkF.o rfl)
| ((with_reducible apply opsF.call); case hx => exact tAG)
| ((with_reducible apply vcF.cond); case hx => exact tEV) <;> ((intro hc; try simp only [Int.reduceLT, Int.reduceLE, Int.reduceEq, Int.reduceNe, Int.cast_ofNat_Int, Int.reduceNeg, reduceCtorEq, ne_eq, ge_iff_le, gt_iff_lt, beq_iff_eq, beq_eq_false_iff_ne, bne_iff_ne, bne_eq_false_iff_eq, nrm, *] at hc) <;> try (exfalso; omega))
| ((with_reducible first | apply retF.r | apply retF.nn); case hv => exact tRS)
| ((refine hans.mono fun v h3 hp => ?_); obtain ⟨rfl, ⟨⟨ap3, tq3, tr3, tt3, tl3, O3, T3⟩, F3⟩⟩ := hp)
| fail)
        all_goals exact ⟨i + 1, by omega, s3, n', o1, m1, O, M, ⟨⟨ap3, tq3, tr3, tt3, tl3, tm, O3, T3, g7⟩, F.trans F3, g0, g6, rfl⟩, k2, hp2, eo, em, by omega⟩
    | store e n' m' h1 h0 h2 h3 h4 k2 =>
      rw [h1] at NR
      obtain ⟨⟨⟨ap, tq, tr, tt, tl, tm, OO, T, g7⟩, F, g0, g6, g8⟩, ⟨j, g9, oj, j1, j2⟩, g10⟩ := NR
      have hp2 := (hi2.pop h1).got rfl h0 250
      obtain ⟨tm', h2', hap, T2, e4, e5, e6⟩ := (Toks.r5 T).app
      have OO2 := OO.fr ((Fr.refl [] hh).app e4 e5 e6)
      have hans := sans_yes (w0 := w0) hP x ({ s2 with out := [] }) ap tq tr tt tl (tm' :: R) e 250 h2' OO2 (Toks.l5 T2) h0 rfl (by omega) (by omega) (by have := hi2.rc; dsimp only; omega)
      have hm2 : mrows (M ++ [evML e]) = mrows M ++ [[.v (.string (bs e.sndr)), .list 1 (srows e.rc) .no, .list 1 (srows e.bd) .no]] := by rw [mrows_app]; rfl
      unfold erow at oj
      generalize (({ s2 with out := [] } : SV).got e 250) = s3 at *
      repeat' (first
| ((with_reducible apply opsF.op rfl); (case hs => exact is_app (r := [.v (.string (bs e.sndr)), .list 1 (srows e.rc) .no, .list 1 (srows e.bd) .no]) (new := []) tEV tEV rfl hap (by rw [xm]; simp only [List.length_nil]; omega) rfl))
| ((with_reducible apply opsF.op rfl); case hs => first | exact tHT | exact tHS)
| (with_reducible first | apply opsF.nil | apply seqF.nn | apply vcF.seq | apply vcF.region | apply vcF.skip | apply vcF.block | apply vcF.exit | apply vcF.ret | apply vcF.loop | apply seqF.e | apply seqF.r | apply blkF.nn | apply blkF.e | apply blkF.r | apply blkF.o rfl)
| ((with_reducible apply opsF.call); case hx => exact tAG)
| ((with_reducible apply vcF.cond); case hx => exact tEV) <;> ((intro hc; try simp only [Int.reduceLT, Int.reduceLE, Int.reduceEq, Int.reduceNe, Int.cast_ofNat_Int, Int.reduceNeg, reduceCtorEq, ne_eq, ge_iff_le, gt_iff_lt, beq_iff_eq, beq_eq_false_iff_ne, bne_iff_ne, bne_eq_false_iff_eq, nrm, *] at hc) <;> try (exfalso; omega))
| ((with_reducible first | apply retF.r | apply retF.nn); case hv => exact tRS)
| ((refine hans.mono fun v h3 hp => ?_); obtain ⟨rfl, ⟨⟨ap3, tq3, tr3, tt3, tl3, O3, T3⟩, F3⟩⟩ := hp)
| fail)
      all_goals exact ⟨i + 1, by omega, s3, n', o1, m', O, M ++ [evML e], ⟨⟨ap3, tq3, tr3, tt3, tl3, tm', O3, T3, by rw [hm2]; rfl⟩, (F.app e4 e5 e6).trans F3, g0, g6, rfl⟩, k2, hp2, eo, by rw [em, h4, List.append_assoc]; rfl, by omega⟩
  · cases hso : s2.out with
    | nil =>
      rw [hso] at hp
      obtain ⟨rfl, ⟨⟨ap3, tq3, tr3, tt3, tl3, O3, T3⟩, F3⟩⟩ := hp
      have hN3 := F3.n
      have hj : ¬ h3.n ∈ x.ids := by have := O3.lt; simp [SK.ids]; omega
      dsimp only
      unfold ev0
      repeat' (first
| ((with_reducible apply opsF.op rfl); case hs => first | exact tHT | exact tHS)
| (with_reducible first | apply opsF.nil | apply seqF.nn | apply vcF.seq | apply vcF.region | apply vcF.skip | apply vcF.block | apply vcF.exit | apply vcF.ret | apply vcF.loop | apply seqF.e | apply seqF.r | apply blkF.nn | apply blkF.e | apply blkF.r | apply blkF.o rfl)
| ((with_reducible apply opsF.call); case hx => exact tAG)
| ((with_reducible apply vcF.cond); case hx => exact tEV) <;> ((intro hc; try simp only [Int.reduceLT, Int.reduceLE, Int.reduceEq, Int.reduceNe, Int.cast_ofNat_Int, Int.reduceNeg, reduceCtorEq, ne_eq, ge_iff_le, gt_iff_lt, beq_iff_eq, beq_eq_false_iff_ne, bne_iff_ne, bne_eq_false_iff_eq, nrm, *] at hc) <;> try (exfalso; omega))
| ((with_reducible first | apply retF.r | apply retF.nn); case hv => exact tRS))
      all_goals exact ⟨⟨⟨ap3, tq3, tr3, tt3, tl3, tm, O3.ext (by repeat' (first | exact Ext.refl _ | (refine Ext.set ?_ (by first | exact Nat.le_refl _ | (simp only [alloc_n, set_n]; omega) | (simp only [alloc_n, set_n, drop_n]; omega)) _) | (refine Ext.trans ?_ (Ext.alloc _ _)) | (refine Ext.drop ?_ (by first | exact Nat.le_refl _ | (simp only [alloc_n, set_n, drop_n]; omega))))), T3.ext (by repeat' (first | exact Ext.refl _ | (refine Ext.set ?_ (by first | exact Nat.le_refl _ | (simp only [alloc_n, set_n]; omega) | (simp only [alloc_n, set_n, drop_n]; omega)) _) | (refine Ext.trans ?_ (Ext.alloc _ _)) | (refine Ext.drop ?_ (by first | exact Nat.le_refl _ | (simp only [alloc_n, set_n, drop_n]; omega))))), g7⟩, (F.trans F3).trans (Fr.ext (by repeat' (first | exact Ext.refl _ | (refine Ext.set ?_ (by first | exact Nat.le_refl _ | (simp only [alloc_n, set_n]; omega) | (simp only [alloc_n, set_n, drop_n]; omega)) _) | (refine Ext.trans ?_ (Ext.alloc _ _)) | (refine Ext.drop ?_ (by first | exact Nat.le_refl _ | (simp only [alloc_n, set_n, drop_n]; omega)))))), g0, g6, g8⟩, ⟨h3.n, rfl, by simp (disch := omega) only [alloc_at, alloc_n, set_at, set_n, if_pos, if_neg, eq_self, if_true], hj, by simp only [alloc_n, set_n]; omega⟩, rfl⟩
    | cons e q =>
      rw [hso] at hp
      obtain ⟨rfl, ⟨⟨ap3, tq3, tr3, tt3, tl3, O3, T3⟩, F3⟩⟩ := hp
      have hN3 := F3.n
      have hj : ¬ h3.n ∈ x.ids := by have := O3.lt; simp [SK.ids]; omega
      dsimp only
      unfold erow
      repeat' (first
| ((with_reducible apply opsF.op rfl); case hs => first | exact tHT | exact tHS)
| (with_reducible first | apply opsF.nil | apply seqF.nn | apply vcF.seq | apply vcF.region | apply vcF.skip | apply vcF.block | apply vcF.exit | apply vcF.ret | apply vcF.loop | apply seqF.e | apply seqF.r | apply blkF.nn | apply blkF.e | apply blkF.r | apply blkF.o rfl)
| ((with_reducible apply opsF.call); case hx => exact tAG)
| ((with_reducible apply vcF.cond); case hx => exact tEV) <;> ((intro hc; try simp only [Int.reduceLT, Int.reduceLE, Int.reduceEq, Int.reduceNe, Int.cast_ofNat_Int, Int.reduceNeg, reduceCtorEq, ne_eq, ge_iff_le, gt_iff_lt, beq_iff_eq, beq_eq_false_iff_ne, bne_iff_ne, bne_eq_false_iff_eq, nrm, *] at hc) <;> try (exfalso; omega))
| ((with_reducible first | apply retF.r | apply retF.nn); case hv => exact tRS))
      all_goals exact ⟨⟨⟨ap3, tq3, tr3, tt3, tl3, tm, O3.ext (by repeat' (first | exact Ext.refl _ | (refine Ext.set ?_ (by first | exact Nat.le_refl _ | (simp only [alloc_n, set_n]; omega) | (simp only [alloc_n, set_n, drop_n]; omega)) _) | (refine Ext.trans ?_ (Ext.alloc _ _)) | (refine Ext.drop ?_ (by first | exact Nat.le_refl _ | (simp only [alloc_n, set_n, drop_n]; omega))))), T3.ext (by repeat' (first | exact Ext.refl _ | (refine Ext.set ?_ (by first | exact Nat.le_refl _ | (simp only [alloc_n, set_n]; omega) | (simp only [alloc_n, set_n, drop_n]; omega)) _) | (refine Ext.trans ?_ (Ext.alloc _ _)) | (refine Ext.drop ?_ (by first | exact Nat.le_refl _ | (simp only [alloc_n, set_n, drop_n]; omega))))), g7⟩, (F.trans F3).trans (Fr.ext (by repeat' (first | exact Ext.refl _ | (refine Ext.set ?_ (by first | exact Nat.le_refl _ | (simp only [alloc_n, set_n]; omega) | (simp only [alloc_n, set_n, drop_n]; omega)) _) | (refine Ext.trans ?_ (Ext.alloc _ _)) | (refine Ext.drop ?_ (by first | exact Nat.le_refl _ | (simp only [alloc_n, set_n, drop_n]; omega)))))), g0, g6, g8⟩, ⟨h3.n, rfl, by simp (disch := omega) only [alloc_at, alloc_n, set_at, set_n, if_pos, if_neg, eq_self, if_true], hj, by simp only [alloc_n, set_n]; omega⟩, rfl⟩
end Go.Abs.F
/- Layer 6: a peer's session: commands, bodies, as it is told them: the plain side. -/
namespace Go.Abs.F
open Go Go.Abs
set_option maxRecDepth 10000
set_option linter.unusedSimpArgs false
set_option linter.unusedVariables false
theorem lineS_ok {most : Int} {a : L8} (h : (a.length : Int) + 2 ≤ most) (h0 : 0 ∉ a) (h1 : 10 ∉ a) (h2 : 13 ∉ a) : lineS most a = (1, a) := by
  unfold lineS
  rw [if_neg (by omega), if_neg]
  intro e
  rw [List.any_eq_true] at e
  obtain ⟨x, hx, e⟩ := e
  simp only [Bool.or_eq_true, decide_eq_true_eq] at e
  rcases e with (rfl | rfl) | rfl
  · exact h0 hx
  · exact h1 hx
  · exact h2 hx
theorem take_cmd {s : SV} {a r : L8} (hb : s.body = false) (hl : a.length ≤ 510) (h0 : 0 ∉ a) (h1 : 10 ∉ a) (h2 : 13 ∉ a) : s.take a r = ({ s with wait := r } : SV).command 1 a := by
  unfold SV.take
  rw [if_neg (by rw [hb]; simp)]
  have e : s.most = 512 := by unfold SV.most; rw [if_neg (by rw [hb]; simp)]
  rw [e, lineS_ok (by omega) h0 h1 h2]
theorem command_ok {s : SV} {a : L8} {v : VS} (h : verbS a = (0, v)) : s.command 1 a = s.doVerb v := by
  unfold SV.command
  rw [if_neg (by simp), h, if_neg (by simp)]
theorem runs_say {s t : SV} {c : Int} {n : Nat} {o : L8} {m : List ML} (i1 : s.out = []) (k : Runs s n o m t) : Runs (s.say c) (n + 1) (plainS c ++ o) m t := by
  refine Runs.say (e := evSay (plainS c)) (q := []) (by show s.out ++ _ = _; rw [i1]; rfl) rfl ?_
  have e : ({ s.say c with out := [] } : SV) = s := by cases s; dsimp only at i1; subst i1; rfl
  rw [e]
  exact k
/-- What is kept of a body. -/
def keptT (size : Int) : Int → List L8 → List L8 → List L8
  | _, tx, [] => tx
  | z, tx, u :: l => keptT size (z + ((u.length + 2 : Nat) : Int)) (if z + ((u.length + 2 : Nat) : Int) ≤ size then tx ++ [u] else tx) l
/-! what is said to a command -/
theorem dv_QUIT (s : SV) (a : L8) (z : Int) (w : Bool) : s.doVerb (nQUIT, a, z, w) = (s.say 221).shut := by
  unfold SV.doVerb
  dsimp only
  rw [if_neg (by decide), if_neg (by decide), if_neg (by decide), if_neg (by decide), if_neg (by decide), if_pos rfl]
end Go.Abs.F
/- Layer 6: commands in any order: the plain side. -/
namespace Go.Abs.F
open Go Go.Abs
set_option maxRecDepth 10000
set_option linter.unusedSimpArgs false
set_option linter.unusedVariables false
def bQUIT : L8 := [81, 85, 73, 84]
theorem p220 : plainS 220 = [50, 50, 48, 32, 114, 101, 97, 100, 121, 13, 10] := by kernel_rfl
theorem p221 : plainS 221 = [50, 50, 49, 32, 98, 121, 101, 13, 10] := by kernel_rfl
end Go.Abs.F
/- Layer 6: a peer's session: bytes in parts: the plain side. -/
namespace Go.Abs.F
open Go Go.Abs
set_option maxRecDepth 10000
set_option linter.unusedSimpArgs false
set_option linter.unusedVariables false
theorem fmtGo_len (c : Nat) (hc : c ≤ 18446744073709551615) : ∀ (ls : List L8), (∀ s ∈ ls, s.length ≤ 400) → (fmtGo c ls).length ≤ ls.length * 500
  | [], _ => Nat.zero_le _
  | s :: r, h => by
    have h1 := fmtGo_len c hc r (fun x hx => h x (List.mem_cons_of_mem _ hx))
    have h2 := h s (by simp)
    have h3 := udecS_20 c hc
    rw [fmtGo, fmtLine]
    simp only [List.length_append, List.length_cons, List.length_nil, Nat.add_mul]
    omega
theorem fmtB_len (c : Int) (ls : List L8) (hl : ls.length ≤ 10) : (fmtB c ls).length ≤ 5000 := by
  unfold fmtB
  split
  · rename_i h
    unfold fmtOk at h
    simp only [Bool.and_eq_true, decide_eq_true_eq, List.all_eq_true] at h
    have := fmtGo_len c.toNat (by omega) ls (fun s hs => by
      have q := h.2 s hs
      unfold lineOk at q
      simp only [Bool.and_eq_true, decide_eq_true_eq] at q
      exact q.1)
    omega
  · simp
/-- What a session has to say, as it is between two words. -/
structure SV.Fit (s : SV) : Prop where
  k : (s.asked = none ∧ ∀ e ∈ s.out, e.kind = 1 ∨ e.kind = 5) ∨ ∃ e, s.asked = some e ∧ s.out = [e] ∧ (e.kind = 2 ∨ e.kind = 3 ∨ e.kind = 4)
  t : ∀ e ∈ s.out, e.kind = 1 → e.text.length ≤ 5000
theorem fit_idle {s : SV} (h1 : s.out = []) (h2 : s.asked = none) : s.Fit := ⟨.inl ⟨h2, by rw [h1]; simp⟩, by rw [h1]; simp⟩
theorem fit_put {s : SV} (s' : SV) (e : Ev) (ho : s.out = []) (e0 : s'.out = s.out ++ [e]) (ha : s'.asked = none) (hk : e.kind = 1) (ht : e.text.length ≤ 5000) : s'.Fit := by
  rw [ho, List.nil_append] at e0
  exact ⟨.inl ⟨ha, by rw [e0]; simp [hk]⟩, by rw [e0]; simp [ht]⟩
theorem fit_say {s : SV} (s' : SV) (ho : s.out = []) (e0 : s'.out = s.out) (ha : s'.asked = none) (c : Int) : (s'.say c).Fit :=
  fit_put (s'.say c) (evSay (plainS c)) ho (by show s'.out ++ _ = _; rw [e0]) ha rfl (fmtB_len c [textS c] (by simp))
theorem fit_ask {s : SV} (s' : SV) (e : Ev) (ho : s.out = []) (e0 : s'.out = s.out) (hk : e.kind = 2 ∨ e.kind = 3 ∨ e.kind = 4) : (s'.ask e).Fit :=
  ⟨.inr ⟨e, rfl, by show s'.out ++ [e] = [e]; rw [e0, ho, List.nil_append], hk⟩, by
    show ∀ x ∈ s'.out ++ [e], _
    rw [e0, ho, List.nil_append]
    intro x hx h1
    rw [List.mem_singleton.1 hx] at h1
    omega⟩
theorem command_fit (s : SV) (k : Int) (t : L8) (ho : s.out = []) (ha : s.asked = none) : (s.command k t).Fit := by
  unfold SV.command
  split
  · exact fit_say s ho rfl ha _
  split
  · exact fit_say s ho rfl ha _
  unfold SV.doVerb
  split
  · exact fit_say (s.greet) ho rfl ha _
  split
  · exact fit_put s.greet.hello (evSay (fmtB 250 (helloL s.greet))) ho rfl ha rfl (fmtB_len _ _ (by simp [helloL]))
  split
  · exact fit_say (s.reset) ho rfl ha _
  split
  · exact fit_say s ho rfl ha _
  split
  · exact fit_say s ho rfl ha _
  split
  · have e0 : (s.say 221).shut.out = [evSay (plainS 221), evShut] := by show (s.out ++ _) ++ _ = _; rw [ho]; rfl
    refine ⟨.inl ⟨ha, ?_⟩, ?_⟩
    · rw [e0]
      intro e he
      simp only [List.mem_cons, List.not_mem_nil, or_false] at he
      rcases he with rfl | rfl
      · exact .inl rfl
      · exact .inr rfl
    · rw [e0]
      intro e he
      simp only [List.mem_cons, List.not_mem_nil, or_false] at he
      rcases he with rfl | rfl
      · exact fun _ => fmtB_len 221 [textS 221] (by simp)
      · exact fun _ => Nat.zero_le _
  split
  · unfold SV.mail
    split
    · exact fit_say s ho rfl ha _
    split
    · exact fit_say s ho rfl ha _
    · exact fit_ask s _ ho rfl (.inl rfl)
  split
  · unfold SV.rcpt
    split
    · exact fit_say s ho rfl ha _
    split
    · exact fit_say s ho rfl ha _
    · exact fit_ask s _ ho rfl (.inr (.inl rfl))
  split
  · unfold SV.data
    split
    · exact fit_say s ho rfl ha _
    · exact fit_put { s.say 354 with body := true } (evSay (plainS 354)) ho rfl ha rfl (fmtB_len 354 [textS 354] (by simp))
  exact fit_idle ho ha
theorem content_fit (s : SV) (k : Int) (t : L8) (ho : s.out = []) (ha : s.asked = none) : (s.content k t).Fit := by
  unfold SV.content
  split
  · exact fit_idle ho ha
  split
  · unfold SV.whole
    dsimp only
    split
    · exact fit_say (({ s with body := false } : SV).reset) ho rfl ha _
    split
    · exact fit_say (({ s with body := false } : SV).reset) ho rfl ha _
    · exact fit_ask ({ s with body := false } : SV) ⟨4, [], -1, s.sndr, s.rcpts, s.text⟩ ho rfl (.inr (.inr rfl))
  · unfold SV.line
    dsimp only
    split
    · exact fit_idle ho ha
    · exact fit_idle ho ha
theorem take_fit (s : SV) (a r : L8) (ho : s.out = []) (ha : s.asked = none) : (s.take a r).Fit := by
  unfold SV.take
  split
  · exact content_fit { s with wait := r } _ _ ho ha
  · exact command_fit { s with wait := r } _ _ ho ha
theorem got_fit (s : SV) (e : Ev) (c : Int) (ho : s.out = []) : (s.got e c).Fit := by
  unfold SV.got
  dsimp only
  split
  · exact fit_say (({ s with asked := none } : SV).reset) ho rfl rfl _
  split
  · split
    · exact fit_say ({ s with asked := none, sender := true, sndr := e.text }) ho rfl rfl _
    · exact fit_say ({ s with asked := none, rcpts := s.rcpts ++ [e.text] }) ho rfl rfl _
  · exact fit_say ({ s with asked := none }) ho rfl rfl _
theorem pop_fit {s : SV} {e : Ev} {q : List Ev} (h : s.Fit) (h1 : s.out = e :: q) (h2 : e.kind = 1 ∨ e.kind = 5) : ({ s with out := q } : SV).Fit := by
  refine ⟨?_, fun x hx => h.t x (by rw [h1]; exact List.mem_cons_of_mem _ hx)⟩
  rcases h.k with ⟨k1, k2⟩ | ⟨f, k1, k2, k3⟩
  · exact .inl ⟨k1, fun x hx => k2 x (by rw [h1]; exact List.mem_cons_of_mem _ hx)⟩
  · rw [h1] at k2
    injection k2 with k2 _
    subst k2
    omega
theorem Runs.fin {s t : SV} {n : Nat} {o : L8} {m : List ML} (h : Runs s n o m t) : t.out = [] ∧ t.asked = none ∧ (t.over = true ∨ cutL t.wait = none) := by
  induction h with
  | done h1 h2 h3 => exact ⟨h1, h2, h3⟩
  | line h1 h2 h3 h4 k ih => exact ih
  | say h1 h2 k ih => exact ih
  | shut h1 h2 k ih => exact ih
  | ask h1 h0 h2 k ih => exact ih
  | store h1 h0 h2 k ih => exact ih
theorem Runs.in {s t : SV} {n N : Nat} {o : L8} {m : List ML} (h : Runs s n o m t) (hi : s.In N) : t.In N := by
  induction h with
  | done h1 h2 h3 => exact hi
  | line h1 h2 h3 h4 k ih => exact ih (hi.take h1 h2 h4)
  | say h1 h2 k ih => exact ih (hi.pop h1)
  | shut h1 h2 k ih => exact ih (hi.pop h1)
  | ask h1 h0 h2 k ih => exact ih ((hi.pop h1).got rfl h0 250)
  | store h1 h0 h2 k ih => exact ih ((hi.pop h1).got rfl h0 250)
theorem got_aN (s : SV) (e : Ev) (c : Int) (ho : s.out = []) : (s.got e c).out.length = 1 ∧ (s.got e c).asked = none ∧ (s.got e c).wait = s.wait := by
  have key : ∀ (s2 : SV) (d : Int), s2.out = s.out → s2.asked = none → s2.wait = s.wait → (s2.say d).out.length = 1 ∧ (s2.say d).asked = none ∧ (s2.say d).wait = s.wait := by
    intro s2 d e0 ea e1
    refine ⟨?_, ea, e1⟩
    show (s2.out ++ [evSay (plainS d)]).length = 1
    rw [e0, ho]; rfl
  unfold SV.got
  dsimp only
  split
  · exact key _ _ rfl rfl rfl
  split
  · split
    · exact key _ _ rfl rfl rfl
    · exact key _ _ rfl rfl rfl
  · exact key _ _ rfl rfl rfl
theorem runs_ex : ∀ (k : Nat) (s : SV) (N : Nat), s.In N → s.Fit → 3 * s.wait.length + s.out.length + s.aN ≤ k → ∃ n o m t, Runs s n o m t ∧ n ≤ s.out.length + s.wait.length + s.aN ∧ o.length ≤ n * 5000 := by
  intro k
  induction k using Nat.strongRecOn with
  | _ k ih =>
    intro s N hi hf hk
    cases ho : s.out with
    | nil =>
      have ha : s.asked = none := by
        rcases hf.k with ⟨k1, _⟩ | ⟨e, _, k2, _⟩
        · exact k1
        · rw [ho] at k2; cases k2
      cases hv : s.over with
      | true => exact ⟨0, [], [], s, .done ho ha (.inl hv), Nat.zero_le _, Nat.zero_le _⟩
      | false =>
        cases hc : cutL s.wait with
        | none => exact ⟨0, [], [], s, .done ho ha (.inr hc), Nat.zero_le _, Nat.zero_le _⟩
        | some p =>
          obtain ⟨a, r⟩ := p
          have hl := cutL_len hc
          have q := take_ef s a r ha hi.bs.1
          have w := q.wait
          have h1 := q.out
          dsimp only at w h1
          rw [ho, List.length_nil] at h1 hk
          rw [aN_none ha] at hk
          obtain ⟨n, o, m, t, R, hn, hol⟩ := ih (3 * (s.take a r).wait.length + (s.take a r).out.length + (s.take a r).aN) (by rw [w]; omega) (s.take a r) N (hi.take ho ha hc) (take_fit s a r ho ha) (Nat.le_refl _)
          rw [w] at hn
          exact ⟨n, o, m, t, .line ho ha hv hc R, by rw [List.length_nil, aN_none ha]; omega, hol⟩
    | cons e q =>
      rw [ho] at hk
      rw [List.length_cons] at hk ⊢
      have pop : e.kind = 1 ∨ e.kind = 5 → ∃ n o m t, Runs ({ s with out := q } : SV) n o m t ∧ n ≤ q.length + s.wait.length + s.aN ∧ o.length ≤ n * 5000 := fun hke =>
        ih (3 * s.wait.length + q.length + s.aN) (by omega) { s with out := q } N (hi.pop ho) (pop_fit hf ho hke) (Nat.le_refl _)
      rcases hf.k with ⟨k1, k2⟩ | ⟨f, k1, k2, k3⟩
      · have hke := k2 e (by rw [ho]; simp)
        obtain ⟨n, o, m, t, R, hn, hol⟩ := pop hke
        rcases hke with hke | hke
        · have htl := hf.t e (by rw [ho]; simp) hke
          exact ⟨n + 1, e.text ++ o, m, t, .say ho hke R, by omega, by rw [List.length_append, Nat.succ_mul]; omega⟩
        · exact ⟨n + 1, o, m, t, .shut ho hke R, by omega, Nat.le_trans hol (Nat.mul_le_mul_right _ (Nat.le_succ n))⟩
      · rw [ho] at k2
        injection k2 with k2 k4
        subst k2 k4
        rw [aN_some k1] at hk ⊢
        obtain ⟨g1, g2, g3⟩ := got_aN ({ s with out := [] } : SV) e 250 rfl
        dsimp only at g3
        obtain ⟨n, o, m, t, R, hn, hol⟩ := ih (3 * s.wait.length + 1) (by simp at hk; omega) (({ s with out := [] } : SV).got e 250) N ((hi.pop ho).got rfl k1 250) (got_fit _ _ _ rfl) (by rw [g1, aN_none g2, g3]; omega)
        rw [g1, aN_none g2, g3] at hn
        rcases k3 with k3 | k3 | k3
        · exact ⟨n + 1, o, m, t, .ask ho k1 (.inl k3) R, by simp; omega, Nat.le_trans hol (Nat.mul_le_mul_right _ (Nat.le_succ n))⟩
        · exact ⟨n + 1, o, m, t, .ask ho k1 (.inr k3) R, by simp; omega, Nat.le_trans hol (Nat.mul_le_mul_right _ (Nat.le_succ n))⟩
        · exact ⟨n + 1, o, evML e :: m, t, .store ho k1 k3 R, by simp; omega, Nat.le_trans hol (Nat.mul_le_mul_right _ (Nat.le_succ n))⟩
/-! what waits changes nothing -/
theorem mail_w (s : SV) (w arg : L8) (z : Int) : ({ s with wait := w } : SV).mail arg z = { s.mail arg z with wait := w } := by
  unfold SV.mail
  dsimp only
  by_cases h1 : s.greeted = false ∨ s.sender = true
  · rw [if_pos h1, if_pos h1]; rfl
  · rw [if_neg h1, if_neg h1]
    by_cases h2 : s.size < z
    · rw [if_pos h2, if_pos h2]; rfl
    · rw [if_neg h2, if_neg h2]; rfl
theorem rcpt_w (s : SV) (w arg : L8) : ({ s with wait := w } : SV).rcpt arg = { s.rcpt arg with wait := w } := by
  unfold SV.rcpt
  dsimp only
  by_cases h1 : s.sender = false
  · rw [if_pos h1, if_pos h1]; rfl
  · rw [if_neg h1, if_neg h1]
    by_cases h2 : s.rmax ≤ (s.rcpts.length : Int)
    · rw [if_pos h2, if_pos h2]; rfl
    · rw [if_neg h2, if_neg h2]; rfl
theorem data_w (s : SV) (w : L8) : ({ s with wait := w } : SV).data = { s.data with wait := w } := by
  unfold SV.data
  dsimp only
  by_cases h1 : s.rcpts = []
  · rw [if_pos h1, if_pos h1]; rfl
  · rw [if_neg h1, if_neg h1]; rfl
theorem ite_w {c : Prop} [Decidable c] {a b a' b' : SV} {w : L8} (h1 : a' = { a with wait := w }) (h2 : b' = { b with wait := w }) : (if c then a' else b') = { (if c then a else b) with wait := w } := by
  by_cases h : c
  · rw [if_pos h, if_pos h]; exact h1
  · rw [if_neg h, if_neg h]; exact h2
theorem doVerb_w (s : SV) (w : L8) (v : VS) : ({ s with wait := w } : SV).doVerb v = { s.doVerb v with wait := w } := by
  unfold SV.doVerb
  exact ite_w rfl (ite_w rfl (ite_w rfl (ite_w rfl (ite_w rfl (ite_w rfl (ite_w (mail_w _ _ _ _) (ite_w (rcpt_w _ _ _) (ite_w (data_w _ _) rfl))))))))
theorem command_w (s : SV) (w : L8) (k : Int) (t : L8) : ({ s with wait := w } : SV).command k t = { s.command k t with wait := w } := by
  unfold SV.command
  exact ite_w rfl (ite_w rfl (doVerb_w _ _ _))
theorem whole_w (s : SV) (w : L8) : ({ s with wait := w } : SV).whole = { s.whole with wait := w } := by
  unfold SV.whole
  exact ite_w rfl (ite_w rfl rfl)
theorem line_w (s : SV) (w u : L8) : ({ s with wait := w } : SV).line u = { s.line u with wait := w } := by
  unfold SV.line
  exact ite_w rfl rfl
theorem content_w (s : SV) (w : L8) (k : Int) (t : L8) : ({ s with wait := w } : SV).content k t = { s.content k t with wait := w } := by
  unfold SV.content
  exact ite_w rfl (ite_w (whole_w _ _) (line_w _ _ _))
theorem take_w (s : SV) (x a r w : L8) : ({ s with wait := x } : SV).take a w = { s.take a r with wait := w } := by
  unfold SV.take
  show (if s.body = true then ({ s with wait := w } : SV).content (lineS s.most a).1 (lineS s.most a).2 else ({ s with wait := w } : SV).command (lineS s.most a).1 (lineS s.most a).2) = _
  refine ite_w ?_ ?_
  · rw [content_w s w, content_w s r]
  · rw [command_w s w, command_w s r]
theorem got_w (s : SV) (w : L8) (e : Ev) (c : Int) : ({ s with wait := w } : SV).got e c = { s.got e c with wait := w } := by
  unfold SV.got
  dsimp only
  by_cases h1 : e.kind = 4
  · rw [if_pos h1, if_pos h1]; rfl
  · rw [if_neg h1, if_neg h1]
    by_cases h2 : c ≤ 299
    · rw [if_pos h2, if_pos h2, if_pos h2]
      by_cases h3 : e.kind = 2
      · rw [if_pos h3, if_pos h3]; rfl
      · rw [if_neg h3, if_neg h3]; rfl
    · rw [if_neg h2, if_neg h2, if_neg h2]; rfl
theorem cutL_app : ∀ {w a r : L8} (b : L8), cutL w = some (a, r) → cutL (w ++ b) = some (a, r ++ b)
  | [], a, r, b, h => by cases h
  | [x], a, r, b, h => by cases h
  | x :: y :: t, a, r, b, h => by
    rw [cutL] at h
    show cutL (x :: y :: (t ++ b)) = _
    rw [cutL]
    split at h
    · rename_i hh
      rw [if_pos hh]
      cases h
      rfl
    · rename_i hh
      rw [if_neg hh]
      cases hq : cutL (y :: t) with
      | none => rw [hq] at h; cases h
      | some p =>
        rw [hq] at h
        cases h
        have := cutL_app (w := y :: t) (a := p.1) (r := p.2) b (by rw [hq])
        rw [show y :: (t ++ b) = y :: t ++ b from rfl, this]
        rfl
/-- Bytes behind those that were taken. -/
theorem runs_split {s1 t1 : SV} {n1 : Nat} {o1 : L8} {m1 : List ML} (h1 : Runs s1 n1 o1 m1 t1) (b : L8) : ∀ {n : Nat} {o : L8} {m : List ML} {t : SV}, Runs { s1 with wait := s1.wait ++ b } n o m t → ∃ n2 o2 m2 t2, o = o1 ++ o2 ∧ m = m1 ++ m2 ∧ Runs { t1 with wait := t1.wait ++ b } n2 o2 m2 t2 := by
  induction h1 with
  | done a1 a2 a3 => exact fun {n o m t} h => ⟨n, o, m, t, rfl, rfl, h⟩
  | @line s1 t1 a r o1 n1 m1 a1 a2 a3 a4 k ih =>
    intro n o m t h
    have a5 := cutL_app b a4
    have bad1 : ∀ {e : Ev} {q : List Ev}, ({ s1 with wait := s1.wait ++ b } : SV).out = e :: q → False := fun {e q} x => by
      have x : s1.out = e :: q := x
      rw [a1] at x; cases x
    generalize hs : ({ s1 with wait := s1.wait ++ b } : SV) = s at h
    cases h with
    | done c1 c2 c3 =>
      rw [← hs] at c3
      rcases c3 with c3 | c3
      · have c3 : s1.over = true := c3
        rw [a3] at c3; cases c3
      · have c3 : cutL (s1.wait ++ b) = none := c3
        rw [a5] at c3; cases c3
    | line c1 c2 c3 c4 k2 =>
      rw [← hs] at c4 k2
      have c4 : cutL (s1.wait ++ b) = some (_, _) := c4
      rw [a5] at c4
      injection c4 with c4
      injection c4 with c5 c6
      subst c5 c6
      refine ih (by
        have e : ({ s1 with wait := s1.wait ++ b } : SV).take a (r ++ b) = { s1.take a r with wait := (s1.take a r).wait ++ b } := by
          rw [take_w s1 (s1.wait ++ b) a r (r ++ b)]
          have : (s1.take a r).wait = r := by
            have q := take_w s1 s1.wait a r r
            have e0 : ({ s1 with wait := s1.wait } : SV) = s1 := rfl
            rw [e0] at q
            rw [q]
          rw [this]
        rw [← e]
        exact k2)
    | say c1 c2 k2 => rw [← hs] at c1; exact (bad1 c1).elim
    | shut c1 c2 k2 => rw [← hs] at c1; exact (bad1 c1).elim
    | ask c1 c0 c2 k2 => rw [← hs] at c1; exact (bad1 c1).elim
    | store c1 c0 c2 k2 => rw [← hs] at c1; exact (bad1 c1).elim
  | @say s1 t1 e q o1 n1 m1 a1 a2 k ih =>
    intro n o m t h
    generalize hs : ({ s1 with wait := s1.wait ++ b } : SV) = s at h
    have ho : s.out = e :: q := by rw [← hs]; exact a1
    cases h with
    | done c1 c2 c3 => rw [ho] at c1; cases c1
    | line c1 c2 c3 c4 k2 => rw [ho] at c1; cases c1
    | @say _ _ e' q' o' n' _ c1 c2 k2 =>
      rw [ho] at c1
      injection c1 with c1 c3
      subst c1 c3
      rw [← hs] at k2
      obtain ⟨n2, o2, m2, t2, e1, e2, k3⟩ := ih k2
      exact ⟨n2, o2, m2, t2, by rw [e1, List.append_assoc], e2, k3⟩
    | shut c1 c2 k2 =>
      rw [ho] at c1
      injection c1 with c1 c3
      subst c1
      omega
    | ask c1 c0 c2 k2 =>
      rw [ho] at c1
      injection c1 with c1 c3
      subst c1
      omega
    | store c1 c0 c2 k2 =>
      rw [ho] at c1
      injection c1 with c1 c3
      subst c1
      omega
  | @shut s1 t1 e q o1 n1 m1 a1 a2 k ih =>
    intro n o m t h
    generalize hs : ({ s1 with wait := s1.wait ++ b } : SV) = s at h
    have ho : s.out = e :: q := by rw [← hs]; exact a1
    cases h with
    | done c1 c2 c3 => rw [ho] at c1; cases c1
    | line c1 c2 c3 c4 k2 => rw [ho] at c1; cases c1
    | say c1 c2 k2 =>
      rw [ho] at c1
      injection c1 with c1 c3
      subst c1
      omega
    | shut c1 c2 k2 =>
      rw [ho] at c1
      injection c1 with c1 c3
      subst c1 c3
      rw [← hs] at k2
      exact ih k2
    | ask c1 c0 c2 k2 =>
      rw [ho] at c1
      injection c1 with c1 c3
      subst c1
      omega
    | store c1 c0 c2 k2 =>
      rw [ho] at c1
      injection c1 with c1 c3
      subst c1
      omega
  | @ask s1 t1 e o1 n1 m1 a1 a0 a2 k ih =>
    intro n o m t h
    generalize hs : ({ s1 with wait := s1.wait ++ b } : SV) = s at h
    have ho : s.out = [e] := by rw [← hs]; exact a1
    cases h with
    | done c1 c2 c3 => rw [ho] at c1; cases c1
    | line c1 c2 c3 c4 k2 => rw [ho] at c1; cases c1
    | say c1 c2 k2 =>
      rw [ho] at c1
      injection c1 with c1 c3
      subst c1
      omega
    | shut c1 c2 k2 =>
      rw [ho] at c1
      injection c1 with c1 c3
      subst c1
      omega
    | ask c1 c0 c2 k2 =>
      rw [ho] at c1
      injection c1 with c1 c3
      subst c1
      rw [← hs] at k2
      have e1 : (({ ({ s1 with wait := s1.wait ++ b } : SV) with out := [] } : SV).got e 250) = { (({ s1 with out := [] } : SV).got e 250) with wait := (({ s1 with out := [] } : SV).got e 250).wait ++ b } := by
        rw [(got_aN ({ s1 with out := [] } : SV) e 250 rfl).2.2]
        exact got_w ({ s1 with out := [] } : SV) (s1.wait ++ b) e 250
      rw [e1] at k2
      exact ih k2
    | store c1 c0 c2 k2 =>
      rw [ho] at c1
      injection c1 with c1 c3
      subst c1
      omega
  | @store s1 t1 e o1 n1 m1 a1 a0 a2 k ih =>
    intro n o m t h
    generalize hs : ({ s1 with wait := s1.wait ++ b } : SV) = s at h
    have ho : s.out = [e] := by rw [← hs]; exact a1
    cases h with
    | done c1 c2 c3 => rw [ho] at c1; cases c1
    | line c1 c2 c3 c4 k2 => rw [ho] at c1; cases c1
    | say c1 c2 k2 =>
      rw [ho] at c1
      injection c1 with c1 c3
      subst c1
      omega
    | shut c1 c2 k2 =>
      rw [ho] at c1
      injection c1 with c1 c3
      subst c1
      omega
    | ask c1 c0 c2 k2 =>
      rw [ho] at c1
      injection c1 with c1 c3
      subst c1
      omega
    | store c1 c0 c2 k2 =>
      rw [ho] at c1
      injection c1 with c1 c3
      subst c1
      rw [← hs] at k2
      have e1 : (({ ({ s1 with wait := s1.wait ++ b } : SV) with out := [] } : SV).got e 250) = { (({ s1 with out := [] } : SV).got e 250) with wait := (({ s1 with out := [] } : SV).got e 250).wait ++ b } := by
        rw [(got_aN ({ s1 with out := [] } : SV) e 250 rfl).2.2]
        exact got_w ({ s1 with out := [] } : SV) (s1.wait ++ b) e 250
      rw [e1] at k2
      obtain ⟨n2, o2, m2, t2, g1, g2, k3⟩ := ih k2
      exact ⟨n2, o2, m2, t2, g1, by rw [g2]; rfl, k3⟩
theorem runs_idle {s t : SV} {n : Nat} {o : L8} {m : List ML} (h : Runs s n o m t) (h1 : s.out = []) (h2 : s.asked = none) (h3 : s.over = true ∨ cutL s.wait = none) : n = 0 ∧ o = [] ∧ m = [] ∧ t = s := by
  cases h with
  | done c1 c2 c3 => exact ⟨rfl, rfl, rfl, rfl⟩
  | line c1 c2 c3 c4 k2 =>
    rcases h3 with h3 | h3
    · rw [h3] at c3; cases c3
    · rw [h3] at c4; cases c4
  | say c1 c2 k2 => rw [h1] at c1; cases c1
  | shut c1 c2 k2 => rw [h1] at c1; cases c1
  | ask c1 c0 c2 k2 => rw [h1] at c1; cases c1
  | store c1 c0 c2 k2 => rw [h1] at c1; cases c1
/-- A part of the bytes, and then the rest. -/
theorem feed_split {s t t1 : SV} {n n1 : Nat} {p rest o o1 : L8} {m m1 : List ML} (i1 : s.out = []) (i2 : s.asked = none) (h : Runs { s with wait := s.wait ++ (p ++ rest) } n o m t) (k : Runs (s.feed p) n1 o1 m1 t1) : ∃ n2 o2 m2 t2, o = o1 ++ o2 ∧ m = m1 ++ m2 ∧ Runs { t1 with wait := t1.wait ++ rest } n2 o2 m2 t2 := by
  rcases Bool.eq_false_or_eq_true s.over with hv | hv
  · have e : s.feed p = s := by unfold SV.feed; rw [if_pos hv]
    rw [e] at k
    obtain ⟨rfl, rfl, rfl, rfl⟩ := runs_idle k i1 i2 (.inl hv)
    obtain ⟨rfl, rfl, rfl, _⟩ := runs_idle h i1 i2 (.inl hv)
    exact ⟨0, [], [], _, rfl, rfl, .done i1 i2 (.inl hv)⟩
  · have e : s.feed p = { s with wait := s.wait ++ p } := by unfold SV.feed; rw [if_neg (by rw [hv]; simp)]
    rw [e] at k
    have h2 : Runs { ({ s with wait := s.wait ++ p } : SV) with wait := ({ s with wait := s.wait ++ p } : SV).wait ++ rest } n o m t := by
      show Runs { s with wait := (s.wait ++ p) ++ rest } n o m t
      rw [List.append_assoc]
      exact h
    exact runs_split k rest h2
end Go.Abs.F
