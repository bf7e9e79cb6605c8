/- What the proof needs, part 24: Layer 6: what a program that does nothing does not answer; a session that is none; openers. -/
import Derived.Test.YtlmgpkopcgcbgaaGreatDoorQServeNone22
import Derived.Test.YtlmgpkopcgcbgaaGreatDoorQServeNone23
import Derived.Shelf.Vars
import Derived.Test.YtlmgpkopcgcbgaaGreatDoorRows
/- Layer 6: what a program that does nothing does not answer; a session that is none; openers. -/
namespace Go.Abs.F
open Go Go.Abs
set_option maxRecDepth 10000
set_option maxHeartbeats 20000000
set_option linter.unusedSimpArgs false
set_option linter.unusedVariables false
variable {w0 : World}
theorem maxLen_of {W : World} (h : W.ShapedOpen P) : MaxLen W :=
  Go.Proofs.cell_of_shapedOpen_int (zero := #[.int .i64 0]) (t := 3) h (by decide +kernel) (by kernel_rfl) (by kernel_rfl) (by kernel_rfl) (by kernel_rfl) (by kernel_rfl)
theorem errVars_of {l : List (String × DataW Unit)} {W : World} (hL : laidMetH P l W) (h1 : l.filter (fun x => x.1 == "strconv.ErrSyntax") = [("strconv.ErrSyntax", Go.Proofs.YtlmgpkopcgcbgaaGreatDoor.Rows.laid_strconv_ErrSyntax)]) (h2 : l.filter (fun x => x.1 == "strconv.ErrRange") = [("strconv.ErrRange", Go.Proofs.YtlmgpkopcgcbgaaGreatDoor.Rows.laid_strconv_ErrRange)]) : ErrVars W :=
  ⟨errSyntax_of hL h1 rfl, errRange_of hL h2 rfl⟩
/-- All the tokens there are. -/
def allT (h : AH) : List Tok := (List.range h.nt).map fun t => .own t (h.ver t)
theorem allT_toks (h : AH) : Toks h (allT h) := by
  refine ⟨fun t ht => ?_, ?_⟩
  · obtain ⟨i, hi, rfl⟩ := List.mem_map.1 ht
    exact ⟨rfl, by simpa using hi⟩
  · refine List.Pairwise.map _ (R := fun a b => a ≠ b) (fun a b hab x hx hb => ?_) List.nodup_range
    have e1 : some a = some x := hx
    have e2 : some b = some x := hb
    exact hab (by simpa using e1.trans e2.symm)
theorem Ext.ofFr {h h' : AH} {S : List Tok} (f : Fr [] h h') (k : Toks h' (S ++ allT h)) : Ext h h' :=
  ⟨f.n, f.nt, fun i hi => f.o i hi (by simp), fun t ht => by
    have := k.u (.own t (h.ver t)) (List.mem_append_right _ (List.mem_map.2 ⟨t, by simpa using ht, rfl⟩))
    exact this.1.symm⟩
theorem newS_out (size rmax : Int) : (newS size rmax).out = [evSay (plainS 220)] := rfl
theorem newS_pop (size rmax : Int) : ({ newS size rmax with out := [] } : SV) = newS0 size rmax := rfl
theorem newS_in (size rmax : Int) (h1 : 1 ≤ size) (h2 : size ≤ 65536) : (newS size rmax).In 1 :=
  ⟨by show 1 + 0 + 0 ≤ 1; decide, by show 1 ≤ 1000000; decide, by constructor <;> (show _ ≤ _; unfold newS newS0 SV.say SV.put; dsimp only; omega), ⟨by show (0 : Int) ≤ 0; decide, by show (0 : Int) + ((0 : Nat) : Int) ≤ ((1 : Nat) : Int); decide⟩, by show 0 + 0 ≤ 1; decide, by show 0 + 0 + 0 ≤ 1; decide, fun e he => by
    rw [newS_out, List.mem_singleton] at he
    subst he
    decide, fun e he => (by cases he)⟩
theorem newS0_in (size rmax : Int) (h1 : 1 ≤ size) (h2 : size ≤ 65536) : (newS0 size rmax).In 1 := (newS_in size rmax h1 h2).pop (newS_out size rmax)
theorem verb_QUIT : verbS bQUIT = (0, (nQUIT, [], -1, false)) := by kernel_rfl
def ansS : SV := ({ newS0 99 2 with wait := [] } : SV).say 221
theorem answers06_call (hP : PowTab w0) (hE : ErrVars w0) (hM : MaxLen w0) (h : AH) : Call P w0 law06_answers [] h (fun v h' => v = .v (.bool true) ∧ h' = h) := by
  refine Call.gc (Q := fun v h' => v = .v (.bool true) ∧ Ext h h') ?_ fun v h' hq => ⟨hq.1 ▸ .v _, hq.2, hq.1⟩
  have hnew := fun h hT => snew_call (w0 := w0) hP 99 2 (allT h) h hT (by decide) (by decide) (by decide) (by decide)
  have s1 : Setl (newS 99 2) (newS 99 2) := .stop (.inl (by rw [newS_out]; simp))
  have i1 := newS_in 99 2 (by decide) (by decide)
  have i2 := (newS0_in 99 2 (by decide) (by decide)).feed (bQUIT ++ [13, 10])
  have e2 : (newS0 99 2).feed (bQUIT ++ [13, 10]) = { newS0 99 2 with wait := bQUIT ++ [13, 10] } := rfl
  have s2 : Setl ((newS0 99 2).feed (bQUIT ++ [13, 10])) ansS.shut := by
    rw [e2]
    refine .go rfl rfl rfl (a := bQUIT) (r := []) (by decide) ?_
    rw [take_cmd rfl (by decide) (by decide) (by decide) (by decide), command_ok verb_QUIT, dv_QUIT]
    exact .stop (.inl (by simp [ansS, SV.shut, SV.say, SV.put]))
  have o2 : ansS.shut.out = [evSay (plainS 221), evShut] := rfl
  have hnx1 := fun x ap tq tr tt tl R h1 H T => snext_call (w0 := w0) hP hE hM x _ _ ap tq tr tt tl R 1 h1 H T s1 i1 (by decide)
  have hfd := fun x ap tq tr tt tl tb R h1 H T => sfeed_call (w0 := w0) x (newS0 99 2) ap tq tr tt tl tb R (bQUIT ++ [13, 10]) h1 H T (by decide)
  have hnx2 := fun x ap tq tr tt tl R h1 H T => snext_call (w0 := w0) hP hE hM x _ _ ap tq tr tt tl R (1 + (bQUIT ++ [13, 10]).length) h1 H T s2 i2 (by decide)
  unfold NextP at hnx1 hnx2
  rw [newS_out] at hnx1
  rw [o2] at hnx2
  dsimp only at hnx1 hnx2
  unfold evSay erow at hnx1 hnx2
  rw [p220] at hnx1
  rw [p221] at hnx2
  dsimp only at hnx1 hnx2
  rw [newS_pop] at hnx1
  rw [show brows (bQUIT ++ [13, 10]) = [[.v (.int .u8 81)], [.v (.int .u8 85)], [.v (.int .u8 73)], [.v (.int .u8 84)], [.v (.int .u8 13)], [.v (.int .u8 10)]] from rfl] at hfd
  generalize (newS0 99 2).feed (bQUIT ++ [13, 10]) = A1 at *
  generalize newS0 99 2 = A0 at *
  generalize newS 99 2 = A2 at *
  clear s1 i1 i2 e2 s2 o2
  have da := drop_at
  have dn := drop_n
  refine Call.bodyF b_law06_answers rfl rfl ?_
  unfold c_law06_answers
  repeat' (first
| ((with_reducible apply opsF.op rfl); case hs => first | exact tHT | exact tHS)
| (with_reducible first | apply opsF.nil | apply seqF.nn | apply vcF.seq | apply vcF.region | apply vcF.skip | apply vcF.ret | apply seqF.r)
| ((with_reducible apply opsF.call); case hx => exact tAG)
| ((with_reducible apply opsF.want); (case hg => exact tEV); case hb => exact tNB)
| ((with_reducible apply opsF.skip); (case hg => exact tEV); case hb => exact tNB)
| (first | ((with_reducible apply opsF.case); case hg => exact tEV) | ((with_reducible apply vcF.cond); case hx => exact tEV)) <;> ((intro hc; try simp only [Int.reduceLT, Int.reduceLE, Int.reduceEq, Int.reduceNe, Int.cast_ofNat_Int, Int.reduceNeg, reduceCtorEq, ne_eq, ge_iff_le, gt_iff_lt, beq_iff_eq, beq_eq_false_iff_ne, bne_iff_ne, bne_eq_false_iff_eq, nrm, *] at hc) <;> try (exfalso; omega))
| ((with_reducible apply opsF.und); case hg => rfl)
| ((with_reducible first | apply retF.r | apply retF.nn); case hv => exact tRS)
| ((with_reducible apply opsF.op rfl); (case hs => exact is_cvb tEV tHE (by rfl)))
| ((refine (hnew _ (allT_toks _)).mono fun v h1 hp => ?_); obtain ⟨x, rfl, N1⟩ := hp; obtain ⟨ap, tq, tr, tt, tl, O1, T1⟩ := N1.o; have F1 := N1.e; have I1 := N1.f)
| ((refine (hnx1 x _ _ _ _ _ _ _ O1 T1).mono fun v h2 hp => ?_); obtain ⟨rfl, ⟨⟨ap2, tq2, tr2, tt2, tl2, O2, T2⟩, F2⟩⟩ := hp)
| ((refine (hfd x _ _ _ _ _ _ _ _ (O2.ext (by repeat' (first | exact Ext.refl _ | (refine Ext.set ?_ (by first | exact Nat.le_refl _ | (simp only [alloc_n, set_n]; omega) | (simp only [alloc_n, set_n, drop_n]; omega)) _) | (refine Ext.trans ?_ (Ext.alloc _ _)) | (refine Ext.drop ?_ (by first | exact Nat.le_refl _ | (simp only [alloc_n, set_n, drop_n]; omega)))))) (T2.ext (by repeat' (first | exact Ext.refl _ | (refine Ext.set ?_ (by first | exact Nat.le_refl _ | (simp only [alloc_n, set_n]; omega) | (simp only [alloc_n, set_n, drop_n]; omega)) _) | (refine Ext.trans ?_ (Ext.alloc _ _)) | (refine Ext.drop ?_ (by first | exact Nat.le_refl _ | (simp only [alloc_n, set_n, drop_n]; omega))))))).mono fun v h3 hp => ?_); obtain ⟨⟨ap3, tq3, tr3, tt3, tl3, O3, T3⟩, F3⟩ := hp; have oN := F3.o h2.n (by simp only [alloc_n, set_n, drop_n]; omega) (by have := O2.lt; simp [SK.ids]; omega); simp (disch := omega) only [drop_at, alloc_at, alloc_n, set_n, set_at, if_neg, if_pos, eq_self, if_true] at oN; have hN3 := F3.n; simp only [alloc_n, set_n, drop_n] at hN3)
| ((refine (hnx2 x _ _ _ _ _ _ _ O3 T3).mono fun v h4 hp => ?_); obtain ⟨rfl, ⟨⟨ap4, tq4, tr4, tt4, tl4, O4, T4⟩, F4⟩⟩ := hp; have oM := F4.o h2.n (by omega) (by have := O2.lt; simp [SK.ids]; omega); rw [oN] at oM; have hN4 := F4.n)
| fail)
  all_goals exact ⟨by simp, Ext.ofFr (S := [tq4, tr4, tt4, tl4]) ((Fr.fresh (Fr.fresh ((Fr.fresh F1 F2 I1).trans (Fr.ext (by repeat' (first | exact Ext.refl _ | (refine Ext.set ?_ (by first | exact Nat.le_refl _ | (simp only [alloc_n, set_n]; omega) | (simp only [alloc_n, set_n, drop_n]; omega)) _) | (refine Ext.trans ?_ (Ext.alloc _ _)) | (refine Ext.drop ?_ (by first | exact Nat.le_refl _ | (simp only [alloc_n, set_n, drop_n]; omega))))))) F3 I1) F4 I1).trans (Fr.ext (by repeat' (first | exact Ext.refl _ | (refine Ext.set ?_ (by first | exact Nat.le_refl _ | (simp only [alloc_n, set_n]; omega) | (simp only [alloc_n, set_n, drop_n]; omega)) _) | (refine Ext.trans ?_ (Ext.alloc _ _)) | (refine Ext.drop ?_ (by first | exact Nat.le_refl _ | (simp only [alloc_n, set_n, drop_n]; omega))))))) (T4.ext (by repeat' (first | exact Ext.refl _ | (refine Ext.set ?_ (by first | exact Nat.le_refl _ | (simp only [alloc_n, set_n]; omega) | (simp only [alloc_n, set_n, drop_n]; omega)) _) | (refine Ext.trans ?_ (Ext.alloc _ _)) | (refine Ext.drop ?_ (by first | exact Nat.le_refl _ | (simp only [alloc_n, set_n, drop_n]; omega))))))⟩
theorem law_ServeNone (W : World) (hs : W.ShapedOpen P) (hL : laidMetH P Go.Proofs.YtlmgpkopcgcbgaaGreatDoor.Rows.serveNoneRow.laid W) (x0 : (Ty.slice (.int .u8)).D) (h0 : (Ty.slice (.int .u8)).wf x0) (g0 : (Ty.slice (.int .u8)).fit 140737488351232 x0) (x1 : (Ty.int .i64).D) (h1 : (Ty.int .i64).wf x1) (g1 : (Ty.int .i64).fit 140737488351232 x1) :
    Call P W law06_ServeNone [(Ty.slice (.int .u8)).val x0, (Ty.int .i64).val x1] AH.start fun v _ => v = .v (.bool true) := by
  have ha := fun h => answers06_call (powTab_of hL (by kernel_rfl)) (errVars_of hL (by kernel_rfl) (by kernel_rfl)) (maxLen_of hs) h
  have n1 := fun b h => nsfeed_call (w0 := W) b h
  have n3 := fun h => nsnext_call (w0 := W) h
  have n4 := fun h => nsanswer_call (w0 := W) x1 h
  have n5 := fun h => nsover_call (w0 := W) h
  have e1 : (Ty.int .i64).val x1 = .v (.int .i64 x1) := rfl
  rw [e1]
  generalize (Ty.slice (.int .u8)).val x0 = X
  unfold ev0 at n3
  refine Call.bodyF b_law06_ServeNone rfl rfl ?_
  unfold c_law06_ServeNone
  repeat' (first
| ((with_reducible apply opsF.op rfl); case hs => first | exact tHT | exact tHS)
| (with_reducible first | apply opsF.nil | apply seqF.nn | apply vcF.seq | apply vcF.region | apply vcF.skip | apply vcF.ret | apply seqF.r)
| ((with_reducible apply opsF.call); case hx => exact tAG)
| ((with_reducible apply opsF.want); (case hg => exact tEV); case hb => exact tNB)
| ((with_reducible apply opsF.skip); (case hg => exact tEV); case hb => exact tNB)
| (first | ((with_reducible apply opsF.case); case hg => exact tEV) | ((with_reducible apply vcF.cond); case hx => exact tEV)) <;> ((intro hc; try simp only [Int.reduceLT, Int.reduceLE, Int.reduceEq, Int.reduceNe, Int.cast_ofNat_Int, Int.reduceNeg, reduceCtorEq, ne_eq, ge_iff_le, gt_iff_lt, beq_iff_eq, beq_eq_false_iff_ne, bne_iff_ne, bne_eq_false_iff_eq, nrm, *] at hc) <;> try (exfalso; omega))
| ((with_reducible apply opsF.und); case hg => rfl)
| ((with_reducible first | apply retF.r | apply retF.nn); case hv => exact tRS)
| ((refine Call.use (ha _) ?_))
| ((refine (n1 _ _).mono fun v h1 hp => ?_); obtain rfl := hp)
| ((refine (n3 _).mono fun v h3 hp => ?_); obtain ⟨rfl, E3⟩ := hp)
| ((refine Call.use (n4 _) ?_))
| ((refine Call.use (n5 _) ?_))
| fail)
  all_goals simp
end Go.Abs.F
