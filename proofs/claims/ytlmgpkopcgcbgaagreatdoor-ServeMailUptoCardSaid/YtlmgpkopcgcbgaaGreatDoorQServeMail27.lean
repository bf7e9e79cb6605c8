/- What the proof needs, part 27: Layer 6: what a program that does nothing does not answer; a session that is none; openers; Layer 6: ServeOrder's law; Layer 6: the document's bodies, lists of texts; Layer 6: ServeMail's law. -/
import Derived.Test.YtlmgpkopcgcbgaaGreatDoorQServeMail24
import Derived.Test.YtlmgpkopcgcbgaaGreatDoorQServeMail25
import Derived.Shelf.Vars
import Derived.Test.YtlmgpkopcgcbgaaGreatDoorRows
import Derived.Test.YtlmgpkopcgcbgaaGreatDoorQServeMail26
/- Layer 6: what a program that does nothing does not answer; a session that is none; openers. -/
namespace Go.Abs.F
open Go Go.Abs
set_option maxRecDepth 10000
set_option maxHeartbeats 20000000
set_option linter.unusedSimpArgs false
set_option linter.unusedVariables false
variable {w0 : World}
theorem maxLen_of {W : World} (h : W.ShapedOpen P) : MaxLen W :=
  Go.Proofs.cell_of_shapedOpen_int (zero := #[.int .i64 0]) (t := 3) h (by decide +kernel) (by kernel_rfl) (by kernel_rfl) (by kernel_rfl) (by kernel_rfl) (by kernel_rfl)
theorem errVars_of {l : List (String × DataW Unit)} {W : World} (hL : laidMetH P l W) (h1 : l.filter (fun x => x.1 == "strconv.ErrSyntax") = [("strconv.ErrSyntax", Go.Proofs.YtlmgpkopcgcbgaaGreatDoor.Rows.laid_strconv_ErrSyntax)]) (h2 : l.filter (fun x => x.1 == "strconv.ErrRange") = [("strconv.ErrRange", Go.Proofs.YtlmgpkopcgcbgaaGreatDoor.Rows.laid_strconv_ErrRange)]) : ErrVars W :=
  ⟨errSyntax_of hL h1 rfl, errRange_of hL h2 rfl⟩
/-- All the tokens there are. -/
def allT (h : AH) : List Tok := (List.range h.nt).map fun t => .own t (h.ver t)
theorem allT_toks (h : AH) : Toks h (allT h) := by
  refine ⟨fun t ht => ?_, ?_⟩
  · obtain ⟨i, hi, rfl⟩ := List.mem_map.1 ht
    exact ⟨rfl, by simpa using hi⟩
  · refine List.Pairwise.map _ (R := fun a b => a ≠ b) (fun a b hab x hx hb => ?_) List.nodup_range
    have e1 : some a = some x := hx
    have e2 : some b = some x := hb
    exact hab (by simpa using e1.trans e2.symm)
theorem Ext.ofFr {h h' : AH} {S : List Tok} (f : Fr [] h h') (k : Toks h' (S ++ allT h)) : Ext h h' :=
  ⟨f.n, f.nt, fun i hi => f.o i hi (by simp), fun t ht => by
    have := k.u (.own t (h.ver t)) (List.mem_append_right _ (List.mem_map.2 ⟨t, by simpa using ht, rfl⟩))
    exact this.1.symm⟩
theorem newS_out (size rmax : Int) : (newS size rmax).out = [evSay (plainS 220)] := rfl
theorem newS_pop (size rmax : Int) : ({ newS size rmax with out := [] } : SV) = newS0 size rmax := rfl
theorem newS_in (size rmax : Int) (h1 : 1 ≤ size) (h2 : size ≤ 65536) : (newS size rmax).In 1 :=
  ⟨by show 1 + 0 + 0 ≤ 1; decide, by show 1 ≤ 1000000; decide, by constructor <;> (show _ ≤ _; unfold newS newS0 SV.say SV.put; dsimp only; omega), ⟨by show (0 : Int) ≤ 0; decide, by show (0 : Int) + ((0 : Nat) : Int) ≤ ((1 : Nat) : Int); decide⟩, by show 0 + 0 ≤ 1; decide, by show 0 + 0 + 0 ≤ 1; decide, fun e he => by
    rw [newS_out, List.mem_singleton] at he
    subst he
    decide, fun e he => (by cases he)⟩
theorem newS0_in (size rmax : Int) (h1 : 1 ≤ size) (h2 : size ≤ 65536) : (newS0 size rmax).In 1 := (newS_in size rmax h1 h2).pop (newS_out size rmax)
theorem verb_QUIT : verbS bQUIT = (0, (nQUIT, [], -1, false)) := by kernel_rfl
def ansS : SV := ({ newS0 99 2 with wait := [] } : SV).say 221
theorem answers06_call (hP : PowTab w0) (hE : ErrVars w0) (hM : MaxLen w0) (h : AH) : Call P w0 law06_answers [] h (fun v h' => v = .v (.bool true) ∧ h' = h) := by
  refine Call.gc (Q := fun v h' => v = .v (.bool true) ∧ Ext h h') ?_ fun v h' hq => ⟨hq.1 ▸ .v _, hq.2, hq.1⟩
  have hnew := fun h hT => snew_call (w0 := w0) hP 99 2 (allT h) h hT (by decide) (by decide) (by decide) (by decide)
  have s1 : Setl (newS 99 2) (newS 99 2) := .stop (.inl (by rw [newS_out]; simp))
  have i1 := newS_in 99 2 (by decide) (by decide)
  have i2 := (newS0_in 99 2 (by decide) (by decide)).feed (bQUIT ++ [13, 10])
  have e2 : (newS0 99 2).feed (bQUIT ++ [13, 10]) = { newS0 99 2 with wait := bQUIT ++ [13, 10] } := rfl
  have s2 : Setl ((newS0 99 2).feed (bQUIT ++ [13, 10])) ansS.shut := by
    rw [e2]
    refine .go rfl rfl rfl (a := bQUIT) (r := []) (by decide) ?_
    rw [take_cmd rfl (by decide) (by decide) (by decide) (by decide), command_ok verb_QUIT, dv_QUIT]
    exact .stop (.inl (by simp [ansS, SV.shut, SV.say, SV.put]))
  have o2 : ansS.shut.out = [evSay (plainS 221), evShut] := rfl
  have hnx1 := fun x ap tq tr tt tl R h1 H T => snext_call (w0 := w0) hP hE hM x _ _ ap tq tr tt tl R 1 h1 H T s1 i1 (by decide)
  have hfd := fun x ap tq tr tt tl tb R h1 H T => sfeed_call (w0 := w0) x (newS0 99 2) ap tq tr tt tl tb R (bQUIT ++ [13, 10]) h1 H T (by decide)
  have hnx2 := fun x ap tq tr tt tl R h1 H T => snext_call (w0 := w0) hP hE hM x _ _ ap tq tr tt tl R (1 + (bQUIT ++ [13, 10]).length) h1 H T s2 i2 (by decide)
  unfold NextP at hnx1 hnx2
  rw [newS_out] at hnx1
  rw [o2] at hnx2
  dsimp only at hnx1 hnx2
  unfold evSay erow at hnx1 hnx2
  rw [p220] at hnx1
  rw [p221] at hnx2
  dsimp only at hnx1 hnx2
  rw [newS_pop] at hnx1
  rw [show brows (bQUIT ++ [13, 10]) = [[.v (.int .u8 81)], [.v (.int .u8 85)], [.v (.int .u8 73)], [.v (.int .u8 84)], [.v (.int .u8 13)], [.v (.int .u8 10)]] from rfl] at hfd
  generalize (newS0 99 2).feed (bQUIT ++ [13, 10]) = A1 at *
  generalize newS0 99 2 = A0 at *
  generalize newS 99 2 = A2 at *
  clear s1 i1 i2 e2 s2 o2
  have da := drop_at
  have dn := drop_n
  refine Call.bodyF b_law06_answers rfl rfl ?_
  unfold c_law06_answers
  repeat' (first
| ((with_reducible apply opsF.op rfl); case hs => first | exact tHT | exact tHS)
| (with_reducible first | apply opsF.nil | apply seqF.nn | apply vcF.seq | apply vcF.region | apply vcF.skip | apply vcF.ret | apply seqF.r)
| ((with_reducible apply opsF.call); case hx => exact tAG)
| ((with_reducible apply opsF.want); (case hg => exact tEV); case hb => exact tNB)
| ((with_reducible apply opsF.skip); (case hg => exact tEV); case hb => exact tNB)
| (first | ((with_reducible apply opsF.case); case hg => exact tEV) | ((with_reducible apply vcF.cond); case hx => exact tEV)) <;> ((intro hc; try simp only [Int.reduceLT, Int.reduceLE, Int.reduceEq, Int.reduceNe, Int.cast_ofNat_Int, Int.reduceNeg, reduceCtorEq, ne_eq, ge_iff_le, gt_iff_lt, beq_iff_eq, beq_eq_false_iff_ne, bne_iff_ne, bne_eq_false_iff_eq, nrm, *] at hc) <;> try (exfalso; omega))
| ((with_reducible apply opsF.und); case hg => rfl)
| ((with_reducible first | apply retF.r | apply retF.nn); case hv => exact tRS)
| ((with_reducible apply opsF.op rfl); (case hs => exact is_cvb tEV tHE (by rfl)))
| ((refine (hnew _ (allT_toks _)).mono fun v h1 hp => ?_); obtain ⟨x, rfl, N1⟩ := hp; obtain ⟨ap, tq, tr, tt, tl, O1, T1⟩ := N1.o; have F1 := N1.e; have I1 := N1.f)
| ((refine (hnx1 x _ _ _ _ _ _ _ O1 T1).mono fun v h2 hp => ?_); obtain ⟨rfl, ⟨⟨ap2, tq2, tr2, tt2, tl2, O2, T2⟩, F2⟩⟩ := hp)
| ((refine (hfd x _ _ _ _ _ _ _ _ (O2.ext (by repeat' (first | exact Ext.refl _ | (refine Ext.set ?_ (by first | exact Nat.le_refl _ | (simp only [alloc_n, set_n]; omega) | (simp only [alloc_n, set_n, drop_n]; omega)) _) | (refine Ext.trans ?_ (Ext.alloc _ _)) | (refine Ext.drop ?_ (by first | exact Nat.le_refl _ | (simp only [alloc_n, set_n, drop_n]; omega)))))) (T2.ext (by repeat' (first | exact Ext.refl _ | (refine Ext.set ?_ (by first | exact Nat.le_refl _ | (simp only [alloc_n, set_n]; omega) | (simp only [alloc_n, set_n, drop_n]; omega)) _) | (refine Ext.trans ?_ (Ext.alloc _ _)) | (refine Ext.drop ?_ (by first | exact Nat.le_refl _ | (simp only [alloc_n, set_n, drop_n]; omega))))))).mono fun v h3 hp => ?_); obtain ⟨⟨ap3, tq3, tr3, tt3, tl3, O3, T3⟩, F3⟩ := hp; have oN := F3.o h2.n (by simp only [alloc_n, set_n, drop_n]; omega) (by have := O2.lt; simp [SK.ids]; omega); simp (disch := omega) only [drop_at, alloc_at, alloc_n, set_n, set_at, if_neg, if_pos, eq_self, if_true] at oN; have hN3 := F3.n; simp only [alloc_n, set_n, drop_n] at hN3)
| ((refine (hnx2 x _ _ _ _ _ _ _ O3 T3).mono fun v h4 hp => ?_); obtain ⟨rfl, ⟨⟨ap4, tq4, tr4, tt4, tl4, O4, T4⟩, F4⟩⟩ := hp; have oM := F4.o h2.n (by omega) (by have := O2.lt; simp [SK.ids]; omega); rw [oN] at oM; have hN4 := F4.n)
| fail)
  all_goals exact ⟨by simp, Ext.ofFr (S := [tq4, tr4, tt4, tl4]) ((Fr.fresh (Fr.fresh ((Fr.fresh F1 F2 I1).trans (Fr.ext (by repeat' (first | exact Ext.refl _ | (refine Ext.set ?_ (by first | exact Nat.le_refl _ | (simp only [alloc_n, set_n]; omega) | (simp only [alloc_n, set_n, drop_n]; omega)) _) | (refine Ext.trans ?_ (Ext.alloc _ _)) | (refine Ext.drop ?_ (by first | exact Nat.le_refl _ | (simp only [alloc_n, set_n, drop_n]; omega))))))) F3 I1) F4 I1).trans (Fr.ext (by repeat' (first | exact Ext.refl _ | (refine Ext.set ?_ (by first | exact Nat.le_refl _ | (simp only [alloc_n, set_n]; omega) | (simp only [alloc_n, set_n, drop_n]; omega)) _) | (refine Ext.trans ?_ (Ext.alloc _ _)) | (refine Ext.drop ?_ (by first | exact Nat.le_refl _ | (simp only [alloc_n, set_n, drop_n]; omega))))))) (T4.ext (by repeat' (first | exact Ext.refl _ | (refine Ext.set ?_ (by first | exact Nat.le_refl _ | (simp only [alloc_n, set_n]; omega) | (simp only [alloc_n, set_n, drop_n]; omega)) _) | (refine Ext.trans ?_ (Ext.alloc _ _)) | (refine Ext.drop ?_ (by first | exact Nat.le_refl _ | (simp only [alloc_n, set_n, drop_n]; omega))))))⟩
end Go.Abs.F
/- Layer 6: ServeOrder's law. -/
namespace Go.Abs.F
open Go Go.Abs
set_option maxRecDepth 60000
set_option maxHeartbeats 20000000
set_option linter.unusedSimpArgs false
set_option linter.unusedVariables false
variable {w0 : World}
end Go.Abs.F
/- Layer 6: the document's bodies, lists of texts. -/
namespace Go.Abs.F
open Go Go.Abs
set_option maxRecDepth 10000
set_option maxHeartbeats 20000000
set_option linter.unusedSimpArgs false
set_option linter.unusedVariables false
variable {w0 : World}
/-- A line of a body as it goes. -/
def stuffL (x : L8) : L8 := if x.head? = some 46 then 46 :: x else x
theorem stuff_cons (x : L8) (l : List L8) : stuffGo (x :: l) = stuffL x ++ [13, 10] ++ stuffGo l := by
  rw [stuffGo, stuffL]
  by_cases h : x.head? = some 46
  · rw [if_pos h, if_pos h]; simp
  · rw [if_neg h, if_neg h]; simp
theorem stuffL_len (x : L8) : (stuffL x).length ≤ x.length + 1 := by unfold stuffL; split <;> simp
theorem stuff_len : ∀ l : List L8, (stuffGo l).length ≤ 2 * bsizeS l + 3
  | [] => by simp [stuffGo]
  | x :: l => by
    have h1 := stuff_len l
    have h2 := stuffL_len x
    rw [stuff_cons]
    simp only [List.length_append, List.length_cons, List.length_nil, bsizeS]
    omega
theorem stuff_drop {l : List L8} {i : Nat} {x : L8} (hx : l[i]? = some x) : stuffGo (l.drop i) = stuffL x ++ [13, 10] ++ stuffGo (l.drop (i + 1)) := by
  rw [drop_step hx, stuff_cons]
theorem body_size {l : List L8} (h : bodyS l = true) : bsizeS l ≤ 65536 := by
  simp only [bodyS, Bool.and_eq_true, decide_eq_true_eq] at h
  exact h.2
theorem bsize_ge : ∀ l : List L8, 2 * l.length ≤ bsizeS l
  | [] => by simp [bsizeS]
  | x :: l => by have := bsize_ge l; simp only [bsizeS, List.length_cons]; omega
theorem stuff_take {l : List L8} {i : Nat} {x : L8} (hx : l[i]? = some x) {pre : L8} (h : pre ++ stuffGo (l.drop i) = stuffGo l) : (pre ++ stuffL x ++ [13, 10]) ++ stuffGo (l.drop (i + 1)) = stuffGo l := by
  rw [← h, stuff_drop hx]; simp
theorem rstuff_call (l : List L8) (tok : Tok) (h : AH) (hb : bodyS l = true) : Call P w0 ref01_Stuff [.list 1 (srows l) tok] h (fun v h' => v = .v (.string (bs (stuffGo l))) ∧ h' = h) := by
  have xl := srows_len
  have xg := srows_get
  have m1 := srows_len l
  have hsz := body_size hb
  have hsl := stuff_len l
  have hlen := bsize_ge l
  refine Call.bodyF b_ref01_Stuff rfl rfl ?_
  unfold c_ref01_Stuff
  repeat' (first
| ((with_reducible apply opsF.op rfl); case hs => first | exact tHT | exact tHS)
| (with_reducible first | apply opsF.nil | apply seqF.nn | apply vcF.seq | apply vcF.region | apply vcF.skip | apply vcF.block | apply vcF.exit | apply vcF.ret | apply vcF.loop | apply seqF.e | apply seqF.r | apply blkF.nn | apply blkF.e | apply blkF.r | apply blkF.o rfl)
| ((with_reducible apply opsF.call); case hx => exact tAG)
| ((with_reducible apply opsF.want); (case hg => exact tEV); case hb => exact tNB)
| ((with_reducible apply opsF.skip); (case hg => exact tEV); case hb => exact tNB)
| (first | ((with_reducible apply opsF.case); case hg => exact tEV) | ((with_reducible apply vcF.cond); case hx => exact tEV)) <;> ((intro hc; try simp only [Int.reduceLT, Int.reduceLE, Int.reduceEq, Int.reduceNe, Int.cast_ofNat_Int, Int.reduceNeg, reduceCtorEq, ne_eq, ge_iff_le, gt_iff_lt, beq_iff_eq, beq_eq_false_iff_ne, bne_iff_ne, bne_eq_false_iff_eq, nrm, *] at hc) <;> try (exfalso; omega))
| ((with_reducible apply opsF.und); case hg => rfl)
| ((with_reducible first | apply retF.r | apply retF.nn); case hv => exact tRS))
  refine LpF.ind rfl (fun i : Nat => l.length - i) (fun i σ hh => ∃ pre : L8, hh = h ∧ σ 0 = .list 1 (srows l) tok ∧ σ 3 = .v (.string (bs pre)) ∧ σ 4 = .v (.int .i64 (i : Nat)) ∧ i ≤ l.length ∧ pre ++ stuffGo (l.drop i) = stuffGo l) ?_ (i := 0) ⟨[], rfl, rfl, rfl, rfl, Nat.zero_le _, rfl⟩
  rintro i σ hh ⟨pre, rfl, g0, g3, g4, hi, hS⟩
  have hpl := congrArg List.length hS
  simp only [List.length_append] at hpl
  rcases Nat.lt_or_ge i l.length with hlt | hge
  · obtain ⟨x, hx⟩ : ∃ x, l[i]? = some x := ⟨_, List.getElem?_eq_getElem hlt⟩
    have rx : (srows l)[i]? = some [.v (.string (bs x))] := by rw [srows_get, hx]; rfl
    have hS2 := stuff_take hx hS
    rw [stuff_drop hx] at hpl
    simp only [List.length_append, List.length_cons, List.length_nil] at hpl
    have hxl : x.length ≤ (stuffL x).length := by unfold stuffL; split <;> simp
    clear hS
    generalize hsx : (stuffL x).length = sx at *
    cases x with
    | nil =>
      rw [show stuffL [] = [] from rfl] at hS2
      repeat' (first
| ((with_reducible apply opsF.op rfl); case hs => first | exact tHT | exact tHS)
| (with_reducible first | apply opsF.nil | apply seqF.nn | apply vcF.seq | apply vcF.region | apply vcF.skip | apply vcF.block | apply vcF.exit | apply vcF.ret | apply vcF.loop | apply seqF.e | apply seqF.r | apply blkF.nn | apply blkF.e | apply blkF.r | apply blkF.o rfl)
| ((with_reducible apply opsF.call); case hx => exact tAG)
| ((with_reducible apply opsF.want); (case hg => exact tEV); case hb => exact tNB)
| ((with_reducible apply opsF.skip); (case hg => exact tEV); case hb => exact tNB)
| (first | ((with_reducible apply opsF.case); case hg => exact tEV) | ((with_reducible apply vcF.cond); case hx => exact tEV)) <;> ((intro hc; try simp only [Int.reduceLT, Int.reduceLE, Int.reduceEq, Int.reduceNe, Int.cast_ofNat_Int, Int.reduceNeg, reduceCtorEq, ne_eq, ge_iff_le, gt_iff_lt, beq_iff_eq, beq_eq_false_iff_ne, bne_iff_ne, bne_eq_false_iff_eq, nrm, *] at hc) <;> try (exfalso; omega))
| ((with_reducible apply opsF.und); case hg => rfl)
| ((with_reducible first | apply retF.r | apply retF.nn); case hv => exact tRS))
      all_goals exact ⟨i + 1, by omega, _, rfl, g0, rfl, rfl, by omega, by first | exact hS2 | (rw [← hS2]; simp)⟩
    | cons c r =>
      simp only [List.length_cons] at hxl
      clear hsx
      by_cases hd : c = 46
      · subst hd
        rw [show stuffL (46 :: r) = 46 :: 46 :: r from rfl] at hS2
        have h46 : (((46 : UInt8).toNat : Nat) : Int) = 46 := rfl
        repeat' (first
| ((with_reducible apply opsF.op rfl); case hs => first | exact tHT | exact tHS)
| (with_reducible first | apply opsF.nil | apply seqF.nn | apply vcF.seq | apply vcF.region | apply vcF.skip | apply vcF.block | apply vcF.exit | apply vcF.ret | apply vcF.loop | apply seqF.e | apply seqF.r | apply blkF.nn | apply blkF.e | apply blkF.r | apply blkF.o rfl)
| ((with_reducible apply opsF.call); case hx => exact tAG)
| ((with_reducible apply opsF.want); (case hg => exact tEV); case hb => exact tNB)
| ((with_reducible apply opsF.skip); (case hg => exact tEV); case hb => exact tNB)
| (first | ((with_reducible apply opsF.case); case hg => exact tEV) | ((with_reducible apply vcF.cond); case hx => exact tEV)) <;> ((intro hc; try simp only [Int.reduceLT, Int.reduceLE, Int.reduceEq, Int.reduceNe, Int.cast_ofNat_Int, Int.reduceNeg, reduceCtorEq, ne_eq, ge_iff_le, gt_iff_lt, beq_iff_eq, beq_eq_false_iff_ne, bne_iff_ne, bne_eq_false_iff_eq, nrm, *] at hc) <;> try (exfalso; omega))
| ((with_reducible apply opsF.und); case hg => rfl)
| ((with_reducible first | apply retF.r | apply retF.nn); case hv => exact tRS))
        all_goals exact ⟨i + 1, by omega, _, rfl, g0, rfl, rfl, by omega, by first | exact hS2 | (rw [← hS2]; simp)⟩
      · rw [show stuffL (c :: r) = c :: r by unfold stuffL; rw [if_neg (by simpa using hd)]] at hS2
        have hn : ¬ ((c.toNat : Nat) : Int) = 46 := fun e => hd (u8_is (y := 46) e)
        repeat' (first
| ((with_reducible apply opsF.op rfl); case hs => first | exact tHT | exact tHS)
| (with_reducible first | apply opsF.nil | apply seqF.nn | apply vcF.seq | apply vcF.region | apply vcF.skip | apply vcF.block | apply vcF.exit | apply vcF.ret | apply vcF.loop | apply seqF.e | apply seqF.r | apply blkF.nn | apply blkF.e | apply blkF.r | apply blkF.o rfl)
| ((with_reducible apply opsF.call); case hx => exact tAG)
| ((with_reducible apply opsF.want); (case hg => exact tEV); case hb => exact tNB)
| ((with_reducible apply opsF.skip); (case hg => exact tEV); case hb => exact tNB)
| (first | ((with_reducible apply opsF.case); case hg => exact tEV) | ((with_reducible apply vcF.cond); case hx => exact tEV)) <;> ((intro hc; try simp only [Int.reduceLT, Int.reduceLE, Int.reduceEq, Int.reduceNe, Int.cast_ofNat_Int, Int.reduceNeg, reduceCtorEq, ne_eq, ge_iff_le, gt_iff_lt, beq_iff_eq, beq_eq_false_iff_ne, bne_iff_ne, bne_eq_false_iff_eq, nrm, *] at hc) <;> try (exfalso; omega))
| ((with_reducible apply opsF.und); case hg => rfl)
| ((with_reducible first | apply retF.r | apply retF.nn); case hv => exact tRS))
        all_goals exact ⟨i + 1, by omega, _, rfl, g0, rfl, rfl, by omega, by first | exact hS2 | (rw [← hS2]; simp)⟩
  · obtain rfl : i = l.length := by omega
    rw [List.drop_length] at hS
    have hS3 : pre ++ [46, 13, 10] = stuffGo l := hS
    rw [← hS3]
    clear hS hS3
    repeat' (first
| ((with_reducible apply opsF.op rfl); case hs => first | exact tHT | exact tHS)
| (with_reducible first | apply opsF.nil | apply seqF.nn | apply vcF.seq | apply vcF.region | apply vcF.skip | apply vcF.block | apply vcF.exit | apply vcF.ret | apply vcF.loop | apply seqF.e | apply seqF.r | apply blkF.nn | apply blkF.e | apply blkF.r | apply blkF.o rfl)
| ((with_reducible apply opsF.call); case hx => exact tAG)
| ((with_reducible apply opsF.want); (case hg => exact tEV); case hb => exact tNB)
| ((with_reducible apply opsF.skip); (case hg => exact tEV); case hb => exact tNB)
| (first | ((with_reducible apply opsF.case); case hg => exact tEV) | ((with_reducible apply vcF.cond); case hx => exact tEV)) <;> ((intro hc; try simp only [Int.reduceLT, Int.reduceLE, Int.reduceEq, Int.reduceNe, Int.cast_ofNat_Int, Int.reduceNeg, reduceCtorEq, ne_eq, ge_iff_le, gt_iff_lt, beq_iff_eq, beq_eq_false_iff_ne, bne_iff_ne, bne_eq_false_iff_eq, nrm, *] at hc) <;> try (exfalso; omega))
| ((with_reducible apply opsF.und); case hg => rfl)
| ((with_reducible first | apply retF.r | apply retF.nn); case hv => exact tRS))
    all_goals exact ⟨rfl, rfl⟩
theorem texts_call (a b : List (List UInt8)) (ta tb : Tok) (h : AH) (hl : a.length ≤ 1000000000000) : Call P w0 ref01_Texts [.list 1 (srows a) ta, .list 1 (srows b) tb] h (fun v h' => v = .v (.bool (decide (a = b))) ∧ h' = h) := by
  have xl := srows_len
  have xg := srows_get
  refine Call.bodyF b_ref01_Texts rfl rfl ?_
  unfold c_ref01_Texts
  repeat' (first
| ((with_reducible apply opsF.op rfl); case hs => first | exact tHT | exact tHS)
| (with_reducible first | apply opsF.nil | apply seqF.nn | apply vcF.seq | apply vcF.region | apply vcF.skip | apply vcF.block | apply vcF.exit | apply vcF.ret | apply vcF.loop | apply seqF.e | apply seqF.r | apply blkF.nn | apply blkF.e | apply blkF.r | apply blkF.o rfl)
| ((with_reducible apply opsF.call); case hx => exact tAG)
| ((with_reducible apply vcF.cond); case hx => exact tEV) <;> ((intro hc; try simp only [Int.reduceLT, Int.reduceLE, Int.reduceEq, Int.reduceNe, Int.cast_ofNat_Int, Int.reduceNeg, reduceCtorEq, ne_eq, ge_iff_le, gt_iff_lt, beq_iff_eq, beq_eq_false_iff_ne, bne_iff_ne, bne_eq_false_iff_eq, nrm, *] at hc) <;> try (exfalso; omega))
| ((with_reducible first | apply retF.r | apply retF.nn); case hv => exact tRS))
  · have : a ≠ b := by rintro rfl; simp at *
    simp [this]
  · refine LpF.ind rfl (fun i : Nat => a.length - i) (fun i σ h' => h' = h ∧ σ 0 = .list 1 (srows a) ta ∧ σ 1 = .list 1 (srows b) tb ∧ σ 5 = .v (.int .i64 (i : Nat)) ∧ i ≤ a.length ∧ a.take i = b.take i) ?_ (i := 0) ⟨rfl, rfl, rfl, rfl, Nat.zero_le _, rfl⟩
    rintro i σ h' ⟨rfl, h0, h1, h5, hi, he⟩
    have hlen : a.length = b.length := by omega
    rcases Nat.lt_or_ge i a.length with hlt | hge
    · have ha : a[i]? = some a[i] := List.getElem?_eq_getElem hlt
      have hb : b[i]? = some (b[i]'(by omega)) := List.getElem?_eq_getElem (by omega)
      repeat' (first
| ((with_reducible apply opsF.op rfl); case hs => first | exact tHT | exact tHS)
| (with_reducible first | apply opsF.nil | apply seqF.nn | apply vcF.seq | apply vcF.region | apply vcF.skip | apply vcF.block | apply vcF.exit | apply vcF.ret | apply vcF.loop | apply seqF.e | apply seqF.r | apply blkF.nn | apply blkF.e | apply blkF.r | apply blkF.o rfl)
| ((with_reducible apply opsF.call); case hx => exact tAG)
| ((with_reducible apply vcF.cond); case hx => exact tEV) <;> ((intro hc; try simp only [Int.reduceLT, Int.reduceLE, Int.reduceEq, Int.reduceNe, Int.cast_ofNat_Int, Int.reduceNeg, reduceCtorEq, ne_eq, ge_iff_le, gt_iff_lt, beq_iff_eq, beq_eq_false_iff_ne, bne_iff_ne, bne_eq_false_iff_eq, nrm, *] at hc) <;> try (exfalso; omega))
| ((with_reducible first | apply retF.r | apply retF.nn); case hv => exact tRS))
      · have : a ≠ b := by rintro rfl; simp at *
        simp [this]
      · refine ⟨i + 1, by omega, rfl, by assumption, by assumption, ?_, by omega, ?_⟩
        · exact rfl
        · rw [List.take_add_one, List.take_add_one, he, ha, hb, hc]
    · have : i = a.length := by omega
      subst this
      repeat' (first
| ((with_reducible apply opsF.op rfl); case hs => first | exact tHT | exact tHS)
| (with_reducible first | apply opsF.nil | apply seqF.nn | apply vcF.seq | apply vcF.region | apply vcF.skip | apply vcF.block | apply vcF.exit | apply vcF.ret | apply vcF.loop | apply seqF.e | apply seqF.r | apply blkF.nn | apply blkF.e | apply blkF.r | apply blkF.o rfl)
| ((with_reducible apply opsF.call); case hx => exact tAG)
| ((with_reducible apply vcF.cond); case hx => exact tEV) <;> ((intro hc; try simp only [Int.reduceLT, Int.reduceLE, Int.reduceEq, Int.reduceNe, Int.cast_ofNat_Int, Int.reduceNeg, reduceCtorEq, ne_eq, ge_iff_le, gt_iff_lt, beq_iff_eq, beq_eq_false_iff_ne, bne_iff_ne, bne_eq_false_iff_eq, nrm, *] at hc) <;> try (exfalso; omega))
| ((with_reducible first | apply retF.r | apply retF.nn); case hv => exact tRS))
      have : a = b := by
        rw [List.take_length, hlen, List.take_length] at he
        exact he
      simp [this]
end Go.Abs.F
/- Layer 6: ServeMail's law. -/
namespace Go.Abs.F
open Go Go.Abs
set_option maxRecDepth 60000
set_option maxHeartbeats 20000000
set_option linter.unusedSimpArgs false
set_option linter.unusedVariables false
variable {w0 : World}
theorem rpath_pure (s : L8) (h : AH) (hl : s.length ≤ 1000000000) : Call P w0 ref01_Path [.v (.string (bs s))] h (fun v h' => v = optV (pathO s) ∧ h' = h) := by
  refine Call.gc (rpath_call s h hl) fun v h' hq => ⟨?_, hq.2, hq.1⟩
  rw [hq.1]
  cases pathO s with
  | none => exact .tup fun j hj => (by match j, hj with | 0, _ => exact .v _ | 1, _ => exact .v _)
  | some x => exact .tup fun j hj => (by match j, hj with | 0, _ => exact .v _ | 1, _ => exact .v _)
theorem rcptB_app : ∀ (l : List (L8 × L8)) (p c : L8), rcptB (l ++ [(p, c)]) = rcptB l ++ (cTO ++ p ++ [13, 10])
  | [], p, c => by simp [rcptB]
  | (q, d) :: l, p, c => by
    rw [List.cons_append, rcptB, rcptB, rcptB_app l p c]
    simp
/-- A path in its brackets. -/
def inB (s : L8) : L8 := [60] ++ s ++ [62]
/-- What is told ahead of the recipients. -/
def preM (frm : L8) : L8 := [69, 72, 76, 79, 32, 120, 13, 10] ++ [77, 65, 73, 76, 32, 70, 82, 79, 77, 58, 60] ++ frm ++ [62, 13, 10]
/-- In the loop. -/
structure MaI (frm f : L8) (rcpts body : List L8) (l : List (L8 × L8)) (i : Nat) (σ : Fm) (hh : AH) : Prop where
  l1 : ∀ x ∈ l, pathO x.1 = some x.2 ∧ x.2 ≠ [] ∧ x.1.length ≤ 400
  l2 : l.length = i
  g : ∃ tok, σ 10 = .list 1 (srows (l.map (·.2))) tok ∧ Toks hh [tok]
  g0 : σ 0 = .v (.string (bs frm))
  g1 : σ 1 = .list 1 (srows rcpts) .no
  g2 : σ 2 = .list 1 (srows body) .no
  g7 : σ 7 = .v (.string (bs (preM frm ++ rcptB l)))
  g8 : σ 8 = .v (.string (bs f))
  g11 : σ 11 = .v (.int .i64 (i : Nat))
  len : ((preM frm ++ rcptB l).length : Int) ≤ 1000 + 400 * (i : Int)
theorem serveMail_main (hP : PowTab w0) (hE : ErrVars w0) (hM : MaxLen w0) (frm : L8) (rcpts body : List L8) (hfl : frm.length ≤ 140737488351232) (hrl : rcpts.length ≤ 140737488351232) (hrs : ∀ s ∈ rcpts, s.length ≤ 100000000) (hl : body.length ≤ 140737488351232) (hls : ∀ s ∈ body, s.length ≤ 140737488351232) :
    Call P w0 law06_ServeMail [.v (.string (bs frm)), .list 1 (srows rcpts) .no, .list 1 (srows body) .no] AH.start (fun v _ => v = .v (.bool true)) := by
  have ha := fun h => answers06_call (w0 := w0) hP hE hM h
  have hgo := fun h => rgood_call (w0 := w0) body .no h hl hls
  have xl := srows_len rcpts
  have xg := srows_get rcpts
  by_cases hg : 1 ≤ (rcpts.length : Int) ∧ (rcpts.length : Int) ≤ 20 ∧ (frm.length : Int) ≤ 200
  · obtain ⟨g1, g2, g3⟩ := hg
    have hpa := fun h => rpath_pure (w0 := w0) (inB frm) h (by simp [inB]; omega)
    unfold inB at hpa
    refine Call.bodyF b_law06_ServeMail rfl rfl ?_
    unfold c_law06_ServeMail
    cases hb : bodyS body with
    | false =>
      rw [hb] at hgo
      clear hpa
      repeat' (first
| ((with_reducible apply opsF.op rfl); case hs => first | exact tHT | exact tHS)
| (with_reducible first | apply opsF.nil | apply seqF.nn | apply vcF.seq | apply vcF.region | apply vcF.skip | apply vcF.block | apply vcF.exit | apply vcF.ret | apply vcF.loop | apply seqF.e | apply seqF.r | apply blkF.nn | apply blkF.e | apply blkF.r | apply blkF.o rfl)
| ((with_reducible apply opsF.call); case hx => exact tAG)
| ((with_reducible apply opsF.want); (case hg => exact tEV); case hb => exact tNB)
| ((with_reducible apply opsF.skip); (case hg => exact tEV); case hb => exact tNB)
| (first | ((with_reducible apply opsF.case); case hg => exact tEV) | ((with_reducible apply vcF.cond); case hx => exact tEV)) <;> ((intro hc; try simp only [Int.reduceLT, Int.reduceLE, Int.reduceEq, Int.reduceNe, Int.cast_ofNat_Int, Int.reduceNeg, reduceCtorEq, ne_eq, ge_iff_le, gt_iff_lt, beq_iff_eq, beq_eq_false_iff_ne, bne_iff_ne, bne_eq_false_iff_eq, nrm, *] at hc) <;> try (exfalso; omega))
| ((with_reducible apply opsF.und); case hg => rfl)
| ((with_reducible first | apply retF.r | apply retF.nn); case hv => exact tRS)
| ((refine Call.use (ha _) ?_))
| ((refine Call.use (hgo _) ?_))
| fail)
      all_goals rfl
    | true =>
      rw [hb] at hgo
      cases hp : pathO (inB frm) with
      | none =>
        unfold inB at hp
        rw [hp] at hpa
        unfold optV at hpa
        dsimp only at hpa
        repeat' (first
| ((with_reducible apply opsF.op rfl); case hs => first | exact tHT | exact tHS)
| (with_reducible first | apply opsF.nil | apply seqF.nn | apply vcF.seq | apply vcF.region | apply vcF.skip | apply vcF.block | apply vcF.exit | apply vcF.ret | apply vcF.loop | apply seqF.e | apply seqF.r | apply blkF.nn | apply blkF.e | apply blkF.r | apply blkF.o rfl)
| ((with_reducible apply opsF.call); case hx => exact tAG)
| ((with_reducible apply opsF.want); (case hg => exact tEV); case hb => exact tNB)
| ((with_reducible apply opsF.skip); (case hg => exact tEV); case hb => exact tNB)
| (first | ((with_reducible apply opsF.case); case hg => exact tEV) | ((with_reducible apply vcF.cond); case hx => exact tEV)) <;> ((intro hc; try simp only [Int.reduceLT, Int.reduceLE, Int.reduceEq, Int.reduceNe, Int.cast_ofNat_Int, Int.reduceNeg, reduceCtorEq, ne_eq, ge_iff_le, gt_iff_lt, beq_iff_eq, beq_eq_false_iff_ne, bne_iff_ne, bne_eq_false_iff_eq, nrm, *] at hc) <;> try (exfalso; omega))
| ((with_reducible apply opsF.und); case hg => rfl)
| ((with_reducible first | apply retF.r | apply retF.nn); case hv => exact tRS)
| ((refine Call.use (ha _) ?_))
| ((refine Call.use (hgo _) ?_))
| ((refine Call.use (hpa _) ?_))
| fail)
        all_goals rfl
      | some f =>
        have hp2 := hp
        unfold inB at hp2
        rw [hp2] at hpa
        unfold optV at hpa
        dsimp only at hpa
        have hbz := body_size hb
        have hsl := stuff_len body
        have hbl := bsize_ge body
        clear hls
        repeat' (first
| ((with_reducible apply opsF.op rfl); case hs => first | exact tHT | exact tHS)
| (with_reducible first | apply opsF.nil | apply seqF.nn | apply vcF.seq | apply vcF.region | apply vcF.skip | apply vcF.block | apply vcF.exit | apply vcF.ret | apply vcF.loop | apply seqF.e | apply seqF.r | apply blkF.nn | apply blkF.e | apply blkF.r | apply blkF.o rfl)
| ((with_reducible apply opsF.call); case hx => exact tAG)
| ((with_reducible apply opsF.want); (case hg => exact tEV); case hb => exact tNB)
| ((with_reducible apply opsF.skip); (case hg => exact tEV); case hb => exact tNB)
| (first | ((with_reducible apply opsF.case); case hg => exact tEV) | ((with_reducible apply vcF.cond); case hx => exact tEV)) <;> ((intro hc; try simp only [Int.reduceLT, Int.reduceLE, Int.reduceEq, Int.reduceNe, Int.cast_ofNat_Int, Int.reduceNeg, reduceCtorEq, ne_eq, ge_iff_le, gt_iff_lt, beq_iff_eq, beq_eq_false_iff_ne, bne_iff_ne, bne_eq_false_iff_eq, nrm, *] at hc) <;> try (exfalso; omega))
| ((with_reducible apply opsF.und); case hg => rfl)
| ((with_reducible first | apply retF.r | apply retF.nn); case hv => exact tRS)
| ((refine Call.use (hgo _) ?_))
| ((refine Call.use (hpa _) ?_))
| fail)
        refine LpF.ind rfl (fun i : Nat => rcpts.length - i) (fun i σ hh => ∃ l, MaI frm f rcpts body l i σ hh ∧ i ≤ rcpts.length) ?_ (i := 0) ⟨[], ⟨by simp, rfl, ⟨.full, rfl, (Toks.nil _).full⟩, rfl, rfl, rfl, by rw [show preM frm ++ rcptB [] = preM frm from List.append_nil _]; rfl, rfl, rfl, by simp [preM, rcptB]; omega⟩, Nat.zero_le _⟩
        clear hgo hpa hp2
        rintro i σ hh ⟨l, ⟨l1, l2, ⟨tok, g10, T⟩, q0, q1, q2, q7, q8, q11, hlen⟩, hi⟩
        rcases Nat.lt_or_ge i rcpts.length with hlt | hge
        · obtain ⟨r, hr⟩ : ∃ r, rcpts[i]? = some r := ⟨_, List.getElem?_eq_getElem hlt⟩
          have hrr := hrs r (List.mem_of_getElem? hr)
          have hpr := fun h => rpath_pure (w0 := w0) (inB r) h (by simp [inB]; omega)
          obtain ⟨S, hS⟩ : ∃ S, S = preM frm ++ rcptB l := ⟨_, rfl⟩
          rw [← hS] at q7 hlen
          have hln : ((inB r).length : Int) = (r.length : Int) + 2 := by simp [inB]; omega
          cases hpo : pathO (inB r) with
          | none =>
            rw [hpo] at hpr
            unfold inB optV at hpr
            dsimp only at hpr
            clear T
            repeat' (first
| ((with_reducible apply opsF.op rfl); case hs => first | exact tHT | exact tHS)
| (with_reducible first | apply opsF.nil | apply seqF.nn | apply vcF.seq | apply vcF.region | apply vcF.skip | apply vcF.block | apply vcF.exit | apply vcF.ret | apply vcF.loop | apply seqF.e | apply seqF.r | apply blkF.nn | apply blkF.e | apply blkF.r | apply blkF.o rfl)
| ((with_reducible apply opsF.call); case hx => exact tAG)
| ((with_reducible apply opsF.want); (case hg => exact tEV); case hb => exact tNB)
| ((with_reducible apply opsF.skip); (case hg => exact tEV); case hb => exact tNB)
| (first | ((with_reducible apply opsF.case); case hg => exact tEV) | ((with_reducible apply vcF.cond); case hx => exact tEV)) <;> ((intro hc; try simp only [Int.reduceLT, Int.reduceLE, Int.reduceEq, Int.reduceNe, Int.cast_ofNat_Int, Int.reduceNeg, reduceCtorEq, ne_eq, ge_iff_le, gt_iff_lt, beq_iff_eq, beq_eq_false_iff_ne, bne_iff_ne, bne_eq_false_iff_eq, nrm, *] at hc) <;> try (exfalso; omega))
| ((with_reducible apply opsF.und); case hg => rfl)
| ((with_reducible first | apply retF.r | apply retF.nn); case hv => exact tRS)
| ((refine Call.use (ha _) ?_))
| ((refine Call.use (hpr _) ?_))
| fail)
            all_goals rfl
          | some c =>
            rw [hpo] at hpr
            unfold inB optV at hpr
            dsimp only at hpr
            by_cases hc0 : c = []
            · subst hc0
              clear T
              repeat' (first
| ((with_reducible apply opsF.op rfl); case hs => first | exact tHT | exact tHS)
| (with_reducible first | apply opsF.nil | apply seqF.nn | apply vcF.seq | apply vcF.region | apply vcF.skip | apply vcF.block | apply vcF.exit | apply vcF.ret | apply vcF.loop | apply seqF.e | apply seqF.r | apply blkF.nn | apply blkF.e | apply blkF.r | apply blkF.o rfl)
| ((with_reducible apply opsF.call); case hx => exact tAG)
| ((with_reducible apply opsF.want); (case hg => exact tEV); case hb => exact tNB)
| ((with_reducible apply opsF.skip); (case hg => exact tEV); case hb => exact tNB)
| (first | ((with_reducible apply opsF.case); case hg => exact tEV) | ((with_reducible apply vcF.cond); case hx => exact tEV)) <;> ((intro hc; try simp only [Int.reduceLT, Int.reduceLE, Int.reduceEq, Int.reduceNe, Int.cast_ofNat_Int, Int.reduceNeg, reduceCtorEq, ne_eq, ge_iff_le, gt_iff_lt, beq_iff_eq, beq_eq_false_iff_ne, bne_iff_ne, bne_eq_false_iff_eq, nrm, *] at hc) <;> try (exfalso; omega))
| ((with_reducible apply opsF.und); case hg => rfl)
| ((with_reducible first | apply retF.r | apply retF.nn); case hv => exact tRS)
| ((refine Call.use (ha _) ?_))
| ((refine Call.use (hpr _) ?_))
| fail)
              all_goals rfl
            · have pc : (c = []) = False := eq_false hc0
              by_cases hr3 : (r.length : Int) ≤ 300
              · obtain ⟨tok', h2, hap, T2, e4, e5, e6⟩ := T.app
                have e7 : preM frm ++ rcptB (l ++ [(inB r, c)]) = ((S ++ [82, 67, 80, 84, 32, 84, 79, 58, 60]) ++ r) ++ [62, 13, 10] := by rw [rcptB_app, hS]; simp [inB, cTO]
                have e8 : srows ((l ++ [(inB r, c)]).map (·.2)) = srows (l.map (·.2)) ++ [[.v (.string (bs c))]] := by rw [List.map_append, srows_app]; rfl
                have e9 : ((srows (l.map (·.2))).length : Int) = (i : Int) := by rw [srows_len, List.length_map, l2]
                clear T hS
                repeat' (first
| ((with_reducible apply opsF.op rfl); (case hs => exact is_app (r := [.v (.string (bs c))]) (new := []) tEV tEV rfl hap (by simp only [List.length_nil]; omega) rfl))
| ((with_reducible apply opsF.op rfl); case hs => first | exact tHT | exact tHS)
| (with_reducible first | apply opsF.nil | apply seqF.nn | apply vcF.seq | apply vcF.region | apply vcF.skip | apply vcF.block | apply vcF.exit | apply vcF.ret | apply vcF.loop | apply seqF.e | apply seqF.r | apply blkF.nn | apply blkF.e | apply blkF.r | apply blkF.o rfl)
| ((with_reducible apply opsF.call); case hx => exact tAG)
| ((with_reducible apply opsF.want); (case hg => exact tEV); case hb => exact tNB)
| ((with_reducible apply opsF.skip); (case hg => exact tEV); case hb => exact tNB)
| (first | ((with_reducible apply opsF.case); case hg => exact tEV) | ((with_reducible apply vcF.cond); case hx => exact tEV)) <;> ((intro hc; try simp only [Int.reduceLT, Int.reduceLE, Int.reduceEq, Int.reduceNe, Int.cast_ofNat_Int, Int.reduceNeg, reduceCtorEq, ne_eq, ge_iff_le, gt_iff_lt, beq_iff_eq, beq_eq_false_iff_ne, bne_iff_ne, bne_eq_false_iff_eq, nrm, *] at hc) <;> try (exfalso; omega))
| ((with_reducible apply opsF.und); case hg => rfl)
| ((with_reducible first | apply retF.r | apply retF.nn); case hv => exact tRS)
| ((refine Call.use (hpr _) ?_))
| fail)
                all_goals exact ⟨i + 1, by omega, l ++ [(inB r, c)], ⟨by
                  intro x hx
                  rcases List.mem_append.1 hx with hx | hx
                  · exact l1 x hx
                  · rw [List.mem_singleton.1 hx]; exact ⟨hpo, hc0, by dsimp only; omega⟩, by rw [List.length_append, l2]; rfl, ⟨tok', by rw [e8]; rfl, T2⟩, q0, q1, q2, by rw [e7]; rfl, q8, rfl, by rw [e7]; simp only [List.length_append, List.length_cons, List.length_nil]; omega⟩, by omega⟩
              · clear T
                repeat' (first
| ((with_reducible apply opsF.op rfl); case hs => first | exact tHT | exact tHS)
| (with_reducible first | apply opsF.nil | apply seqF.nn | apply vcF.seq | apply vcF.region | apply vcF.skip | apply vcF.block | apply vcF.exit | apply vcF.ret | apply vcF.loop | apply seqF.e | apply seqF.r | apply blkF.nn | apply blkF.e | apply blkF.r | apply blkF.o rfl)
| ((with_reducible apply opsF.call); case hx => exact tAG)
| ((with_reducible apply opsF.want); (case hg => exact tEV); case hb => exact tNB)
| ((with_reducible apply opsF.skip); (case hg => exact tEV); case hb => exact tNB)
| (first | ((with_reducible apply opsF.case); case hg => exact tEV) | ((with_reducible apply vcF.cond); case hx => exact tEV)) <;> ((intro hc; try simp only [Int.reduceLT, Int.reduceLE, Int.reduceEq, Int.reduceNe, Int.cast_ofNat_Int, Int.reduceNeg, reduceCtorEq, ne_eq, ge_iff_le, gt_iff_lt, beq_iff_eq, beq_eq_false_iff_ne, bne_iff_ne, bne_eq_false_iff_eq, nrm, *] at hc) <;> try (exfalso; omega))
| ((with_reducible apply opsF.und); case hg => rfl)
| ((with_reducible first | apply retF.r | apply retF.nn); case hv => exact tRS)
| ((refine Call.use (ha _) ?_))
| ((refine Call.use (hpr _) ?_))
| fail)
                all_goals rfl
        · obtain rfl : i = rcpts.length := by omega
          obtain ⟨S, hS⟩ : ∃ S, S = preM frm ++ rcptB l := ⟨_, rfl⟩
          rw [← hS] at q7 hlen
          obtain ⟨n, o, t, ra, hn, ho⟩ := mail_runs hp (by simp [inB]; omega) l l1 (by omega) (by intro e; rw [e] at l2; simp at l2; omega) body hb
          have e1 : cEHLO ++ [13, 10] ++ (cFROM ++ inB frm ++ [13, 10]) ++ rcptB l ++ (cDATA ++ [13, 10]) ++ stuffGo body ++ (bQUIT ++ [13, 10]) = ((S ++ [68, 65, 84, 65, 13, 10]) ++ stuffGo body) ++ [81, 85, 73, 84, 13, 10] := by rw [hS]; simp [preM, inB, cEHLO, cFROM, cDATA, bQUIT]
          rw [e1] at ra
          have hst := fun h => rstuff_call (w0 := w0) body .no h hb
          have hnew := fun h hT => snew_call (w0 := w0) hP 65536 20 [tok] h hT (by decide) (by decide) (by decide) (by decide)
          have hdr := fun x ap tq tr tt tl tb R h1 H T => sdrive_call (w0 := w0) hP hE hM x _ _ ap tq tr tt tl tb R 1 n _ _ _ h1 H T (newS_in 65536 20 (by decide) (by decide)) (by simp only [List.length_append, List.length_cons, List.length_nil]; omega) ra (by omega) (by omega)
          have ht1 := fun ta tb h => texts_call (w0 := w0) (l.map (·.2)) (l.map (·.2)) ta tb h (by rw [List.length_map]; omega)
          have ht2 := fun ta tb h => texts_call (w0 := w0) body body ta tb h (by omega)
          rw [show decide (l.map (·.2) = l.map (·.2)) = true from decide_eq_true rfl] at ht1
          rw [show decide (body = body) = true from decide_eq_true rfl] at ht2
          rw [show mrows [(⟨f, l.map (·.2), body⟩ : ML)] = [[.v (.string (bs f)), .list 1 (srows (l.map (·.2))) .no, .list 1 (srows body) .no]] from rfl] at hdr
          clear ra e1 hn ho l1 hb hp hS
          generalize stuffGo body = sg at *
          generalize l.map (·.2) = tg at *
          generalize newS 65536 20 = A0 at *
          repeat' (first
| ((with_reducible apply opsF.op rfl); case hs => first | exact tHT | exact tHS)
| (with_reducible first | apply opsF.nil | apply seqF.nn | apply vcF.seq | apply vcF.region | apply vcF.skip | apply vcF.block | apply vcF.exit | apply vcF.ret | apply vcF.loop | apply seqF.e | apply seqF.r | apply blkF.nn | apply blkF.e | apply blkF.r | apply blkF.o rfl)
| ((with_reducible apply opsF.call); case hx => exact tAG)
| ((with_reducible apply opsF.want); (case hg => exact tEV); case hb => exact tNB)
| ((with_reducible apply opsF.skip); (case hg => exact tEV); case hb => exact tNB)
| (first | ((with_reducible apply opsF.case); case hg => exact tEV) | ((with_reducible apply vcF.cond); case hx => exact tEV)) <;> ((intro hc; try simp only [Int.reduceLT, Int.reduceLE, Int.reduceEq, Int.reduceNe, Int.cast_ofNat_Int, Int.reduceNeg, reduceCtorEq, ne_eq, ge_iff_le, gt_iff_lt, beq_iff_eq, beq_eq_false_iff_ne, bne_iff_ne, bne_eq_false_iff_eq, nrm, *] at hc) <;> try (exfalso; omega))
| ((with_reducible apply opsF.und); case hg => rfl)
| ((with_reducible first | apply retF.r | apply retF.nn); case hv => exact tRS)
| ((refine Call.use (ha _) ?_))
| ((refine Call.use (hst _) ?_))
| ((refine Call.use (ht1 _ _ _) ?_))
| ((refine Call.use (ht2 _ _ _) ?_))
| ((refine (hnew _ T).mono fun v h1 hp => ?_); obtain ⟨x, rfl, N1⟩ := hp; obtain ⟨ap, tq, tr, tt, tl, O1, T1⟩ := N1.o)
| ((refine (hdr x _ _ _ _ _ _ _ _ O1 T1).mono fun v h2 hp => ?_); obtain ⟨tm, rfl, ⟨⟨ap2, tq2, tr2, tt2, tl2, O2, T2⟩, F2⟩⟩ := hp)
| fail)
          all_goals rfl
  · have hpa := fun hl h => rpath_pure (w0 := w0) (inB frm) h hl
    unfold inB at hpa
    refine Call.bodyF b_law06_ServeMail rfl rfl ?_
    unfold c_law06_ServeMail
    by_cases hf : (frm.length : Int) ≤ 300
    · have hpb := fun h => hpa (by simp only [List.length_append, List.length_cons, List.length_nil]; omega) h
      clear hpa hls
      cases hp : pathO ([60] ++ frm ++ [62]) with
      | none =>
        rw [hp] at hpb
        unfold optV at hpb
        dsimp only at hpb
        repeat' (first
| ((with_reducible apply opsF.op rfl); case hs => first | exact tHT | exact tHS)
| (with_reducible first | apply opsF.nil | apply seqF.nn | apply vcF.seq | apply vcF.region | apply vcF.skip | apply vcF.block | apply vcF.exit | apply vcF.ret | apply vcF.loop | apply seqF.e | apply seqF.r | apply blkF.nn | apply blkF.e | apply blkF.r | apply blkF.o rfl)
| ((with_reducible apply opsF.call); case hx => exact tAG)
| ((with_reducible apply opsF.want); (case hg => exact tEV); case hb => exact tNB)
| ((with_reducible apply opsF.skip); (case hg => exact tEV); case hb => exact tNB)
| (first | ((with_reducible apply opsF.case); case hg => exact tEV) | ((with_reducible apply vcF.cond); case hx => exact tEV)) <;> ((intro hc; try simp only [Int.reduceLT, Int.reduceLE, Int.reduceEq, Int.reduceNe, Int.cast_ofNat_Int, Int.reduceNeg, reduceCtorEq, ne_eq, ge_iff_le, gt_iff_lt, beq_iff_eq, beq_eq_false_iff_ne, bne_iff_ne, bne_eq_false_iff_eq, nrm, *] at hc) <;> try (exfalso; omega))
| ((with_reducible apply opsF.und); case hg => rfl)
| ((with_reducible first | apply retF.r | apply retF.nn); case hv => exact tRS)
| ((refine Call.use (ha _) ?_))
| ((refine Call.use (hgo _) ?_))
| ((refine Call.use (hpb _) ?_))
| fail)
        all_goals first | rfl | (exfalso; omega)
      | some f =>
        rw [hp] at hpb
        unfold optV at hpb
        dsimp only at hpb
        repeat' (first
| ((with_reducible apply opsF.op rfl); case hs => first | exact tHT | exact tHS)
| (with_reducible first | apply opsF.nil | apply seqF.nn | apply vcF.seq | apply vcF.region | apply vcF.skip | apply vcF.block | apply vcF.exit | apply vcF.ret | apply vcF.loop | apply seqF.e | apply seqF.r | apply blkF.nn | apply blkF.e | apply blkF.r | apply blkF.o rfl)
| ((with_reducible apply opsF.call); case hx => exact tAG)
| ((with_reducible apply opsF.want); (case hg => exact tEV); case hb => exact tNB)
| ((with_reducible apply opsF.skip); (case hg => exact tEV); case hb => exact tNB)
| (first | ((with_reducible apply opsF.case); case hg => exact tEV) | ((with_reducible apply vcF.cond); case hx => exact tEV)) <;> ((intro hc; try simp only [Int.reduceLT, Int.reduceLE, Int.reduceEq, Int.reduceNe, Int.cast_ofNat_Int, Int.reduceNeg, reduceCtorEq, ne_eq, ge_iff_le, gt_iff_lt, beq_iff_eq, beq_eq_false_iff_ne, bne_iff_ne, bne_eq_false_iff_eq, nrm, *] at hc) <;> try (exfalso; omega))
| ((with_reducible apply opsF.und); case hg => rfl)
| ((with_reducible first | apply retF.r | apply retF.nn); case hv => exact tRS)
| ((refine Call.use (ha _) ?_))
| ((refine Call.use (hgo _) ?_))
| ((refine Call.use (hpb _) ?_))
| fail)
        all_goals first | rfl | (exfalso; omega)
    · clear hpa hls
      repeat' (first
| ((with_reducible apply opsF.op rfl); case hs => first | exact tHT | exact tHS)
| (with_reducible first | apply opsF.nil | apply seqF.nn | apply vcF.seq | apply vcF.region | apply vcF.skip | apply vcF.block | apply vcF.exit | apply vcF.ret | apply vcF.loop | apply seqF.e | apply seqF.r | apply blkF.nn | apply blkF.e | apply blkF.r | apply blkF.o rfl)
| ((with_reducible apply opsF.call); case hx => exact tAG)
| ((with_reducible apply opsF.want); (case hg => exact tEV); case hb => exact tNB)
| ((with_reducible apply opsF.skip); (case hg => exact tEV); case hb => exact tNB)
| (first | ((with_reducible apply opsF.case); case hg => exact tEV) | ((with_reducible apply vcF.cond); case hx => exact tEV)) <;> ((intro hc; try simp only [Int.reduceLT, Int.reduceLE, Int.reduceEq, Int.reduceNe, Int.cast_ofNat_Int, Int.reduceNeg, reduceCtorEq, ne_eq, ge_iff_le, gt_iff_lt, beq_iff_eq, beq_eq_false_iff_ne, bne_iff_ne, bne_eq_false_iff_eq, nrm, *] at hc) <;> try (exfalso; omega))
| ((with_reducible apply opsF.und); case hg => rfl)
| ((with_reducible first | apply retF.r | apply retF.nn); case hv => exact tRS)
| ((refine Call.use (ha _) ?_))
| ((refine Call.use (hgo _) ?_))
| fail)
      all_goals first | rfl | (exfalso; omega)
theorem sum_bd {f : L8 → Nat} (hf : ∀ x, x.length + 1 ≤ f x) : ∀ l : List L8, l.length ≤ sumBy f l ∧ ∀ x ∈ l, x.length ≤ sumBy f l
  | [] => ⟨Nat.zero_le _, fun x hx => (by cases hx)⟩
  | a :: l => by
    obtain ⟨h1, h2⟩ := sum_bd hf l
    have h3 := hf a
    rw [sumBy]
    refine ⟨by rw [List.length_cons]; omega, fun x hx => ?_⟩
    rcases List.mem_cons.1 hx with rfl | hx
    · omega
    · have := h2 x hx; omega
theorem strs_blk (l : (Ty.slice .str).D) (hb : (Ty.slice .str).blk l ≤ 1048576) : ∃ t : List L8, (Ty.slice .str).val l = .list 1 (srows t) .no ∧ t.length ≤ 1048576 ∧ ∀ x ∈ t, x.length ≤ 1048576 := by
  have hb : sumBy Ty.str.blk l + 1 ≤ 1048576 := hb
  have q := sum_bd (f := Ty.str.blk) (fun x => Nat.le_refl _) l
  have q1 : List.length l ≤ sumBy Ty.str.blk l := q.1
  exact ⟨l, rfl, Nat.le_trans q1 (Nat.le_of_succ_le hb), fun x hx => Nat.le_trans (q.2 x hx) (Nat.le_of_succ_le hb)⟩
theorem law_ServeMailUpto (W : World) (hs : W.ShapedOpen P) (hL : laidMetH P Go.Proofs.YtlmgpkopcgcbgaaGreatDoor.Rows.serveMailUptoRow.laid W) (x0 : Ty.str.D) (h0 : Ty.str.wf x0) (x1 : (Ty.slice .str).D) (h1 : (Ty.slice .str).wf x1) (x2 : (Ty.slice .str).D) (h2 : (Ty.slice .str).wf x2)
    (hb : Ty.str.blk x0 + (Ty.slice .str).blk x1 + (Ty.slice .str).blk x2 ≤ 1048576) :
    Call P W law06_ServeMail [Ty.str.val x0, (Ty.slice .str).val x1, (Ty.slice .str).val x2] AH.start fun v _ => v = .v (.bool true) := by
  obtain ⟨t1, e1, l1, m1⟩ := strs_blk x1 (by omega)
  obtain ⟨t2, e2, l2, m2⟩ := strs_blk x2 (by omega)
  have l0 : List.length x0 + 1 ≤ 1048576 := by
    have e0 : Ty.str.blk x0 = List.length x0 + 1 := rfl
    omega
  rw [e1, e2]
  exact serveMail_main (powTab_of hL (by kernel_rfl)) (errVars_of hL (by kernel_rfl) (by kernel_rfl)) (maxLen_of hs) x0 t1 t2 (by omega) (by omega) (fun s hs => by have := m1 s hs; omega) (by omega) (fun s hs => by have := m2 s hs; omega)
end Go.Abs.F
