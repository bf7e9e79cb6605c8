/- What the proof needs, part 24: Layer 6: what a program that does nothing does not answer; a session that is none; openers; Layer 6: ServeOrder's law; Layer 6: the document's bodies, lists of texts; Layer 6: ServeSizes' law. -/
import Derived.Test.YtlmgpkopcgcbgaaGreatDoorQServeSizes22
import Derived.Test.YtlmgpkopcgcbgaaGreatDoorQServeSizes23
import Derived.Shelf.Vars
import Derived.Test.YtlmgpkopcgcbgaaGreatDoorRows
/- Layer 6: what a program that does nothing does not answer; a session that is none; openers. -/
namespace Go.Abs.F
open Go Go.Abs
set_option maxRecDepth 10000
set_option maxHeartbeats 20000000
set_option linter.unusedSimpArgs false
set_option linter.unusedVariables false
variable {w0 : World}
theorem maxLen_of {W : World} (h : W.ShapedOpen P) : MaxLen W :=
  Go.Proofs.cell_of_shapedOpen_int (zero := #[.int .i64 0]) (t := 3) h (by decide +kernel) (by kernel_rfl) (by kernel_rfl) (by kernel_rfl) (by kernel_rfl) (by kernel_rfl)
theorem errVars_of {l : List (String × DataW Unit)} {W : World} (hL : laidMetH P l W) (h1 : l.filter (fun x => x.1 == "strconv.ErrSyntax") = [("strconv.ErrSyntax", Go.Proofs.YtlmgpkopcgcbgaaGreatDoor.Rows.laid_strconv_ErrSyntax)]) (h2 : l.filter (fun x => x.1 == "strconv.ErrRange") = [("strconv.ErrRange", Go.Proofs.YtlmgpkopcgcbgaaGreatDoor.Rows.laid_strconv_ErrRange)]) : ErrVars W :=
  ⟨errSyntax_of hL h1 rfl, errRange_of hL h2 rfl⟩
/-- All the tokens there are. -/
def allT (h : AH) : List Tok := (List.range h.nt).map fun t => .own t (h.ver t)
theorem allT_toks (h : AH) : Toks h (allT h) := by
  refine ⟨fun t ht => ?_, ?_⟩
  · obtain ⟨i, hi, rfl⟩ := List.mem_map.1 ht
    exact ⟨rfl, by simpa using hi⟩
  · refine List.Pairwise.map _ (R := fun a b => a ≠ b) (fun a b hab x hx hb => ?_) List.nodup_range
    have e1 : some a = some x := hx
    have e2 : some b = some x := hb
    exact hab (by simpa using e1.trans e2.symm)
theorem Ext.ofFr {h h' : AH} {S : List Tok} (f : Fr [] h h') (k : Toks h' (S ++ allT h)) : Ext h h' :=
  ⟨f.n, f.nt, fun i hi => f.o i hi (by simp), fun t ht => by
    have := k.u (.own t (h.ver t)) (List.mem_append_right _ (List.mem_map.2 ⟨t, by simpa using ht, rfl⟩))
    exact this.1.symm⟩
theorem strs_mem (l : (Ty.slice .str).D) (hf : (Ty.slice .str).fit 140737488351232 l) : ∃ t : List L8, (Ty.slice .str).val l = .list 1 (srows t) .no ∧ t.length ≤ 140737488351232 ∧ ∀ x ∈ t, x.length ≤ 140737488351232 :=
  ⟨l, rfl, hf.1, hf.2⟩

theorem newS_out (size rmax : Int) : (newS size rmax).out = [evSay (plainS 220)] := rfl
theorem newS_pop (size rmax : Int) : ({ newS size rmax with out := [] } : SV) = newS0 size rmax := rfl
theorem newS_in (size rmax : Int) (h1 : 1 ≤ size) (h2 : size ≤ 65536) : (newS size rmax).In 1 :=
  ⟨by show 1 + 0 + 0 ≤ 1; decide, by show 1 ≤ 1000000; decide, by constructor <;> (show _ ≤ _; unfold newS newS0 SV.say SV.put; dsimp only; omega), ⟨by show (0 : Int) ≤ 0; decide, by show (0 : Int) + ((0 : Nat) : Int) ≤ ((1 : Nat) : Int); decide⟩, by show 0 + 0 ≤ 1; decide, by show 0 + 0 + 0 ≤ 1; decide, fun e he => by
    rw [newS_out, List.mem_singleton] at he
    subst he
    decide, fun e he => (by cases he)⟩
theorem newS0_in (size rmax : Int) (h1 : 1 ≤ size) (h2 : size ≤ 65536) : (newS0 size rmax).In 1 := (newS_in size rmax h1 h2).pop (newS_out size rmax)
theorem verb_QUIT : verbS bQUIT = (0, (nQUIT, [], -1, false)) := by kernel_rfl
def ansS : SV := ({ newS0 99 2 with wait := [] } : SV).say 221
theorem answers06_call (hP : PowTab w0) (hE : ErrVars w0) (hM : MaxLen w0) (h : AH) : Call P w0 law06_answers [] h (fun v h' => v = .v (.bool true) ∧ h' = h) := by
  refine Call.gc (Q := fun v h' => v = .v (.bool true) ∧ Ext h h') ?_ fun v h' hq => ⟨hq.1 ▸ .v _, hq.2, hq.1⟩
  have hnew := fun h hT => snew_call (w0 := w0) hP 99 2 (allT h) h hT (by decide) (by decide) (by decide) (by decide)
  have s1 : Setl (newS 99 2) (newS 99 2) := .stop (.inl (by rw [newS_out]; simp))
  have i1 := newS_in 99 2 (by decide) (by decide)
  have i2 := (newS0_in 99 2 (by decide) (by decide)).feed (bQUIT ++ [13, 10])
  have e2 : (newS0 99 2).feed (bQUIT ++ [13, 10]) = { newS0 99 2 with wait := bQUIT ++ [13, 10] } := rfl
  have s2 : Setl ((newS0 99 2).feed (bQUIT ++ [13, 10])) ansS.shut := by
    rw [e2]
    refine .go rfl rfl rfl (a := bQUIT) (r := []) (by decide) ?_
    rw [take_cmd rfl (by decide) (by decide) (by decide) (by decide), command_ok verb_QUIT, dv_QUIT]
    exact .stop (.inl (by simp [ansS, SV.shut, SV.say, SV.put]))
  have o2 : ansS.shut.out = [evSay (plainS 221), evShut] := rfl
  have hnx1 := fun x ap tq tr tt tl R h1 H T => snext_call (w0 := w0) hP hE hM x _ _ ap tq tr tt tl R 1 h1 H T s1 i1 (by decide)
  have hfd := fun x ap tq tr tt tl tb R h1 H T => sfeed_call (w0 := w0) x (newS0 99 2) ap tq tr tt tl tb R (bQUIT ++ [13, 10]) h1 H T (by decide)
  have hnx2 := fun x ap tq tr tt tl R h1 H T => snext_call (w0 := w0) hP hE hM x _ _ ap tq tr tt tl R (1 + (bQUIT ++ [13, 10]).length) h1 H T s2 i2 (by decide)
  unfold NextP at hnx1 hnx2
  rw [newS_out] at hnx1
  rw [o2] at hnx2
  dsimp only at hnx1 hnx2
  unfold evSay erow at hnx1 hnx2
  rw [p220] at hnx1
  rw [p221] at hnx2
  dsimp only at hnx1 hnx2
  rw [newS_pop] at hnx1
  rw [show brows (bQUIT ++ [13, 10]) = [[.v (.int .u8 81)], [.v (.int .u8 85)], [.v (.int .u8 73)], [.v (.int .u8 84)], [.v (.int .u8 13)], [.v (.int .u8 10)]] from rfl] at hfd
  generalize (newS0 99 2).feed (bQUIT ++ [13, 10]) = A1 at *
  generalize newS0 99 2 = A0 at *
  generalize newS 99 2 = A2 at *
  clear s1 i1 i2 e2 s2 o2
  have da := drop_at
  have dn := drop_n
  refine Call.bodyF b_law06_answers rfl rfl ?_
  unfold c_law06_answers
  repeat' (first
| ((with_reducible apply opsF.op rfl); case hs => first | exact tHT | exact tHS)
| (with_reducible first | apply opsF.nil | apply seqF.nn | apply vcF.seq | apply vcF.region | apply vcF.skip | apply vcF.ret | apply seqF.r)
| ((with_reducible apply opsF.call); case hx => exact tAG)
| ((with_reducible apply opsF.want); (case hg => exact tEV); case hb => exact tNB)
| ((with_reducible apply opsF.skip); (case hg => exact tEV); case hb => exact tNB)
| (first | ((with_reducible apply opsF.case); case hg => exact tEV) | ((with_reducible apply vcF.cond); case hx => exact tEV)) <;> ((intro hc; try simp only [Int.reduceLT, Int.reduceLE, Int.reduceEq, Int.reduceNe, Int.cast_ofNat_Int, Int.reduceNeg, reduceCtorEq, ne_eq, ge_iff_le, gt_iff_lt, beq_iff_eq, beq_eq_false_iff_ne, bne_iff_ne, bne_eq_false_iff_eq, nrm, *] at hc) <;> try (exfalso; omega))
| ((with_reducible apply opsF.und); case hg => rfl)
| ((with_reducible first | apply retF.r | apply retF.nn); case hv => exact tRS)
| ((with_reducible apply opsF.op rfl); (case hs => exact is_cvb tEV tHE (by rfl)))
| ((refine (hnew _ (allT_toks _)).mono fun v h1 hp => ?_); obtain ⟨x, rfl, N1⟩ := hp; obtain ⟨ap, tq, tr, tt, tl, O1, T1⟩ := N1.o; have F1 := N1.e; have I1 := N1.f)
| ((refine (hnx1 x _ _ _ _ _ _ _ O1 T1).mono fun v h2 hp => ?_); obtain ⟨rfl, ⟨⟨ap2, tq2, tr2, tt2, tl2, O2, T2⟩, F2⟩⟩ := hp)
| ((refine (hfd x _ _ _ _ _ _ _ _ (O2.ext (by repeat' (first | exact Ext.refl _ | (refine Ext.set ?_ (by first | exact Nat.le_refl _ | (simp only [alloc_n, set_n]; omega) | (simp only [alloc_n, set_n, drop_n]; omega)) _) | (refine Ext.trans ?_ (Ext.alloc _ _)) | (refine Ext.drop ?_ (by first | exact Nat.le_refl _ | (simp only [alloc_n, set_n, drop_n]; omega)))))) (T2.ext (by repeat' (first | exact Ext.refl _ | (refine Ext.set ?_ (by first | exact Nat.le_refl _ | (simp only [alloc_n, set_n]; omega) | (simp only [alloc_n, set_n, drop_n]; omega)) _) | (refine Ext.trans ?_ (Ext.alloc _ _)) | (refine Ext.drop ?_ (by first | exact Nat.le_refl _ | (simp only [alloc_n, set_n, drop_n]; omega))))))).mono fun v h3 hp => ?_); obtain ⟨⟨ap3, tq3, tr3, tt3, tl3, O3, T3⟩, F3⟩ := hp; have oN := F3.o h2.n (by simp only [alloc_n, set_n, drop_n]; omega) (by have := O2.lt; simp [SK.ids]; omega); simp (disch := omega) only [drop_at, alloc_at, alloc_n, set_n, set_at, if_neg, if_pos, eq_self, if_true] at oN; have hN3 := F3.n; simp only [alloc_n, set_n, drop_n] at hN3)
| ((refine (hnx2 x _ _ _ _ _ _ _ O3 T3).mono fun v h4 hp => ?_); obtain ⟨rfl, ⟨⟨ap4, tq4, tr4, tt4, tl4, O4, T4⟩, F4⟩⟩ := hp; have oM := F4.o h2.n (by omega) (by have := O2.lt; simp [SK.ids]; omega); rw [oN] at oM; have hN4 := F4.n)
| fail)
  all_goals exact ⟨by simp, Ext.ofFr (S := [tq4, tr4, tt4, tl4]) ((Fr.fresh (Fr.fresh ((Fr.fresh F1 F2 I1).trans (Fr.ext (by repeat' (first | exact Ext.refl _ | (refine Ext.set ?_ (by first | exact Nat.le_refl _ | (simp only [alloc_n, set_n]; omega) | (simp only [alloc_n, set_n, drop_n]; omega)) _) | (refine Ext.trans ?_ (Ext.alloc _ _)) | (refine Ext.drop ?_ (by first | exact Nat.le_refl _ | (simp only [alloc_n, set_n, drop_n]; omega))))))) F3 I1) F4 I1).trans (Fr.ext (by repeat' (first | exact Ext.refl _ | (refine Ext.set ?_ (by first | exact Nat.le_refl _ | (simp only [alloc_n, set_n]; omega) | (simp only [alloc_n, set_n, drop_n]; omega)) _) | (refine Ext.trans ?_ (Ext.alloc _ _)) | (refine Ext.drop ?_ (by first | exact Nat.le_refl _ | (simp only [alloc_n, set_n, drop_n]; omega))))))) (T4.ext (by repeat' (first | exact Ext.refl _ | (refine Ext.set ?_ (by first | exact Nat.le_refl _ | (simp only [alloc_n, set_n]; omega) | (simp only [alloc_n, set_n, drop_n]; omega)) _) | (refine Ext.trans ?_ (Ext.alloc _ _)) | (refine Ext.drop ?_ (by first | exact Nat.le_refl _ | (simp only [alloc_n, set_n, drop_n]; omega))))))⟩
end Go.Abs.F
/- Layer 6: ServeOrder's law. -/
namespace Go.Abs.F
open Go Go.Abs
set_option maxRecDepth 60000
set_option maxHeartbeats 20000000
set_option linter.unusedSimpArgs false
set_option linter.unusedVariables false
variable {w0 : World}
theorem new_runs (size rmax : Int) : Runs ((newS size rmax).feed []) 1 (plainS 220 ++ []) [] (newS0 size rmax) :=
  runs_say (s := newS0 size rmax) rfl (.done rfl rfl (.inr rfl))
end Go.Abs.F
/- Layer 6: the document's bodies, lists of texts. -/
namespace Go.Abs.F
open Go Go.Abs
set_option maxRecDepth 10000
set_option maxHeartbeats 20000000
set_option linter.unusedSimpArgs false
set_option linter.unusedVariables false
variable {w0 : World}
/-- A line of a body as it goes. -/
def stuffL (x : L8) : L8 := if x.head? = some 46 then 46 :: x else x
theorem stuff_cons (x : L8) (l : List L8) : stuffGo (x :: l) = stuffL x ++ [13, 10] ++ stuffGo l := by
  rw [stuffGo, stuffL]
  by_cases h : x.head? = some 46
  · rw [if_pos h, if_pos h]; simp
  · rw [if_neg h, if_neg h]; simp
theorem stuffL_len (x : L8) : (stuffL x).length ≤ x.length + 1 := by unfold stuffL; split <;> simp
theorem stuff_len : ∀ l : List L8, (stuffGo l).length ≤ 2 * bsizeS l + 3
  | [] => by simp [stuffGo]
  | x :: l => by
    have h1 := stuff_len l
    have h2 := stuffL_len x
    rw [stuff_cons]
    simp only [List.length_append, List.length_cons, List.length_nil, bsizeS]
    omega
theorem stuff_drop {l : List L8} {i : Nat} {x : L8} (hx : l[i]? = some x) : stuffGo (l.drop i) = stuffL x ++ [13, 10] ++ stuffGo (l.drop (i + 1)) := by
  rw [drop_step hx, stuff_cons]
theorem body_size {l : List L8} (h : bodyS l = true) : bsizeS l ≤ 65536 := by
  simp only [bodyS, Bool.and_eq_true, decide_eq_true_eq] at h
  exact h.2
theorem bsize_ge : ∀ l : List L8, 2 * l.length ≤ bsizeS l
  | [] => by simp [bsizeS]
  | x :: l => by have := bsize_ge l; simp only [bsizeS, List.length_cons]; omega
theorem stuff_take {l : List L8} {i : Nat} {x : L8} (hx : l[i]? = some x) {pre : L8} (h : pre ++ stuffGo (l.drop i) = stuffGo l) : (pre ++ stuffL x ++ [13, 10]) ++ stuffGo (l.drop (i + 1)) = stuffGo l := by
  rw [← h, stuff_drop hx]; simp
theorem rstuff_call (l : List L8) (tok : Tok) (h : AH) (hb : bodyS l = true) : Call P w0 ref01_Stuff [.list 1 (srows l) tok] h (fun v h' => v = .v (.string (bs (stuffGo l))) ∧ h' = h) := by
  have xl := srows_len
  have xg := srows_get
  have m1 := srows_len l
  have hsz := body_size hb
  have hsl := stuff_len l
  have hlen := bsize_ge l
  refine Call.bodyF b_ref01_Stuff rfl rfl ?_
  unfold c_ref01_Stuff
  repeat' (first
| ((with_reducible apply opsF.op rfl); case hs => first | exact tHT | exact tHS)
| (with_reducible first | apply opsF.nil | apply seqF.nn | apply vcF.seq | apply vcF.region | apply vcF.skip | apply vcF.block | apply vcF.exit | apply vcF.ret | apply vcF.loop | apply seqF.e | apply seqF.r | apply blkF.nn | apply blkF.e | apply blkF.r | apply blkF.o rfl)
| ((with_reducible apply opsF.call); case hx => exact tAG)
| ((with_reducible apply opsF.want); (case hg => exact tEV); case hb => exact tNB)
| ((with_reducible apply opsF.skip); (case hg => exact tEV); case hb => exact tNB)
| (first | ((with_reducible apply opsF.case); case hg => exact tEV) | ((with_reducible apply vcF.cond); case hx => exact tEV)) <;> ((intro hc; try simp only [Int.reduceLT, Int.reduceLE, Int.reduceEq, Int.reduceNe, Int.cast_ofNat_Int, Int.reduceNeg, reduceCtorEq, ne_eq, ge_iff_le, gt_iff_lt, beq_iff_eq, beq_eq_false_iff_ne, bne_iff_ne, bne_eq_false_iff_eq, nrm, *] at hc) <;> try (exfalso; omega))
| ((with_reducible apply opsF.und); case hg => rfl)
| ((with_reducible first | apply retF.r | apply retF.nn); case hv => exact tRS))
  refine LpF.ind rfl (fun i : Nat => l.length - i) (fun i σ hh => ∃ pre : L8, hh = h ∧ σ 0 = .list 1 (srows l) tok ∧ σ 3 = .v (.string (bs pre)) ∧ σ 4 = .v (.int .i64 (i : Nat)) ∧ i ≤ l.length ∧ pre ++ stuffGo (l.drop i) = stuffGo l) ?_ (i := 0) ⟨[], rfl, rfl, rfl, rfl, Nat.zero_le _, rfl⟩
  rintro i σ hh ⟨pre, rfl, g0, g3, g4, hi, hS⟩
  have hpl := congrArg List.length hS
  simp only [List.length_append] at hpl
  rcases Nat.lt_or_ge i l.length with hlt | hge
  · obtain ⟨x, hx⟩ : ∃ x, l[i]? = some x := ⟨_, List.getElem?_eq_getElem hlt⟩
    have rx : (srows l)[i]? = some [.v (.string (bs x))] := by rw [srows_get, hx]; rfl
    have hS2 := stuff_take hx hS
    rw [stuff_drop hx] at hpl
    simp only [List.length_append, List.length_cons, List.length_nil] at hpl
    have hxl : x.length ≤ (stuffL x).length := by unfold stuffL; split <;> simp
    clear hS
    generalize hsx : (stuffL x).length = sx at *
    cases x with
    | nil =>
      rw [show stuffL [] = [] from rfl] at hS2
      repeat' (first
| ((with_reducible apply opsF.op rfl); case hs => first | exact tHT | exact tHS)
| (with_reducible first | apply opsF.nil | apply seqF.nn | apply vcF.seq | apply vcF.region | apply vcF.skip | apply vcF.block | apply vcF.exit | apply vcF.ret | apply vcF.loop | apply seqF.e | apply seqF.r | apply blkF.nn | apply blkF.e | apply blkF.r | apply blkF.o rfl)
| ((with_reducible apply opsF.call); case hx => exact tAG)
| ((with_reducible apply opsF.want); (case hg => exact tEV); case hb => exact tNB)
| ((with_reducible apply opsF.skip); (case hg => exact tEV); case hb => exact tNB)
| (first | ((with_reducible apply opsF.case); case hg => exact tEV) | ((with_reducible apply vcF.cond); case hx => exact tEV)) <;> ((intro hc; try simp only [Int.reduceLT, Int.reduceLE, Int.reduceEq, Int.reduceNe, Int.cast_ofNat_Int, Int.reduceNeg, reduceCtorEq, ne_eq, ge_iff_le, gt_iff_lt, beq_iff_eq, beq_eq_false_iff_ne, bne_iff_ne, bne_eq_false_iff_eq, nrm, *] at hc) <;> try (exfalso; omega))
| ((with_reducible apply opsF.und); case hg => rfl)
| ((with_reducible first | apply retF.r | apply retF.nn); case hv => exact tRS))
      all_goals exact ⟨i + 1, by omega, _, rfl, g0, rfl, rfl, by omega, by first | exact hS2 | (rw [← hS2]; simp)⟩
    | cons c r =>
      simp only [List.length_cons] at hxl
      clear hsx
      by_cases hd : c = 46
      · subst hd
        rw [show stuffL (46 :: r) = 46 :: 46 :: r from rfl] at hS2
        have h46 : (((46 : UInt8).toNat : Nat) : Int) = 46 := rfl
        repeat' (first
| ((with_reducible apply opsF.op rfl); case hs => first | exact tHT | exact tHS)
| (with_reducible first | apply opsF.nil | apply seqF.nn | apply vcF.seq | apply vcF.region | apply vcF.skip | apply vcF.block | apply vcF.exit | apply vcF.ret | apply vcF.loop | apply seqF.e | apply seqF.r | apply blkF.nn | apply blkF.e | apply blkF.r | apply blkF.o rfl)
| ((with_reducible apply opsF.call); case hx => exact tAG)
| ((with_reducible apply opsF.want); (case hg => exact tEV); case hb => exact tNB)
| ((with_reducible apply opsF.skip); (case hg => exact tEV); case hb => exact tNB)
| (first | ((with_reducible apply opsF.case); case hg => exact tEV) | ((with_reducible apply vcF.cond); case hx => exact tEV)) <;> ((intro hc; try simp only [Int.reduceLT, Int.reduceLE, Int.reduceEq, Int.reduceNe, Int.cast_ofNat_Int, Int.reduceNeg, reduceCtorEq, ne_eq, ge_iff_le, gt_iff_lt, beq_iff_eq, beq_eq_false_iff_ne, bne_iff_ne, bne_eq_false_iff_eq, nrm, *] at hc) <;> try (exfalso; omega))
| ((with_reducible apply opsF.und); case hg => rfl)
| ((with_reducible first | apply retF.r | apply retF.nn); case hv => exact tRS))
        all_goals exact ⟨i + 1, by omega, _, rfl, g0, rfl, rfl, by omega, by first | exact hS2 | (rw [← hS2]; simp)⟩
      · rw [show stuffL (c :: r) = c :: r by unfold stuffL; rw [if_neg (by simpa using hd)]] at hS2
        have hn : ¬ ((c.toNat : Nat) : Int) = 46 := fun e => hd (u8_is (y := 46) e)
        repeat' (first
| ((with_reducible apply opsF.op rfl); case hs => first | exact tHT | exact tHS)
| (with_reducible first | apply opsF.nil | apply seqF.nn | apply vcF.seq | apply vcF.region | apply vcF.skip | apply vcF.block | apply vcF.exit | apply vcF.ret | apply vcF.loop | apply seqF.e | apply seqF.r | apply blkF.nn | apply blkF.e | apply blkF.r | apply blkF.o rfl)
| ((with_reducible apply opsF.call); case hx => exact tAG)
| ((with_reducible apply opsF.want); (case hg => exact tEV); case hb => exact tNB)
| ((with_reducible apply opsF.skip); (case hg => exact tEV); case hb => exact tNB)
| (first | ((with_reducible apply opsF.case); case hg => exact tEV) | ((with_reducible apply vcF.cond); case hx => exact tEV)) <;> ((intro hc; try simp only [Int.reduceLT, Int.reduceLE, Int.reduceEq, Int.reduceNe, Int.cast_ofNat_Int, Int.reduceNeg, reduceCtorEq, ne_eq, ge_iff_le, gt_iff_lt, beq_iff_eq, beq_eq_false_iff_ne, bne_iff_ne, bne_eq_false_iff_eq, nrm, *] at hc) <;> try (exfalso; omega))
| ((with_reducible apply opsF.und); case hg => rfl)
| ((with_reducible first | apply retF.r | apply retF.nn); case hv => exact tRS))
        all_goals exact ⟨i + 1, by omega, _, rfl, g0, rfl, rfl, by omega, by first | exact hS2 | (rw [← hS2]; simp)⟩
  · obtain rfl : i = l.length := by omega
    rw [List.drop_length] at hS
    have hS3 : pre ++ [46, 13, 10] = stuffGo l := hS
    rw [← hS3]
    clear hS hS3
    repeat' (first
| ((with_reducible apply opsF.op rfl); case hs => first | exact tHT | exact tHS)
| (with_reducible first | apply opsF.nil | apply seqF.nn | apply vcF.seq | apply vcF.region | apply vcF.skip | apply vcF.block | apply vcF.exit | apply vcF.ret | apply vcF.loop | apply seqF.e | apply seqF.r | apply blkF.nn | apply blkF.e | apply blkF.r | apply blkF.o rfl)
| ((with_reducible apply opsF.call); case hx => exact tAG)
| ((with_reducible apply opsF.want); (case hg => exact tEV); case hb => exact tNB)
| ((with_reducible apply opsF.skip); (case hg => exact tEV); case hb => exact tNB)
| (first | ((with_reducible apply opsF.case); case hg => exact tEV) | ((with_reducible apply vcF.cond); case hx => exact tEV)) <;> ((intro hc; try simp only [Int.reduceLT, Int.reduceLE, Int.reduceEq, Int.reduceNe, Int.cast_ofNat_Int, Int.reduceNeg, reduceCtorEq, ne_eq, ge_iff_le, gt_iff_lt, beq_iff_eq, beq_eq_false_iff_ne, bne_iff_ne, bne_eq_false_iff_eq, nrm, *] at hc) <;> try (exfalso; omega))
| ((with_reducible apply opsF.und); case hg => rfl)
| ((with_reducible first | apply retF.r | apply retF.nn); case hv => exact tRS))
    all_goals exact ⟨rfl, rfl⟩
end Go.Abs.F
/- Layer 6: ServeSizes' law. -/
namespace Go.Abs.F
open Go Go.Abs
set_option maxRecDepth 60000
set_option maxHeartbeats 20000000
set_option linter.unusedSimpArgs false
set_option linter.unusedVariables false
variable {w0 : World}
theorem serveSizes_main (hP : PowTab w0) (hE : ErrVars w0) (hM : MaxLen w0) (size : Int) (h0 : 0 ≤ size) (h1 : size ≤ 65535) (body : List L8) (hl : body.length ≤ 140737488351232) (hls : ∀ s ∈ body, s.length ≤ 140737488351232) : Call P w0 law06_ServeSizes [.v (.int .u16 size), .list 1 (srows body) .no] AH.start (fun v _ => v = .v (.bool true)) := by
  have ha := fun h => answers06_call (w0 := w0) hP hE hM h
  have hgo := fun h => rgood_call (w0 := w0) body .no h hl hls
  have xl := srows_len body
  refine Call.bodyF b_law06_ServeSizes rfl rfl ?_
  unfold c_law06_ServeSizes
  cases hb : bodyS body with
  | false =>
    rw [hb] at hgo
    repeat' (first
| ((with_reducible apply opsF.op rfl); case hs => first | exact tHT | exact tHS)
| (with_reducible first | apply opsF.nil | apply seqF.nn | apply vcF.seq | apply vcF.region | apply vcF.skip | apply vcF.ret | apply seqF.r)
| ((with_reducible apply opsF.call); case hx => exact tAG)
| ((with_reducible apply opsF.want); (case hg => exact tEV); case hb => exact tNB)
| ((with_reducible apply opsF.skip); (case hg => exact tEV); case hb => exact tNB)
| (first | ((with_reducible apply opsF.case); case hg => exact tEV) | ((with_reducible apply vcF.cond); case hx => exact tEV)) <;> ((intro hc; try simp only [Int.reduceLT, Int.reduceLE, Int.reduceEq, Int.reduceNe, Int.cast_ofNat_Int, Int.reduceNeg, reduceCtorEq, ne_eq, ge_iff_le, gt_iff_lt, beq_iff_eq, beq_eq_false_iff_ne, bne_iff_ne, bne_eq_false_iff_eq, nrm, *] at hc) <;> try (exfalso; omega))
| ((with_reducible apply opsF.und); case hg => rfl)
| ((with_reducible first | apply retF.r | apply retF.nn); case hv => exact tRS)
| ((refine Call.use (ha _) ?_))
| ((refine Call.use (hgo _) ?_))
| fail)
    all_goals rfl
  | true =>
    rw [hb] at hgo
    by_cases hg : (body.length : Int) ≤ 50
    · obtain ⟨r, hr0, hr⟩ : ∃ r : Nat, r < 300 ∧ Int.tmod size 300 = (r : Int) := ⟨(Int.tmod size 300).toNat, by rw [Int.tmod_eq_emod_of_nonneg h0]; omega, by rw [Int.tmod_eq_emod_of_nonneg h0]; omega⟩
      have hok : ∀ s ∈ body, s.length ≤ 1000 := by
        have q := hb
        unfold bodyS at q
        rw [Bool.and_eq_true, List.all_eq_true] at q
        intro s hs
        have := (lineOk_of (q.1 s hs)).2.2.2
        omega
      have hbz := body_size hb
      have hsl := stuff_len body
      have e1 : ((r + 1 : Nat) : Int) = (r : Int) + 1 := by omega
      have e2 : ((r + 1 + 1 : Nat) : Int) = (r : Int) + 1 + 1 := by omega
      have hd1 := fun h => dec_call (w0 := w0) (r + 1) h (by omega)
      have hd2 := fun h => dec_call (w0 := w0) (r + 1 + 1) h (by omega)
      rw [e1] at hd1
      rw [e2] at hd2
      have hul1 := udecS_len 3 (r + 1) (by omega)
      have hul2 := udecS_len 3 (r + 1 + 1) (by omega)
      have hst := fun h => rstuff_call (w0 := w0) body .no h hb
      have hsz := fun h => rsize_call (w0 := w0) body .no h hl hok
      have hnew := fun h hT => snew_call (w0 := w0) hP ((r + 1 : Nat) : Int) 1 [] h hT (by omega) (by omega) (by decide) (by decide)
      have hin0 := newS_in ((r + 1 : Nat) : Int) 1 (by omega) (by omega)
      have hin1 := newS0_in ((r + 1 : Nat) : Int) 1 (by omega) (by omega)
      have hin2 := stZ_in ((r + 1 : Nat) : Int) (by omega) (by omega) 1
      have hdr0 := fun x ap tq tr tt tl R h1 H T => sdrive_call (w0 := w0) hP hE hM x _ _ ap tq tr tt tl .full R 1 1 [] _ _ h1 H T hin0 (by decide) (new_runs ((r + 1 : Nat) : Int) 1) (by decide) (by rw [p220]; decide)
      rw [show brows [] = [] from rfl] at hdr0
      obtain ⟨k1, o, ra, hk1, ho1, ho2⟩ := sizes_a (r + 1) (by omega)
      obtain ⟨k2, m, t, rb, hk2, hm⟩ := sizes_b (r + 1) (by omega) (by omega) body hb
      have eA : cEHLO ++ [13, 10] ++ cSIZE = [69, 72, 76, 79, 32, 120, 13, 10, 77, 65, 73, 76, 32, 70, 82, 79, 77, 58, 60, 62, 32, 83, 73, 90, 69, 61] := rfl
      have eB : cSIZE ++ udecS (r + 1) ++ [13, 10] ++ cRCPT ++ [13, 10] ++ cDATA ++ [13, 10] ++ stuffGo body = ([77, 65, 73, 76, 32, 70, 82, 79, 77, 58, 60, 62, 32, 83, 73, 90, 69, 61] ++ udecS (r + 1) ++ [13, 10, 82, 67, 80, 84, 32, 84, 79, 58, 60, 99, 64, 100, 62, 13, 10, 68, 65, 84, 65, 13, 10]) ++ stuffGo body := by simp [cSIZE, cRCPT, cDATA]
      rw [eA] at ra
      rw [eB] at rb
      have hdr1 := fun x ap tq tr tt tl tb R h1 H T => sdrive_call (w0 := w0) hP hE hM x _ _ ap tq tr tt tl tb R 1 k1 _ _ _ h1 H T hin1 (by simp only [List.length_append, List.length_cons, List.length_nil]; omega) ra (by omega) (by rw [List.length_append, p552]; simp only [List.length_cons, List.length_nil]; omega)
      have hdr2 := fun x ap tq tr tt tl tb R h1 H T => sdrive_call (w0 := w0) hP hE hM x _ _ ap tq tr tt tl tb R 1 k2 _ _ _ h1 H T hin2 (by simp only [List.length_append, List.length_cons, List.length_nil]; omega) rb (by omega) (by rw [p250, p354]; split <;> (first | rw [p250] | rw [p552]) <;> decide)
      have xm := mrows_len m
      have hif : (if bsizeS body ≤ r + 1 then (250 : Int) else 552) = if bsizeS body ≤ r + 1 then 250 else 552 := rfl
      rw [p552] at hdr1
      rw [p250, p354] at hdr2
      rw [e1] at hnew
      clear hin0 hin1 hin2 ra rb eA eB e2 hk1 hk2 hls hok hb hif hE hM hP
      have hsb : ((bsizeS body : Nat) : Int) ≤ 65536 := by omega
      generalize newS0 ((r + 1 : Nat) : Int) 1 = A0 at *
      generalize stZ ((r + 1 : Nat) : Int) = A1 at *
      by_cases hz : bsizeS body ≤ r + 1
      · rw [if_pos hz, p250] at hdr2
        rw [if_pos hz] at hm
        have hz2 : ((bsizeS body : Nat) : Int) ≤ (r : Int) + 1 := by omega
        clear hz
        generalize bsizeS body = zz at *
        generalize udecS (r + 1) = u1 at *
        generalize udecS (r + 1 + 1) = u2 at *
        generalize stuffGo body = sg at *
        repeat' (first
| ((with_reducible apply opsF.op rfl); case hs => first | exact tHT | exact tHS)
| (with_reducible first | apply opsF.nil | apply seqF.nn | apply vcF.seq | apply vcF.region | apply vcF.skip | apply vcF.ret | apply seqF.r)
| ((with_reducible apply opsF.call); case hx => exact tAG)
| ((with_reducible apply opsF.want); (case hg => exact tEV); case hb => exact tNB)
| ((with_reducible apply opsF.skip); (case hg => exact tEV); case hb => exact tNB)
| (first | ((with_reducible apply opsF.case); case hg => exact tEV) | ((with_reducible apply vcF.cond); case hx => exact tEV)) <;> ((intro hc; try simp only [Int.reduceLT, Int.reduceLE, Int.reduceEq, Int.reduceNe, Int.cast_ofNat_Int, Int.reduceNeg, reduceCtorEq, ne_eq, ge_iff_le, gt_iff_lt, beq_iff_eq, beq_eq_false_iff_ne, bne_iff_ne, bne_eq_false_iff_eq, nrm, *] at hc) <;> try (exfalso; omega))
| ((with_reducible apply opsF.und); case hg => rfl)
| ((with_reducible first | apply retF.r | apply retF.nn); case hv => exact tRS)
| ((refine Call.use (ha _) ?_))
| ((refine Call.use (hgo _) ?_))
| ((refine Call.use (hd1 _) ?_))
| ((refine Call.use (hd2 _) ?_))
| ((refine Call.use (hst _) ?_))
| ((refine Call.use (hsz _) ?_))
| ((refine (hnew _ (Toks.nil _)).mono fun v h1 hp => ?_); obtain ⟨x, rfl, N1⟩ := hp; obtain ⟨ap, tq, tr, tt, tl, O1, T1⟩ := N1.o)
| ((refine (hdr0 x _ _ _ _ _ _ _ O1 T1).mono fun v h2 hp => ?_); obtain ⟨tm, rfl, ⟨⟨ap2, tq2, tr2, tt2, tl2, O2, T2⟩, F2⟩⟩ := hp)
| ((refine (hdr1 x _ _ _ _ _ _ _ _ O2 T2).mono fun v h3 hp => ?_); obtain ⟨tm3, rfl, ⟨⟨ap3, tq3, tr3, tt3, tl3, O3, T3⟩, F3⟩⟩ := hp)
| ((refine (hdr2 x _ _ _ _ _ _ _ _ O3 T3).mono fun v h4 hp => ?_); obtain ⟨tm4, rfl, ⟨⟨ap4, tq4, tr4, tt4, tl4, O4, T4⟩, F4⟩⟩ := hp)
| fail)
        all_goals first
          | rfl
          | (refine absurd ?_ hc; rw [show (((o.length + 15 : Nat) : Int) - 15).toNat = o.length by omega, List.take_of_length_le (by simp), List.drop_left])
      · rw [if_neg hz, p552] at hdr2
        rw [if_neg hz] at hm
        have hz2 : ¬ ((bsizeS body : Nat) : Int) ≤ (r : Int) + 1 := by omega
        clear hz
        generalize bsizeS body = zz at *
        generalize udecS (r + 1) = u1 at *
        generalize udecS (r + 1 + 1) = u2 at *
        generalize stuffGo body = sg at *
        repeat' (first
| ((with_reducible apply opsF.op rfl); case hs => first | exact tHT | exact tHS)
| (with_reducible first | apply opsF.nil | apply seqF.nn | apply vcF.seq | apply vcF.region | apply vcF.skip | apply vcF.ret | apply seqF.r)
| ((with_reducible apply opsF.call); case hx => exact tAG)
| ((with_reducible apply opsF.want); (case hg => exact tEV); case hb => exact tNB)
| ((with_reducible apply opsF.skip); (case hg => exact tEV); case hb => exact tNB)
| (first | ((with_reducible apply opsF.case); case hg => exact tEV) | ((with_reducible apply vcF.cond); case hx => exact tEV)) <;> ((intro hc; try simp only [Int.reduceLT, Int.reduceLE, Int.reduceEq, Int.reduceNe, Int.cast_ofNat_Int, Int.reduceNeg, reduceCtorEq, ne_eq, ge_iff_le, gt_iff_lt, beq_iff_eq, beq_eq_false_iff_ne, bne_iff_ne, bne_eq_false_iff_eq, nrm, *] at hc) <;> try (exfalso; omega))
| ((with_reducible apply opsF.und); case hg => rfl)
| ((with_reducible first | apply retF.r | apply retF.nn); case hv => exact tRS)
| ((refine Call.use (ha _) ?_))
| ((refine Call.use (hgo _) ?_))
| ((refine Call.use (hd1 _) ?_))
| ((refine Call.use (hd2 _) ?_))
| ((refine Call.use (hst _) ?_))
| ((refine Call.use (hsz _) ?_))
| ((refine (hnew _ (Toks.nil _)).mono fun v h1 hp => ?_); obtain ⟨x, rfl, N1⟩ := hp; obtain ⟨ap, tq, tr, tt, tl, O1, T1⟩ := N1.o)
| ((refine (hdr0 x _ _ _ _ _ _ _ O1 T1).mono fun v h2 hp => ?_); obtain ⟨tm, rfl, ⟨⟨ap2, tq2, tr2, tt2, tl2, O2, T2⟩, F2⟩⟩ := hp)
| ((refine (hdr1 x _ _ _ _ _ _ _ _ O2 T2).mono fun v h3 hp => ?_); obtain ⟨tm3, rfl, ⟨⟨ap3, tq3, tr3, tt3, tl3, O3, T3⟩, F3⟩⟩ := hp)
| ((refine (hdr2 x _ _ _ _ _ _ _ _ O3 T3).mono fun v h4 hp => ?_); obtain ⟨tm4, rfl, ⟨⟨ap4, tq4, tr4, tt4, tl4, O4, T4⟩, F4⟩⟩ := hp)
| fail)
        all_goals first
          | rfl
          | (refine absurd ?_ hc; rw [show (((o.length + 15 : Nat) : Int) - 15).toNat = o.length by omega, List.take_of_length_le (by simp), List.drop_left])
    · repeat' (first
| ((with_reducible apply opsF.op rfl); case hs => first | exact tHT | exact tHS)
| (with_reducible first | apply opsF.nil | apply seqF.nn | apply vcF.seq | apply vcF.region | apply vcF.skip | apply vcF.ret | apply seqF.r)
| ((with_reducible apply opsF.call); case hx => exact tAG)
| ((with_reducible apply opsF.want); (case hg => exact tEV); case hb => exact tNB)
| ((with_reducible apply opsF.skip); (case hg => exact tEV); case hb => exact tNB)
| (first | ((with_reducible apply opsF.case); case hg => exact tEV) | ((with_reducible apply vcF.cond); case hx => exact tEV)) <;> ((intro hc; try simp only [Int.reduceLT, Int.reduceLE, Int.reduceEq, Int.reduceNe, Int.cast_ofNat_Int, Int.reduceNeg, reduceCtorEq, ne_eq, ge_iff_le, gt_iff_lt, beq_iff_eq, beq_eq_false_iff_ne, bne_iff_ne, bne_eq_false_iff_eq, nrm, *] at hc) <;> try (exfalso; omega))
| ((with_reducible apply opsF.und); case hg => rfl)
| ((with_reducible first | apply retF.r | apply retF.nn); case hv => exact tRS)
| ((refine Call.use (ha _) ?_))
| ((refine Call.use (hgo _) ?_))
| fail)
      all_goals rfl
theorem u16_wf {n : Int} (h : (Lit.int .u16 n).wf = true) : 0 ≤ n ∧ n ≤ 65535 := by
  simp [Lit.wf, IntKind.min, IntKind.max, IntKind.signed, IntKind.bits] at h
  exact ⟨by omega, by omega⟩
theorem law_ServeSizes (W : World) (hs : W.ShapedOpen P) (hL : laidMetH P Go.Proofs.YtlmgpkopcgcbgaaGreatDoor.Rows.serveSizesRow.laid W) (x0 : (Ty.int .u16).D) (h0 : (Ty.int .u16).wf x0) (g0 : (Ty.int .u16).fit 140737488351232 x0) (x1 : (Ty.slice .str).D) (h1 : (Ty.slice .str).wf x1) (g1 : (Ty.slice .str).fit 140737488351232 x1) :
    Call P W law06_ServeSizes [(Ty.int .u16).val x0, (Ty.slice .str).val x1] AH.start fun v _ => v = .v (.bool true) := by
  obtain ⟨t1, e1, l1, m1⟩ := strs_mem x1 g1
  rw [e1]
  exact serveSizes_main (powTab_of hL (by kernel_rfl)) (errVars_of hL (by kernel_rfl) (by kernel_rfl)) (maxLen_of hs) x0 (u16_wf h0).1 (u16_wf h0).2 t1 l1 m1
end Go.Abs.F
