/- What the proof needs, part 24: Layer 6: what a program that does nothing does not answer; a session that is none; openers; Layer 6: ServeOrder's law; Layer 6: the document's bodies, lists of texts; Layer 6: ServeParts' law. -/
import Derived.Test.YtlmgpkopcgcbgaaGreatDoorQServeParts22
import Derived.Test.YtlmgpkopcgcbgaaGreatDoorQServeParts23
import Derived.Shelf.Vars
import Derived.Test.YtlmgpkopcgcbgaaGreatDoorRows
/- Layer 6: what a program that does nothing does not answer; a session that is none; openers. -/
namespace Go.Abs.F
open Go Go.Abs
set_option maxRecDepth 10000
set_option maxHeartbeats 20000000
set_option linter.unusedSimpArgs false
set_option linter.unusedVariables false
variable {w0 : World}
theorem maxLen_of {W : World} (h : W.ShapedOpen P) : MaxLen W :=
  Go.Proofs.cell_of_shapedOpen_int (zero := #[.int .i64 0]) (t := 3) h (by decide +kernel) (by kernel_rfl) (by kernel_rfl) (by kernel_rfl) (by kernel_rfl) (by kernel_rfl)
theorem errVars_of {l : List (String × DataW Unit)} {W : World} (hL : laidMetH P l W) (h1 : l.filter (fun x => x.1 == "strconv.ErrSyntax") = [("strconv.ErrSyntax", Go.Proofs.YtlmgpkopcgcbgaaGreatDoor.Rows.laid_strconv_ErrSyntax)]) (h2 : l.filter (fun x => x.1 == "strconv.ErrRange") = [("strconv.ErrRange", Go.Proofs.YtlmgpkopcgcbgaaGreatDoor.Rows.laid_strconv_ErrRange)]) : ErrVars W :=
  ⟨errSyntax_of hL h1 rfl, errRange_of hL h2 rfl⟩
/-- All the tokens there are. -/
def allT (h : AH) : List Tok := (List.range h.nt).map fun t => .own t (h.ver t)
theorem allT_toks (h : AH) : Toks h (allT h) := by
  refine ⟨fun t ht => ?_, ?_⟩
  · obtain ⟨i, hi, rfl⟩ := List.mem_map.1 ht
    exact ⟨rfl, by simpa using hi⟩
  · refine List.Pairwise.map _ (R := fun a b => a ≠ b) (fun a b hab x hx hb => ?_) List.nodup_range
    have e1 : some a = some x := hx
    have e2 : some b = some x := hb
    exact hab (by simpa using e1.trans e2.symm)
theorem Ext.ofFr {h h' : AH} {S : List Tok} (f : Fr [] h h') (k : Toks h' (S ++ allT h)) : Ext h h' :=
  ⟨f.n, f.nt, fun i hi => f.o i hi (by simp), fun t ht => by
    have := k.u (.own t (h.ver t)) (List.mem_append_right _ (List.mem_map.2 ⟨t, by simpa using ht, rfl⟩))
    exact this.1.symm⟩
theorem u8_wf {n : Int} (h : (Lit.int .u8 n).wf = true) : 0 ≤ n ∧ n ≤ 255 := by
  simp [Lit.wf, IntKind.min, IntKind.max, IntKind.signed, IntKind.bits] at h
  exact ⟨by omega, by omega⟩
theorem brows_key {f : Int → List AV} (hf : ∀ x, f x = [AV.v (.int .u8 x)]) : ∀ m : List Int, (∀ x ∈ m, 0 ≤ x ∧ x ≤ 255) → m.map f = brows (m.map fun x : Int => UInt8.ofNat x.toNat)
  | [], _ => rfl
  | x :: m, hm => by
    have hx := hm x (by simp)
    have ih := brows_key hf m (fun y hy => hm y (List.mem_cons_of_mem _ hy))
    simp only [List.map_cons, brows] at ih ⊢
    have e : (((UInt8.ofNat x.toNat).toNat : Nat) : Int) = x := by rw [UInt8.toNat_ofNat']; omega
    rw [ih, hf, e]
theorem brows_ty (l : (Ty.slice (.int .u8)).D) (hw : (Ty.slice (.int .u8)).wf l) : ∃ b : List UInt8, (Ty.slice (.int .u8)).val l = .list 1 (brows b) .no ∧ b.length = List.length l := by
  refine ⟨List.map (fun x : Int => UInt8.ofNat x.toNat) l, ?_, List.length_map _⟩
  simp only [Ty.val]
  congr 1
  exact brows_key (f := (Ty.int .u8).enc) (fun x => rfl) l (fun x hx => u8_wf (hw.2 x hx))
theorem newS_out (size rmax : Int) : (newS size rmax).out = [evSay (plainS 220)] := rfl
theorem newS_pop (size rmax : Int) : ({ newS size rmax with out := [] } : SV) = newS0 size rmax := rfl
theorem newS_in (size rmax : Int) (h1 : 1 ≤ size) (h2 : size ≤ 65536) : (newS size rmax).In 1 :=
  ⟨by show 1 + 0 + 0 ≤ 1; decide, by show 1 ≤ 1000000; decide, by constructor <;> (show _ ≤ _; unfold newS newS0 SV.say SV.put; dsimp only; omega), ⟨by show (0 : Int) ≤ 0; decide, by show (0 : Int) + ((0 : Nat) : Int) ≤ ((1 : Nat) : Int); decide⟩, by show 0 + 0 ≤ 1; decide, by show 0 + 0 + 0 ≤ 1; decide, fun e he => by
    rw [newS_out, List.mem_singleton] at he
    subst he
    decide, fun e he => (by cases he)⟩
theorem newS0_in (size rmax : Int) (h1 : 1 ≤ size) (h2 : size ≤ 65536) : (newS0 size rmax).In 1 := (newS_in size rmax h1 h2).pop (newS_out size rmax)
theorem verb_QUIT : verbS bQUIT = (0, (nQUIT, [], -1, false)) := by kernel_rfl
def ansS : SV := ({ newS0 99 2 with wait := [] } : SV).say 221
theorem answers06_call (hP : PowTab w0) (hE : ErrVars w0) (hM : MaxLen w0) (h : AH) : Call P w0 law06_answers [] h (fun v h' => v = .v (.bool true) ∧ h' = h) := by
  refine Call.gc (Q := fun v h' => v = .v (.bool true) ∧ Ext h h') ?_ fun v h' hq => ⟨hq.1 ▸ .v _, hq.2, hq.1⟩
  have hnew := fun h hT => snew_call (w0 := w0) hP 99 2 (allT h) h hT (by decide) (by decide) (by decide) (by decide)
  have s1 : Setl (newS 99 2) (newS 99 2) := .stop (.inl (by rw [newS_out]; simp))
  have i1 := newS_in 99 2 (by decide) (by decide)
  have i2 := (newS0_in 99 2 (by decide) (by decide)).feed (bQUIT ++ [13, 10])
  have e2 : (newS0 99 2).feed (bQUIT ++ [13, 10]) = { newS0 99 2 with wait := bQUIT ++ [13, 10] } := rfl
  have s2 : Setl ((newS0 99 2).feed (bQUIT ++ [13, 10])) ansS.shut := by
    rw [e2]
    refine .go rfl rfl rfl (a := bQUIT) (r := []) (by decide) ?_
    rw [take_cmd rfl (by decide) (by decide) (by decide) (by decide), command_ok verb_QUIT, dv_QUIT]
    exact .stop (.inl (by simp [ansS, SV.shut, SV.say, SV.put]))
  have o2 : ansS.shut.out = [evSay (plainS 221), evShut] := rfl
  have hnx1 := fun x ap tq tr tt tl R h1 H T => snext_call (w0 := w0) hP hE hM x _ _ ap tq tr tt tl R 1 h1 H T s1 i1 (by decide)
  have hfd := fun x ap tq tr tt tl tb R h1 H T => sfeed_call (w0 := w0) x (newS0 99 2) ap tq tr tt tl tb R (bQUIT ++ [13, 10]) h1 H T (by decide)
  have hnx2 := fun x ap tq tr tt tl R h1 H T => snext_call (w0 := w0) hP hE hM x _ _ ap tq tr tt tl R (1 + (bQUIT ++ [13, 10]).length) h1 H T s2 i2 (by decide)
  unfold NextP at hnx1 hnx2
  rw [newS_out] at hnx1
  rw [o2] at hnx2
  dsimp only at hnx1 hnx2
  unfold evSay erow at hnx1 hnx2
  rw [p220] at hnx1
  rw [p221] at hnx2
  dsimp only at hnx1 hnx2
  rw [newS_pop] at hnx1
  rw [show brows (bQUIT ++ [13, 10]) = [[.v (.int .u8 81)], [.v (.int .u8 85)], [.v (.int .u8 73)], [.v (.int .u8 84)], [.v (.int .u8 13)], [.v (.int .u8 10)]] from rfl] at hfd
  generalize (newS0 99 2).feed (bQUIT ++ [13, 10]) = A1 at *
  generalize newS0 99 2 = A0 at *
  generalize newS 99 2 = A2 at *
  clear s1 i1 i2 e2 s2 o2
  have da := drop_at
  have dn := drop_n
  refine Call.bodyF b_law06_answers rfl rfl ?_
  unfold c_law06_answers
  repeat' (first
| ((with_reducible apply opsF.op rfl); case hs => first | exact tHT | exact tHS)
| (with_reducible first | apply opsF.nil | apply seqF.nn | apply vcF.seq | apply vcF.region | apply vcF.skip | apply vcF.ret | apply seqF.r)
| ((with_reducible apply opsF.call); case hx => exact tAG)
| ((with_reducible apply opsF.want); (case hg => exact tEV); case hb => exact tNB)
| ((with_reducible apply opsF.skip); (case hg => exact tEV); case hb => exact tNB)
| (first | ((with_reducible apply opsF.case); case hg => exact tEV) | ((with_reducible apply vcF.cond); case hx => exact tEV)) <;> ((intro hc; try simp only [Int.reduceLT, Int.reduceLE, Int.reduceEq, Int.reduceNe, Int.cast_ofNat_Int, Int.reduceNeg, reduceCtorEq, ne_eq, ge_iff_le, gt_iff_lt, beq_iff_eq, beq_eq_false_iff_ne, bne_iff_ne, bne_eq_false_iff_eq, nrm, *] at hc) <;> try (exfalso; omega))
| ((with_reducible apply opsF.und); case hg => rfl)
| ((with_reducible first | apply retF.r | apply retF.nn); case hv => exact tRS)
| ((with_reducible apply opsF.op rfl); (case hs => exact is_cvb tEV tHE (by rfl)))
| ((refine (hnew _ (allT_toks _)).mono fun v h1 hp => ?_); obtain ⟨x, rfl, N1⟩ := hp; obtain ⟨ap, tq, tr, tt, tl, O1, T1⟩ := N1.o; have F1 := N1.e; have I1 := N1.f)
| ((refine (hnx1 x _ _ _ _ _ _ _ O1 T1).mono fun v h2 hp => ?_); obtain ⟨rfl, ⟨⟨ap2, tq2, tr2, tt2, tl2, O2, T2⟩, F2⟩⟩ := hp)
| ((refine (hfd x _ _ _ _ _ _ _ _ (O2.ext (by repeat' (first | exact Ext.refl _ | (refine Ext.set ?_ (by first | exact Nat.le_refl _ | (simp only [alloc_n, set_n]; omega) | (simp only [alloc_n, set_n, drop_n]; omega)) _) | (refine Ext.trans ?_ (Ext.alloc _ _)) | (refine Ext.drop ?_ (by first | exact Nat.le_refl _ | (simp only [alloc_n, set_n, drop_n]; omega)))))) (T2.ext (by repeat' (first | exact Ext.refl _ | (refine Ext.set ?_ (by first | exact Nat.le_refl _ | (simp only [alloc_n, set_n]; omega) | (simp only [alloc_n, set_n, drop_n]; omega)) _) | (refine Ext.trans ?_ (Ext.alloc _ _)) | (refine Ext.drop ?_ (by first | exact Nat.le_refl _ | (simp only [alloc_n, set_n, drop_n]; omega))))))).mono fun v h3 hp => ?_); obtain ⟨⟨ap3, tq3, tr3, tt3, tl3, O3, T3⟩, F3⟩ := hp; have oN := F3.o h2.n (by simp only [alloc_n, set_n, drop_n]; omega) (by have := O2.lt; simp [SK.ids]; omega); simp (disch := omega) only [drop_at, alloc_at, alloc_n, set_n, set_at, if_neg, if_pos, eq_self, if_true] at oN; have hN3 := F3.n; simp only [alloc_n, set_n, drop_n] at hN3)
| ((refine (hnx2 x _ _ _ _ _ _ _ O3 T3).mono fun v h4 hp => ?_); obtain ⟨rfl, ⟨⟨ap4, tq4, tr4, tt4, tl4, O4, T4⟩, F4⟩⟩ := hp; have oM := F4.o h2.n (by omega) (by have := O2.lt; simp [SK.ids]; omega); rw [oN] at oM; have hN4 := F4.n)
| fail)
  all_goals exact ⟨by simp, Ext.ofFr (S := [tq4, tr4, tt4, tl4]) ((Fr.fresh (Fr.fresh ((Fr.fresh F1 F2 I1).trans (Fr.ext (by repeat' (first | exact Ext.refl _ | (refine Ext.set ?_ (by first | exact Nat.le_refl _ | (simp only [alloc_n, set_n]; omega) | (simp only [alloc_n, set_n, drop_n]; omega)) _) | (refine Ext.trans ?_ (Ext.alloc _ _)) | (refine Ext.drop ?_ (by first | exact Nat.le_refl _ | (simp only [alloc_n, set_n, drop_n]; omega))))))) F3 I1) F4 I1).trans (Fr.ext (by repeat' (first | exact Ext.refl _ | (refine Ext.set ?_ (by first | exact Nat.le_refl _ | (simp only [alloc_n, set_n]; omega) | (simp only [alloc_n, set_n, drop_n]; omega)) _) | (refine Ext.trans ?_ (Ext.alloc _ _)) | (refine Ext.drop ?_ (by first | exact Nat.le_refl _ | (simp only [alloc_n, set_n, drop_n]; omega))))))) (T4.ext (by repeat' (first | exact Ext.refl _ | (refine Ext.set ?_ (by first | exact Nat.le_refl _ | (simp only [alloc_n, set_n]; omega) | (simp only [alloc_n, set_n, drop_n]; omega)) _) | (refine Ext.trans ?_ (Ext.alloc _ _)) | (refine Ext.drop ?_ (by first | exact Nat.le_refl _ | (simp only [alloc_n, set_n, drop_n]; omega))))))⟩
end Go.Abs.F
/- Layer 6: ServeOrder's law. -/
namespace Go.Abs.F
open Go Go.Abs
set_option maxRecDepth 60000
set_option maxHeartbeats 20000000
set_option linter.unusedSimpArgs false
set_option linter.unusedVariables false
variable {w0 : World}
theorem new_runs (size rmax : Int) : Runs ((newS size rmax).feed []) 1 (plainS 220 ++ []) [] (newS0 size rmax) :=
  runs_say (s := newS0 size rmax) rfl (.done rfl rfl (.inr rfl))
end Go.Abs.F
/- Layer 6: the document's bodies, lists of texts. -/
namespace Go.Abs.F
open Go Go.Abs
set_option maxRecDepth 10000
set_option maxHeartbeats 20000000
set_option linter.unusedSimpArgs false
set_option linter.unusedVariables false
variable {w0 : World}
theorem texts_call (a b : List (List UInt8)) (ta tb : Tok) (h : AH) (hl : a.length ≤ 1000000000000) : Call P w0 ref01_Texts [.list 1 (srows a) ta, .list 1 (srows b) tb] h (fun v h' => v = .v (.bool (decide (a = b))) ∧ h' = h) := by
  have xl := srows_len
  have xg := srows_get
  refine Call.bodyF b_ref01_Texts rfl rfl ?_
  unfold c_ref01_Texts
  repeat' (first
| ((with_reducible apply opsF.op rfl); case hs => first | exact tHT | exact tHS)
| (with_reducible first | apply opsF.nil | apply seqF.nn | apply vcF.seq | apply vcF.region | apply vcF.skip | apply vcF.block | apply vcF.exit | apply vcF.ret | apply vcF.loop | apply seqF.e | apply seqF.r | apply blkF.nn | apply blkF.e | apply blkF.r | apply blkF.o rfl)
| ((with_reducible apply opsF.call); case hx => exact tAG)
| ((with_reducible apply vcF.cond); case hx => exact tEV) <;> ((intro hc; try simp only [Int.reduceLT, Int.reduceLE, Int.reduceEq, Int.reduceNe, Int.cast_ofNat_Int, Int.reduceNeg, reduceCtorEq, ne_eq, ge_iff_le, gt_iff_lt, beq_iff_eq, beq_eq_false_iff_ne, bne_iff_ne, bne_eq_false_iff_eq, nrm, *] at hc) <;> try (exfalso; omega))
| ((with_reducible first | apply retF.r | apply retF.nn); case hv => exact tRS))
  · have : a ≠ b := by rintro rfl; simp at *
    simp [this]
  · refine LpF.ind rfl (fun i : Nat => a.length - i) (fun i σ h' => h' = h ∧ σ 0 = .list 1 (srows a) ta ∧ σ 1 = .list 1 (srows b) tb ∧ σ 5 = .v (.int .i64 (i : Nat)) ∧ i ≤ a.length ∧ a.take i = b.take i) ?_ (i := 0) ⟨rfl, rfl, rfl, rfl, Nat.zero_le _, rfl⟩
    rintro i σ h' ⟨rfl, h0, h1, h5, hi, he⟩
    have hlen : a.length = b.length := by omega
    rcases Nat.lt_or_ge i a.length with hlt | hge
    · have ha : a[i]? = some a[i] := List.getElem?_eq_getElem hlt
      have hb : b[i]? = some (b[i]'(by omega)) := List.getElem?_eq_getElem (by omega)
      repeat' (first
| ((with_reducible apply opsF.op rfl); case hs => first | exact tHT | exact tHS)
| (with_reducible first | apply opsF.nil | apply seqF.nn | apply vcF.seq | apply vcF.region | apply vcF.skip | apply vcF.block | apply vcF.exit | apply vcF.ret | apply vcF.loop | apply seqF.e | apply seqF.r | apply blkF.nn | apply blkF.e | apply blkF.r | apply blkF.o rfl)
| ((with_reducible apply opsF.call); case hx => exact tAG)
| ((with_reducible apply vcF.cond); case hx => exact tEV) <;> ((intro hc; try simp only [Int.reduceLT, Int.reduceLE, Int.reduceEq, Int.reduceNe, Int.cast_ofNat_Int, Int.reduceNeg, reduceCtorEq, ne_eq, ge_iff_le, gt_iff_lt, beq_iff_eq, beq_eq_false_iff_ne, bne_iff_ne, bne_eq_false_iff_eq, nrm, *] at hc) <;> try (exfalso; omega))
| ((with_reducible first | apply retF.r | apply retF.nn); case hv => exact tRS))
      · have : a ≠ b := by rintro rfl; simp at *
        simp [this]
      · refine ⟨i + 1, by omega, rfl, by assumption, by assumption, ?_, by omega, ?_⟩
        · exact rfl
        · rw [List.take_add_one, List.take_add_one, he, ha, hb, hc]
    · have : i = a.length := by omega
      subst this
      repeat' (first
| ((with_reducible apply opsF.op rfl); case hs => first | exact tHT | exact tHS)
| (with_reducible first | apply opsF.nil | apply seqF.nn | apply vcF.seq | apply vcF.region | apply vcF.skip | apply vcF.block | apply vcF.exit | apply vcF.ret | apply vcF.loop | apply seqF.e | apply seqF.r | apply blkF.nn | apply blkF.e | apply blkF.r | apply blkF.o rfl)
| ((with_reducible apply opsF.call); case hx => exact tAG)
| ((with_reducible apply vcF.cond); case hx => exact tEV) <;> ((intro hc; try simp only [Int.reduceLT, Int.reduceLE, Int.reduceEq, Int.reduceNe, Int.cast_ofNat_Int, Int.reduceNeg, reduceCtorEq, ne_eq, ge_iff_le, gt_iff_lt, beq_iff_eq, beq_eq_false_iff_ne, bne_iff_ne, bne_eq_false_iff_eq, nrm, *] at hc) <;> try (exfalso; omega))
| ((with_reducible first | apply retF.r | apply retF.nn); case hv => exact tRS))
      have : a = b := by
        rw [List.take_length, hlen, List.take_length] at he
        exact he
      simp [this]
end Go.Abs.F
/- Layer 6: ServeParts' law. -/
namespace Go.Abs.F
open Go Go.Abs
set_option maxRecDepth 60000
set_option maxHeartbeats 20000000
set_option linter.unusedSimpArgs false
set_option linter.unusedVariables false
variable {w0 : World}
theorem Runs.mlB {s t : SV} {n N : Nat} {o : L8} {m : List ML} (h : Runs s n o m t) (hi : s.In N) : ∀ e ∈ m, e.rc.length ≤ N ∧ e.bd.length ≤ N := by
  induction h with
  | done h1 h2 h3 => intro e he; cases he
  | line h1 h2 h3 h4 k ih => exact ih (hi.take h1 h2 h4)
  | say h1 h2 k ih => exact ih (hi.pop h1)
  | shut h1 h2 k ih => exact ih (hi.pop h1)
  | ask h1 h0 h2 k ih => exact ih ((hi.pop h1).got rfl h0 250)
  | @store s t e o n m h1 h0 h2 k ih =>
    intro x hx
    rcases List.mem_cons.1 hx with rfl | hx
    · exact hi.ev e (by rw [h1]; simp)
    · exact ih ((hi.pop h1).got rfl h0 250) x hx
theorem Runs.cnt {s t : SV} {n N : Nat} {o : L8} {m : List ML} (h : Runs s n o m t) (hi : s.In N) : n ≤ N := by
  have key : n ≤ s.out.length + s.wait.length + s.aN := by
    induction h with
    | done h1 h2 h3 => exact Nat.zero_le _
    | @line s t a r o n m h1 h2 h3 h4 k ih =>
      have q := take_ef s a r h2 hi.bs.1
      have hl := cutL_len h4
      have w := q.wait
      have h5 := q.out
      have := ih (hi.take h1 h2 h4)
      dsimp only at w h5
      rw [h1, List.length_nil] at h5 ⊢
      rw [w] at this
      omega
    | @say s t e q o n m h1 h2 k ih =>
      have := ih (hi.pop h1)
      rw [h1, List.length_cons]
      have e2 : ({ s with out := q } : SV).aN = s.aN := rfl
      rw [e2] at this
      dsimp only at this
      omega
    | @shut s t e q o n m h1 h2 k ih =>
      have := ih (hi.pop h1)
      rw [h1, List.length_cons]
      have e2 : ({ s with out := q } : SV).aN = s.aN := rfl
      rw [e2] at this
      dsimp only at this
      omega
    | @ask s t e o n m h1 h0 h2 k ih =>
      have := ih ((hi.pop h1).got rfl h0 250)
      obtain ⟨g1, g2, g3⟩ := got_aN ({ s with out := [] } : SV) e 250 rfl
      rw [g1, aN_none g2, g3] at this
      rw [h1, aN_some h0]
      dsimp only at this
      simp
      omega
    | @store s t e o n m h1 h0 h2 k ih =>
      have := ih ((hi.pop h1).got rfl h0 250)
      obtain ⟨g1, g2, g3⟩ := got_aN ({ s with out := [] } : SV) e 250 rfl
      rw [g1, aN_none g2, g3] at this
      rw [h1, aN_some h0]
      dsimp only at this
      simp
      omega
  have := hi.out
  omega
/-- In the loop. -/
structure PaI (x : SK) (b parts X : L8) (M : List ML) (a i : Nat) (σ : Fm) (hh : AH) : Prop where
  s : ∃ s1 y n tok n2 o2 m2 t2, (∃ ap tq tr tt tl, SvO hh x s1 ap tq tr tt tl ∧ Toks hh (tq :: tr :: tt :: tl :: tok :: [])) ∧ s1.out = [] ∧ s1.asked = none ∧ (s1.over = true ∨ cutL s1.wait = none) ∧ s1.In (1 + a) ∧ Runs { s1 with wait := s1.wait ++ b.drop a } n2 o2 m2 t2 ∧ X = y ++ o2 ∧ M = n ++ m2 ∧ σ 9 = .v (.string (bs y)) ∧ σ 10 = .list 3 (mrows n) tok
  g0 : σ 0 = .list 1 (brows b) .no
  g1 : σ 1 = .list 1 (brows parts) .no
  g6 : σ 6 = .v (.string (bs X))
  g7 : ∃ tm, σ 7 = .list 3 (mrows M) tm
  g8 : σ 8 = .ptr x.id 0
  g11 : σ 11 = .v (.int .i64 (a : Nat))
  g12 : σ 12 = .v (.int .i64 (i : Nat))
/-- What a part does. -/
inductive PaS (x : SK) (b : L8) (a e : Nat) (hh : AH) (tok : Tok) (o2 : L8) (m2 : List ML) : Prop
  | mk (p o1 : L8) (m1 : List ML) (t1 : SV) (n3 : Nat) (o3 : L8) (m3 : List ML) (t3 : SV) (hsl : List.take (e - a) (List.drop a (brows b)) = brows p) (r1 : o2 = o1 ++ o3) (r2 : m2 = m1 ++ m3) (k3 : Runs { t1 with wait := t1.wait ++ b.drop e } n3 o3 m3 t3)
      (j1 : t1.out = []) (j2 : t1.asked = none) (j3 : t1.over = true ∨ cutL t1.wait = none) (jin : t1.In (1 + e))
      (hdr : ∀ tb, Call P w0 law06_drive [.ptr x.id 0, .list 1 (brows p) tb] hh (fun v h' => ∃ tm, v = .tup [.v (.string (bs o1)), .list 3 (mrows m1) tm] ∧ ∃ ap tq tr tt tl, SvO h' x t1 ap tq tr tt tl ∧ Toks h' (tq :: tr :: tt :: tl :: tok :: [])))
theorem feed_out (s : SV) (p : L8) : (s.feed p).out = s.out ∧ (s.feed p).asked = s.asked := by
  unfold SV.feed
  split <;> exact ⟨rfl, rfl⟩
theorem paS (hP : PowTab w0) (hE : ErrVars w0) (hM : MaxLen w0) (x : SK) (b : L8) (a e : Nat) (s1 : SV) (ap : AV) (tq tr tt tl tok : Tok) (n2 : Nat) (o2 : L8) (m2 : List ML) (t2 : SV) (hh : AH) (O : SvO hh x s1 ap tq tr tt tl) (T : Toks hh (tq :: tr :: tt :: tl :: tok :: [])) (i1 : s1.out = []) (i2 : s1.asked = none) (hin : s1.In (1 + a))
    (hR2 : Runs { s1 with wait := s1.wait ++ b.drop a } n2 o2 m2 t2) (h1 : a < e) (h2 : e ≤ b.length) (g1 : (b.length : Int) ≤ 3000) : PaS (w0 := w0) x b a e hh tok o2 m2 := by
  obtain ⟨p, hp⟩ : ∃ p, p = (b.drop a).take (e - a) := ⟨_, rfl⟩
  have hpl : p.length = e - a := by rw [hp, List.length_take, List.length_drop]; omega
  have hs : b.drop a = p ++ b.drop e := by
    rw [hp]
    conv => lhs; rw [← List.take_append_drop (e - a) (b.drop a)]
    rw [List.drop_drop, show a + (e - a) = e by omega]
  have hin2 := hin.feed p
  rw [show 1 + a + p.length = 1 + e by omega] at hin2
  obtain ⟨f1, f2⟩ := feed_out s1 p
  obtain ⟨n1, o1, m1, t1, k1, hn1, ho1⟩ := runs_ex _ _ _ hin2 (fit_idle (f1.trans i1) (f2.trans i2)) (Nat.le_refl _)
  have hc := k1.cnt hin2
  have hol : o1.length ≤ 3001 * 5000 := Nat.le_trans ho1 (Nat.mul_le_mul_right _ (by omega))
  rw [hs] at hR2
  obtain ⟨n3, o3, m3, t3, r1, r2, k3⟩ := feed_split i1 i2 hR2 k1
  obtain ⟨j1, j2, j3⟩ := k1.fin
  refine .mk p o1 m1 t1 n3 o3 m3 t3 ?_ r1 r2 k3 j1 j2 j3 (k1.in hin2) fun tb => ?_
  · rw [hp]; simp [brows, List.map_take, List.map_drop]
  · refine (sdrive_call hP hE hM x s1 t1 ap tq tr tt tl tb [tok] (1 + a) n1 p o1 m1 hh O T hin (by omega) k1 (by omega) (by omega)).mono fun v h' hp => ?_
    obtain ⟨tm, rfl, ⟨⟨ap3, tq3, tr3, tt3, tl3, O3, T3⟩, F3⟩⟩ := hp
    exact ⟨tm, rfl, ap3, tq3, tr3, tt3, tl3, O3, (Toks.r5 T3).tail |> fun q => q⟩
theorem serveParts_main (hP : PowTab w0) (hE : ErrVars w0) (hM : MaxLen w0) (b parts : L8) (hbl : b.length ≤ 140737488351232) (hpl : parts.length ≤ 140737488351232) :
    Call P w0 law06_ServeParts [.list 1 (brows b) .no, .list 1 (brows parts) .no] AH.start (fun v _ => v = .v (.bool true)) := by
  have ha := fun h => answers06_call (w0 := w0) hP hE hM h
  have bl := brows_len
  have bg := brows_get
  generalize AH.start = h0
  by_cases hg : (b.length : Int) ≤ 3000 ∧ 1 ≤ (parts.length : Int)
  · obtain ⟨g1, g2⟩ := hg
    have hin := (newS_in 500 3 (by decide) (by decide)).feed b
    have hfit : ((newS 500 3).feed b).Fit := by
      refine ⟨.inl ⟨rfl, ?_⟩, ?_⟩
      · intro e he
        have he : e ∈ [evSay (plainS 220)] := he
        rw [List.mem_singleton.1 he]; exact .inl rfl
      · intro e he _
        have he : e ∈ [evSay (plainS 220)] := he
        rw [List.mem_singleton.1 he]
        show (plainS 220).length ≤ 5000
        rw [p220]; decide
    obtain ⟨n, X, M, tF, hR, hn, hX⟩ := runs_ex _ _ _ hin hfit (Nat.le_refl _)
    have hn2 := hR.cnt hin
    have hXl : (X.length : Int) ≤ 30000000 := by
      have : n * 5000 ≤ 3001 * 5000 := Nat.mul_le_mul_right _ (by omega)
      omega
    have hMl := hR.mlen
    have hMb := hR.mlB hin
    obtain ⟨n2, o2, m2, t2, e1, e2, hR2⟩ := runs_split (new_runs 500 3) b (show Runs { (newS 500 3).feed [] with wait := ((newS 500 3).feed []).wait ++ b } n X M tF from hR)
    have hnew := fun h hT => snew_call (w0 := w0) hP 500 3 [] h hT (by decide) (by decide) (by decide) (by decide)
    have hdrB := fun x ap tq tr tt tl tb R h1 H T => sdrive_call (w0 := w0) hP hE hM x (newS 500 3) tF ap tq tr tt tl tb R 1 n b X M h1 H T (newS_in 500 3 (by decide) (by decide)) (by omega) hR (by omega) (by omega)
    have hdr0 := fun x ap tq tr tt tl R h1 H T => sdrive_call (w0 := w0) hP hE hM x (newS 500 3) (newS0 500 3) ap tq tr tt tl .full R 1 1 [] _ _ h1 H T (newS_in 500 3 (by decide) (by decide)) (by decide) (new_runs 500 3) (by decide) (by rw [p220]; decide)
    rw [show brows [] = [] from rfl] at hdr0
    replace e1 := Held.mk e1
    replace e2 := Held.mk e2
    clear hR hX hn hfit hin
    have hnI : (n : Int) ≤ 3001 := by omega
    clear hn2
    refine Call.bodyF b_law06_ServeParts rfl rfl ?_
    unfold c_law06_ServeParts
    repeat' (first
| ((with_reducible apply opsF.op rfl); case hs => first | exact tHT | exact tHS)
| (with_reducible first | apply opsF.nil | apply seqF.nn | apply vcF.seq | apply vcF.region | apply vcF.skip | apply vcF.block | apply vcF.exit | apply vcF.ret | apply vcF.loop | apply seqF.e | apply seqF.r | apply blkF.nn | apply blkF.e | apply blkF.r | apply blkF.o rfl)
| ((with_reducible apply opsF.call); case hx => exact tAG)
| ((with_reducible apply opsF.want); (case hg => exact tEV); case hb => exact tNB)
| ((with_reducible apply opsF.skip); (case hg => exact tEV); case hb => exact tNB)
| (first | ((with_reducible apply opsF.case); case hg => exact tEV) | ((with_reducible apply vcF.cond); case hx => exact tEV)) <;> ((intro hc; try simp only [Int.reduceLT, Int.reduceLE, Int.reduceEq, Int.reduceNe, Int.cast_ofNat_Int, Int.reduceNeg, reduceCtorEq, ne_eq, ge_iff_le, gt_iff_lt, beq_iff_eq, beq_eq_false_iff_ne, bne_iff_ne, bne_eq_false_iff_eq, nrm, *] at hc) <;> try (exfalso; omega))
| ((with_reducible apply opsF.und); case hg => rfl)
| ((with_reducible first | apply retF.r | apply retF.nn); case hv => exact tRS)
| ((refine (hnew _ (Toks.nil _)).mono fun v h1 hp => ?_); obtain ⟨x, rfl, N1⟩ := hp; obtain ⟨ap, tq, tr, tt, tl, O1, T1⟩ := N1.o; have oA := N1.e.o h0.n (by first | assumption | (simp only [alloc_n, set_n]; omega)) (by simp); try simp (disch := omega) only [alloc_at, set_at, if_pos, if_neg, eq_self, if_true] at oA)
| ((refine (hdrB x _ _ _ _ _ _ _ _ O1 T1).mono fun v h2 hp => ?_); obtain ⟨tm, rfl, ⟨⟨ap2, tq2, tr2, tt2, tl2, O2, T2⟩, F2⟩⟩ := hp; have oB := (F2.o h0.n (by have := N1.e.n; simp only [alloc_n, set_n] at this; omega) (by have := N1.f; simp only [alloc_n, set_n] at this; intro hm; have := this _ hm; omega)).trans oA; have lt0 : h0.n < h2.n := (by have := N1.e.n; have := F2.n; simp only [alloc_n, set_n] at *; omega))
| ((refine (hdr0 x _ _ _ _ _ _ _ O1 T1).mono fun v h2 hp => ?_); obtain ⟨tm3, rfl, ⟨⟨ap3, tq3, tr3, tt3, tl3, O3, T3⟩, F3⟩⟩ := hp)
| fail)
    have hB0 : b.drop 0 = b := rfl
    refine LpF.ind rfl (fun a : Nat => b.length - a) (fun a σ hh => ∃ i, PaI x b parts X M a i σ hh ∧ i ≤ a ∧ a ≤ b.length) ?_ (i := 0) ⟨0, ⟨⟨newS0 500 3, plainS 220 ++ [], [], tm3, n2, o2, m2, t2, ⟨ap3, tq3, tr3, tt3, tl3, O3, T3⟩, rfl, rfl, .inr rfl, (newS0_in 500 3 (by decide) (by decide)), hR2, e1.h, e2.h, rfl, rfl⟩, rfl, rfl, rfl, ⟨tm, rfl⟩, rfl, rfl, rfl⟩, Nat.le_refl _, Nat.zero_le _⟩
    clear hnew hdrB hdr0 oA oB lt0 O1 T1 O2 T2 O3 T3 F2 F3 N1 hR2 e1 e2
    rintro a σ hh ⟨i, ⟨⟨s1, y, ml, tok, n2, o2, m2, t2, ⟨ap, tq, tr, tt, tl, O, T⟩, i1, i2, i3, hin, hR2, e1, e2, q9, q10⟩, q0, q1, q6, ⟨tm, q7⟩, q8, q11, q12⟩, hia, hab⟩
    rcases Nat.lt_or_ge a b.length with hlt | hge
    · have hp0 : parts.length ≠ 0 := by omega
      have hmod : i % parts.length < parts.length := Nat.mod_lt _ (by omega)
      obtain ⟨w, hw⟩ : ∃ w, parts[i % parts.length]? = some w := ⟨_, List.getElem?_eq_getElem hmod⟩
      have hwl := w.toNat_lt
      have hrem : Int.tmod (i : Int) (parts.length : Int) = ((i % parts.length : Nat) : Int) := by rw [Int.tmod_eq_emod_of_nonneg (by omega)]; rfl
      have hmI : ((i % parts.length : Nat) : Int) < (parts.length : Int) := by omega
      have main : ∀ e : Nat, a < e → e ≤ b.length → PaS x b a e hh tok o2 m2 (w0 := w0) := fun e h1 h2 => paS hP hE hM x b a e s1 ap tq tr tt tl tok n2 o2 m2 t2 hh O T i1 i2 hin hR2 h1 h2 g1
      clear hR2 i1 i2 i3 hin O T hMb
      by_cases hov : (b.length : Int) < (a : Int) + (w.toNat : Int) + 1
      · obtain ⟨p, o1, m1, t1, n3, o3, m3, t3, hsl, r1, r2, k3, j1, j2, j3, jin, hdr⟩ := main b.length hlt (Nat.le_refl _)
        have hyl : (y.length : Int) + (o1.length : Int) ≤ 30000000 := by
          have := congrArg List.length e1
          rw [r1, List.length_append, List.length_append] at this
          omega
        have hml : (ml.length : Int) + (m1.length : Int) ≤ 3001 := by
          have := congrArg List.length e2
          rw [r2, List.length_append, List.length_append] at this
          omega
        have e3 : X = (y ++ o1) ++ o3 := by rw [e1, r1, List.append_assoc]
        have e4 : M = (ml ++ m1) ++ m3 := by rw [e2, r2, List.append_assoc]
        have e5 := mrows_app ml m1
        have xm := mrows_len ml
        have xm1 := mrows_len m1
        replace e1 := Held.mk e3
        replace e2 := Held.mk e4
        replace e5 := Held.mk e5
        clear e3 e4 main r1 r2
        cases m1 with
        | nil =>
          rw [List.append_nil] at e2 e5
          repeat' (first
| ((with_reducible apply opsF.op rfl); (case hs => exact is_slL (a := a) (b := (b.length)) (rows' := brows p) tEV (bnd_some tEV (by rw [bl]; omega) (by omega)) (bnd_some tEV (by omega) (by omega)) hsl rfl))
| ((with_reducible apply opsF.op rfl); case hs => first | exact tHT | exact tHS)
| (with_reducible first | apply opsF.nil | apply seqF.nn | apply vcF.seq | apply vcF.region | apply vcF.skip | apply vcF.block | apply vcF.exit | apply vcF.ret | apply vcF.loop | apply seqF.e | apply seqF.r | apply blkF.nn | apply blkF.e | apply blkF.r | apply blkF.o rfl)
| ((with_reducible apply opsF.call); case hx => exact tAG)
| ((with_reducible apply opsF.want); (case hg => exact tEV); case hb => exact tNB)
| ((with_reducible apply opsF.skip); (case hg => exact tEV); case hb => exact tNB)
| (first | ((with_reducible apply opsF.case); case hg => exact tEV) | ((with_reducible apply vcF.cond); case hx => exact tEV)) <;> ((intro hc; try simp only [Int.reduceLT, Int.reduceLE, Int.reduceEq, Int.reduceNe, Int.cast_ofNat_Int, Int.reduceNeg, reduceCtorEq, ne_eq, ge_iff_le, gt_iff_lt, beq_iff_eq, beq_eq_false_iff_ne, bne_iff_ne, bne_eq_false_iff_eq, nrm, *] at hc) <;> try (exfalso; omega))
| ((with_reducible apply opsF.und); case hg => rfl)
| ((with_reducible first | apply retF.r | apply retF.nn); case hv => exact tRS)
| ((refine (hdr _).mono fun v h3 hp => ?_); obtain ⟨tm3, rfl, ap3, tq3, tr3, tt3, tl3, O3, T3⟩ := hp)
| fail)
          all_goals exact ⟨(b.length), by omega, i + 1, ⟨⟨t1, y ++ o1, ml, tok, n3, o3, m3, t3, ⟨ap3, tq3, tr3, tt3, tl3, O3, T3⟩, j1, j2, j3, jin, k3, e1.h, e2.h, rfl, by first | exact q10 | rfl⟩, q0, q1, q6, ⟨tm, q7⟩, q8, by first | rfl | (congr 2; omega), rfl⟩, by omega, by omega⟩
        | cons c mr =>
          have xm2 := mrows_len mr
          have hml2 : (ml.length : Int) + (mr.length : Int) ≤ 3001 := by rw [List.length_cons] at hml; omega
          repeat' (first
| ((with_reducible apply opsF.op rfl); (case hs => exact is_slL (a := a) (b := (b.length)) (rows' := brows p) tEV (bnd_some tEV (by rw [bl]; omega) (by omega)) (bnd_some tEV (by omega) (by omega)) hsl rfl))
| ((with_reducible apply opsF.op rfl); (case hs => exact is_app (r := mrow c) (new := mrows mr) tEV tEV rfl hap (by omega) rfl))
| ((with_reducible apply opsF.op rfl); case hs => first | exact tHT | exact tHS)
| (with_reducible first | apply opsF.nil | apply seqF.nn | apply vcF.seq | apply vcF.region | apply vcF.skip | apply vcF.block | apply vcF.exit | apply vcF.ret | apply vcF.loop | apply seqF.e | apply seqF.r | apply blkF.nn | apply blkF.e | apply blkF.r | apply blkF.o rfl)
| ((with_reducible apply opsF.call); case hx => exact tAG)
| ((with_reducible apply opsF.want); (case hg => exact tEV); case hb => exact tNB)
| ((with_reducible apply opsF.skip); (case hg => exact tEV); case hb => exact tNB)
| (first | ((with_reducible apply opsF.case); case hg => exact tEV) | ((with_reducible apply vcF.cond); case hx => exact tEV)) <;> ((intro hc; try simp only [Int.reduceLT, Int.reduceLE, Int.reduceEq, Int.reduceNe, Int.cast_ofNat_Int, Int.reduceNeg, reduceCtorEq, ne_eq, ge_iff_le, gt_iff_lt, beq_iff_eq, beq_eq_false_iff_ne, bne_iff_ne, bne_eq_false_iff_eq, nrm, *] at hc) <;> try (exfalso; omega))
| ((with_reducible apply opsF.und); case hg => rfl)
| ((with_reducible first | apply retF.r | apply retF.nn); case hv => exact tRS)
| ((refine (hdr _).mono fun v h3 hp => ?_); obtain ⟨tm3, rfl, ap3, tq3, tr3, tt3, tl3, O3, T3⟩ := hp; obtain ⟨tok', h4, hap, T4, y4, y5, y6⟩ := (Toks.r5 T3).app)
| fail)
          all_goals exact ⟨(b.length), by omega, i + 1, ⟨⟨t1, y ++ o1, ml ++ c :: mr, tok', n3, o3, m3, t3, ⟨ap3, tq3, tr3, tt3, tl3, O3.fr ((Fr.refl [] h3).app y4 y5 y6), Toks.l5 T4⟩, j1, j2, j3, jin, k3, e1.h, e2.h, rfl, by rw [e5.h]; rfl⟩, q0, q1, q6, ⟨tm, q7⟩, q8, by first | rfl | (congr 2; omega), rfl⟩, by omega, by omega⟩
      · obtain ⟨p, o1, m1, t1, n3, o3, m3, t3, hsl, r1, r2, k3, j1, j2, j3, jin, hdr⟩ := main (a + w.toNat + 1) (by omega) (by omega)
        have hyl : (y.length : Int) + (o1.length : Int) ≤ 30000000 := by
          have := congrArg List.length e1
          rw [r1, List.length_append, List.length_append] at this
          omega
        have hml : (ml.length : Int) + (m1.length : Int) ≤ 3001 := by
          have := congrArg List.length e2
          rw [r2, List.length_append, List.length_append] at this
          omega
        have e3 : X = (y ++ o1) ++ o3 := by rw [e1, r1, List.append_assoc]
        have e4 : M = (ml ++ m1) ++ m3 := by rw [e2, r2, List.append_assoc]
        have e5 := mrows_app ml m1
        have xm := mrows_len ml
        have xm1 := mrows_len m1
        replace e1 := Held.mk e3
        replace e2 := Held.mk e4
        replace e5 := Held.mk e5
        clear e3 e4 main r1 r2
        cases m1 with
        | nil =>
          rw [List.append_nil] at e2 e5
          repeat' (first
| ((with_reducible apply opsF.op rfl); (case hs => exact is_slL (a := a) (b := (a + w.toNat + 1)) (rows' := brows p) tEV (bnd_some tEV (by rw [bl]; omega) (by omega)) (bnd_some tEV (by omega) (by omega)) hsl rfl))
| ((with_reducible apply opsF.op rfl); case hs => first | exact tHT | exact tHS)
| (with_reducible first | apply opsF.nil | apply seqF.nn | apply vcF.seq | apply vcF.region | apply vcF.skip | apply vcF.block | apply vcF.exit | apply vcF.ret | apply vcF.loop | apply seqF.e | apply seqF.r | apply blkF.nn | apply blkF.e | apply blkF.r | apply blkF.o rfl)
| ((with_reducible apply opsF.call); case hx => exact tAG)
| ((with_reducible apply opsF.want); (case hg => exact tEV); case hb => exact tNB)
| ((with_reducible apply opsF.skip); (case hg => exact tEV); case hb => exact tNB)
| (first | ((with_reducible apply opsF.case); case hg => exact tEV) | ((with_reducible apply vcF.cond); case hx => exact tEV)) <;> ((intro hc; try simp only [Int.reduceLT, Int.reduceLE, Int.reduceEq, Int.reduceNe, Int.cast_ofNat_Int, Int.reduceNeg, reduceCtorEq, ne_eq, ge_iff_le, gt_iff_lt, beq_iff_eq, beq_eq_false_iff_ne, bne_iff_ne, bne_eq_false_iff_eq, nrm, *] at hc) <;> try (exfalso; omega))
| ((with_reducible apply opsF.und); case hg => rfl)
| ((with_reducible first | apply retF.r | apply retF.nn); case hv => exact tRS)
| ((refine (hdr _).mono fun v h3 hp => ?_); obtain ⟨tm3, rfl, ap3, tq3, tr3, tt3, tl3, O3, T3⟩ := hp)
| fail)
          all_goals exact ⟨(a + w.toNat + 1), by omega, i + 1, ⟨⟨t1, y ++ o1, ml, tok, n3, o3, m3, t3, ⟨ap3, tq3, tr3, tt3, tl3, O3, T3⟩, j1, j2, j3, jin, k3, e1.h, e2.h, rfl, by first | exact q10 | rfl⟩, q0, q1, q6, ⟨tm, q7⟩, q8, by first | rfl | (congr 2; omega), rfl⟩, by omega, by omega⟩
        | cons c mr =>
          have xm2 := mrows_len mr
          have hml2 : (ml.length : Int) + (mr.length : Int) ≤ 3001 := by rw [List.length_cons] at hml; omega
          repeat' (first
| ((with_reducible apply opsF.op rfl); (case hs => exact is_slL (a := a) (b := (a + w.toNat + 1)) (rows' := brows p) tEV (bnd_some tEV (by rw [bl]; omega) (by omega)) (bnd_some tEV (by omega) (by omega)) hsl rfl))
| ((with_reducible apply opsF.op rfl); (case hs => exact is_app (r := mrow c) (new := mrows mr) tEV tEV rfl hap (by omega) rfl))
| ((with_reducible apply opsF.op rfl); case hs => first | exact tHT | exact tHS)
| (with_reducible first | apply opsF.nil | apply seqF.nn | apply vcF.seq | apply vcF.region | apply vcF.skip | apply vcF.block | apply vcF.exit | apply vcF.ret | apply vcF.loop | apply seqF.e | apply seqF.r | apply blkF.nn | apply blkF.e | apply blkF.r | apply blkF.o rfl)
| ((with_reducible apply opsF.call); case hx => exact tAG)
| ((with_reducible apply opsF.want); (case hg => exact tEV); case hb => exact tNB)
| ((with_reducible apply opsF.skip); (case hg => exact tEV); case hb => exact tNB)
| (first | ((with_reducible apply opsF.case); case hg => exact tEV) | ((with_reducible apply vcF.cond); case hx => exact tEV)) <;> ((intro hc; try simp only [Int.reduceLT, Int.reduceLE, Int.reduceEq, Int.reduceNe, Int.cast_ofNat_Int, Int.reduceNeg, reduceCtorEq, ne_eq, ge_iff_le, gt_iff_lt, beq_iff_eq, beq_eq_false_iff_ne, bne_iff_ne, bne_eq_false_iff_eq, nrm, *] at hc) <;> try (exfalso; omega))
| ((with_reducible apply opsF.und); case hg => rfl)
| ((with_reducible first | apply retF.r | apply retF.nn); case hv => exact tRS)
| ((refine (hdr _).mono fun v h3 hp => ?_); obtain ⟨tm3, rfl, ap3, tq3, tr3, tt3, tl3, O3, T3⟩ := hp; obtain ⟨tok', h4, hap, T4, y4, y5, y6⟩ := (Toks.r5 T3).app)
| fail)
          all_goals exact ⟨(a + w.toNat + 1), by omega, i + 1, ⟨⟨t1, y ++ o1, ml ++ c :: mr, tok', n3, o3, m3, t3, ⟨ap3, tq3, tr3, tt3, tl3, O3.fr ((Fr.refl [] h3).app y4 y5 y6), Toks.l5 T4⟩, j1, j2, j3, jin, k3, e1.h, e2.h, rfl, by rw [e5.h]; rfl⟩, q0, q1, q6, ⟨tm, q7⟩, q8, by first | rfl | (congr 2; omega), rfl⟩, by omega, by omega⟩
    · obtain rfl : a = b.length := by omega
      rw [List.drop_length, List.append_nil] at hR2
      obtain ⟨rfl, rfl, rfl, _⟩ := runs_idle hR2 i1 i2 i3
      rw [List.append_nil] at e1 e2
      subst e1 e2
      clear hR2 O T hin i3
      have xm := mrows_len M
      repeat' (first
| ((with_reducible apply opsF.op rfl); case hs => first | exact tHT | exact tHS)
| (with_reducible first | apply opsF.nil | apply seqF.nn | apply vcF.seq | apply vcF.region | apply vcF.skip | apply vcF.block | apply vcF.exit | apply vcF.ret | apply vcF.loop | apply seqF.e | apply seqF.r | apply blkF.nn | apply blkF.e | apply blkF.r | apply blkF.o rfl)
| ((with_reducible apply opsF.call); case hx => exact tAG)
| ((with_reducible apply opsF.want); (case hg => exact tEV); case hb => exact tNB)
| ((with_reducible apply opsF.skip); (case hg => exact tEV); case hb => exact tNB)
| (first | ((with_reducible apply opsF.case); case hg => exact tEV) | ((with_reducible apply vcF.cond); case hx => exact tEV)) <;> ((intro hc; try simp only [Int.reduceLT, Int.reduceLE, Int.reduceEq, Int.reduceNe, Int.cast_ofNat_Int, Int.reduceNeg, reduceCtorEq, ne_eq, ge_iff_le, gt_iff_lt, beq_iff_eq, beq_eq_false_iff_ne, bne_iff_ne, bne_eq_false_iff_eq, nrm, *] at hc) <;> try (exfalso; omega))
| ((with_reducible apply opsF.und); case hg => rfl)
| ((with_reducible first | apply retF.r | apply retF.nn); case hv => exact tRS))
      refine LpF.ind rfl (fun j : Nat => M.length - j) (fun j σ h' => h' = hh ∧ σ 7 = .list 3 (mrows M) tm ∧ σ 10 = .list 3 (mrows M) tok ∧ σ 16 = .v (.int .i64 (j : Nat)) ∧ j ≤ M.length) ?_ (i := 0) ⟨rfl, q7, q10, rfl, Nat.zero_le _⟩
      clear q0 q1 q6 q7 q8 q9 q10 q11 q12
      rintro j σ h' ⟨rfl, q7, q10, q16, hj⟩
      rcases Nat.lt_or_ge j M.length with hlt | hge
      · obtain ⟨e, he⟩ : ∃ e, M[j]? = some e := ⟨_, List.getElem?_eq_getElem hlt⟩
        have hg := mrows_get M j
        rw [he] at hg
        have hg : (mrows M)[j]? = some [.v (.string (bs e.sndr)), .list 1 (srows e.rc) .no, .list 1 (srows e.bd) .no] := hg
        have hb2 := hMb e (List.mem_of_getElem? he)
        have ht1 := fun ta tb h => texts_call (w0 := w0) e.rc e.rc ta tb h (by omega)
        have ht2 := fun ta tb h => texts_call (w0 := w0) e.bd e.bd ta tb h (by omega)
        rw [show decide (e.rc = e.rc) = true from decide_eq_true rfl] at ht1
        rw [show decide (e.bd = e.bd) = true from decide_eq_true rfl] at ht2
        clear hb2 hMb
        repeat' (first
| ((with_reducible apply opsF.op rfl); case hs => first | exact tHT | exact tHS)
| (with_reducible first | apply opsF.nil | apply seqF.nn | apply vcF.seq | apply vcF.region | apply vcF.skip | apply vcF.block | apply vcF.exit | apply vcF.ret | apply vcF.loop | apply seqF.e | apply seqF.r | apply blkF.nn | apply blkF.e | apply blkF.r | apply blkF.o rfl)
| ((with_reducible apply opsF.call); case hx => exact tAG)
| ((with_reducible apply opsF.want); (case hg => exact tEV); case hb => exact tNB)
| ((with_reducible apply opsF.skip); (case hg => exact tEV); case hb => exact tNB)
| (first | ((with_reducible apply opsF.case); case hg => exact tEV) | ((with_reducible apply vcF.cond); case hx => exact tEV)) <;> ((intro hc; try simp only [Int.reduceLT, Int.reduceLE, Int.reduceEq, Int.reduceNe, Int.cast_ofNat_Int, Int.reduceNeg, reduceCtorEq, ne_eq, ge_iff_le, gt_iff_lt, beq_iff_eq, beq_eq_false_iff_ne, bne_iff_ne, bne_eq_false_iff_eq, nrm, *] at hc) <;> try (exfalso; omega))
| ((with_reducible apply opsF.und); case hg => rfl)
| ((with_reducible first | apply retF.r | apply retF.nn); case hv => exact tRS)
| ((refine Call.use (ht1 _ _ _) ?_))
| ((refine Call.use (ht2 _ _ _) ?_))
| fail)
        all_goals exact ⟨j + 1, by omega, rfl, q7, q10, rfl, by omega⟩
      · obtain rfl : j = M.length := by omega
        repeat' (first
| ((with_reducible apply opsF.op rfl); case hs => first | exact tHT | exact tHS)
| (with_reducible first | apply opsF.nil | apply seqF.nn | apply vcF.seq | apply vcF.region | apply vcF.skip | apply vcF.block | apply vcF.exit | apply vcF.ret | apply vcF.loop | apply seqF.e | apply seqF.r | apply blkF.nn | apply blkF.e | apply blkF.r | apply blkF.o rfl)
| ((with_reducible apply opsF.call); case hx => exact tAG)
| ((with_reducible apply opsF.want); (case hg => exact tEV); case hb => exact tNB)
| ((with_reducible apply opsF.skip); (case hg => exact tEV); case hb => exact tNB)
| (first | ((with_reducible apply opsF.case); case hg => exact tEV) | ((with_reducible apply vcF.cond); case hx => exact tEV)) <;> ((intro hc; try simp only [Int.reduceLT, Int.reduceLE, Int.reduceEq, Int.reduceNe, Int.cast_ofNat_Int, Int.reduceNeg, reduceCtorEq, ne_eq, ge_iff_le, gt_iff_lt, beq_iff_eq, beq_eq_false_iff_ne, bne_iff_ne, bne_eq_false_iff_eq, nrm, *] at hc) <;> try (exfalso; omega))
| ((with_reducible apply opsF.und); case hg => rfl)
| ((with_reducible first | apply retF.r | apply retF.nn); case hv => exact tRS)
| ((refine Call.use (ha _) ?_))
| fail)
        all_goals rfl
  · refine Call.bodyF b_law06_ServeParts rfl rfl ?_
    unfold c_law06_ServeParts
    repeat' (first
| ((with_reducible apply opsF.op rfl); case hs => first | exact tHT | exact tHS)
| (with_reducible first | apply opsF.nil | apply seqF.nn | apply vcF.seq | apply vcF.region | apply vcF.skip | apply vcF.block | apply vcF.exit | apply vcF.ret | apply vcF.loop | apply seqF.e | apply seqF.r | apply blkF.nn | apply blkF.e | apply blkF.r | apply blkF.o rfl)
| ((with_reducible apply opsF.call); case hx => exact tAG)
| ((with_reducible apply opsF.want); (case hg => exact tEV); case hb => exact tNB)
| ((with_reducible apply opsF.skip); (case hg => exact tEV); case hb => exact tNB)
| (first | ((with_reducible apply opsF.case); case hg => exact tEV) | ((with_reducible apply vcF.cond); case hx => exact tEV)) <;> ((intro hc; try simp only [Int.reduceLT, Int.reduceLE, Int.reduceEq, Int.reduceNe, Int.cast_ofNat_Int, Int.reduceNeg, reduceCtorEq, ne_eq, ge_iff_le, gt_iff_lt, beq_iff_eq, beq_eq_false_iff_ne, bne_iff_ne, bne_eq_false_iff_eq, nrm, *] at hc) <;> try (exfalso; omega))
| ((with_reducible apply opsF.und); case hg => rfl)
| ((with_reducible first | apply retF.r | apply retF.nn); case hv => exact tRS)
| ((refine Call.use (ha _) ?_))
| fail)
    all_goals first | rfl | (exfalso; omega)
theorem law_ServeParts (W : World) (hs : W.ShapedOpen P) (hL : laidMetH P Go.Proofs.YtlmgpkopcgcbgaaGreatDoor.Rows.servePartsRow.laid W) (x0 : (Ty.slice (.int .u8)).D) (h0 : (Ty.slice (.int .u8)).wf x0) (g0 : (Ty.slice (.int .u8)).fit 140737488351232 x0) (x1 : (Ty.slice (.int .u8)).D) (h1 : (Ty.slice (.int .u8)).wf x1) (g1 : (Ty.slice (.int .u8)).fit 140737488351232 x1) :
    Call P W law06_ServeParts [(Ty.slice (.int .u8)).val x0, (Ty.slice (.int .u8)).val x1] AH.start fun v _ => v = .v (.bool true) := by
  obtain ⟨b0, e0, l0⟩ := brows_ty x0 h0
  obtain ⟨b1, e1, l1⟩ := brows_ty x1 h1
  rw [e0, e1]
  exact serveParts_main (powTab_of hL (by kernel_rfl)) (errVars_of hL (by kernel_rfl) (by kernel_rfl)) (maxLen_of hs) b0 b1 (by rw [l0]; exact g0.1) (by rw [l1]; exact g1.1)
end Go.Abs.F
