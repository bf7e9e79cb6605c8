/- What the proof needs, part 24: Layer 6: what a program that does nothing does not answer; a session that is none; openers; Layer 6: ServeOrder's law. -/
import Derived.Test.YtlmgpkopcgcbgaaGreatDoorQServeOrder22
import Derived.Test.YtlmgpkopcgcbgaaGreatDoorQServeOrder23
import Derived.Shelf.Vars
import Derived.Test.YtlmgpkopcgcbgaaGreatDoorRows
/- Layer 6: what a program that does nothing does not answer; a session that is none; openers. -/
namespace Go.Abs.F
open Go Go.Abs
set_option maxRecDepth 10000
set_option maxHeartbeats 20000000
set_option linter.unusedSimpArgs false
set_option linter.unusedVariables false
variable {w0 : World}
theorem maxLen_of {W : World} (h : W.ShapedOpen P) : MaxLen W :=
  Go.Proofs.cell_of_shapedOpen_int (zero := #[.int .i64 0]) (t := 3) h (by decide +kernel) (by kernel_rfl) (by kernel_rfl) (by kernel_rfl) (by kernel_rfl) (by kernel_rfl)
theorem errVars_of {l : List (String × DataW Unit)} {W : World} (hL : laidMetH P l W) (h1 : l.filter (fun x => x.1 == "strconv.ErrSyntax") = [("strconv.ErrSyntax", Go.Proofs.YtlmgpkopcgcbgaaGreatDoor.Rows.laid_strconv_ErrSyntax)]) (h2 : l.filter (fun x => x.1 == "strconv.ErrRange") = [("strconv.ErrRange", Go.Proofs.YtlmgpkopcgcbgaaGreatDoor.Rows.laid_strconv_ErrRange)]) : ErrVars W :=
  ⟨errSyntax_of hL h1 rfl, errRange_of hL h2 rfl⟩
/-- All the tokens there are. -/
def allT (h : AH) : List Tok := (List.range h.nt).map fun t => .own t (h.ver t)
theorem allT_toks (h : AH) : Toks h (allT h) := by
  refine ⟨fun t ht => ?_, ?_⟩
  · obtain ⟨i, hi, rfl⟩ := List.mem_map.1 ht
    exact ⟨rfl, by simpa using hi⟩
  · refine List.Pairwise.map _ (R := fun a b => a ≠ b) (fun a b hab x hx hb => ?_) List.nodup_range
    have e1 : some a = some x := hx
    have e2 : some b = some x := hb
    exact hab (by simpa using e1.trans e2.symm)
theorem Ext.ofFr {h h' : AH} {S : List Tok} (f : Fr [] h h') (k : Toks h' (S ++ allT h)) : Ext h h' :=
  ⟨f.n, f.nt, fun i hi => f.o i hi (by simp), fun t ht => by
    have := k.u (.own t (h.ver t)) (List.mem_append_right _ (List.mem_map.2 ⟨t, by simpa using ht, rfl⟩))
    exact this.1.symm⟩
theorem u8_wf {n : Int} (h : (Lit.int .u8 n).wf = true) : 0 ≤ n ∧ n ≤ 255 := by
  simp [Lit.wf, IntKind.min, IntKind.max, IntKind.signed, IntKind.bits] at h
  exact ⟨by omega, by omega⟩
theorem brows_key {f : Int → List AV} (hf : ∀ x, f x = [AV.v (.int .u8 x)]) : ∀ m : List Int, (∀ x ∈ m, 0 ≤ x ∧ x ≤ 255) → m.map f = brows (m.map fun x : Int => UInt8.ofNat x.toNat)
  | [], _ => rfl
  | x :: m, hm => by
    have hx := hm x (by simp)
    have ih := brows_key hf m (fun y hy => hm y (List.mem_cons_of_mem _ hy))
    simp only [List.map_cons, brows] at ih ⊢
    have e : (((UInt8.ofNat x.toNat).toNat : Nat) : Int) = x := by rw [UInt8.toNat_ofNat']; omega
    rw [ih, hf, e]
theorem brows_ty (l : (Ty.slice (.int .u8)).D) (hw : (Ty.slice (.int .u8)).wf l) : ∃ b : List UInt8, (Ty.slice (.int .u8)).val l = .list 1 (brows b) .no ∧ b.length = List.length l := by
  refine ⟨List.map (fun x : Int => UInt8.ofNat x.toNat) l, ?_, List.length_map _⟩
  simp only [Ty.val]
  congr 1
  exact brows_key (f := (Ty.int .u8).enc) (fun x => rfl) l (fun x hx => u8_wf (hw.2 x hx))
theorem newS_out (size rmax : Int) : (newS size rmax).out = [evSay (plainS 220)] := rfl
theorem newS_pop (size rmax : Int) : ({ newS size rmax with out := [] } : SV) = newS0 size rmax := rfl
theorem newS_in (size rmax : Int) (h1 : 1 ≤ size) (h2 : size ≤ 65536) : (newS size rmax).In 1 :=
  ⟨by show 1 + 0 + 0 ≤ 1; decide, by show 1 ≤ 1000000; decide, by constructor <;> (show _ ≤ _; unfold newS newS0 SV.say SV.put; dsimp only; omega), ⟨by show (0 : Int) ≤ 0; decide, by show (0 : Int) + ((0 : Nat) : Int) ≤ ((1 : Nat) : Int); decide⟩, by show 0 + 0 ≤ 1; decide, by show 0 + 0 + 0 ≤ 1; decide, fun e he => by
    rw [newS_out, List.mem_singleton] at he
    subst he
    decide, fun e he => (by cases he)⟩
theorem newS0_in (size rmax : Int) (h1 : 1 ≤ size) (h2 : size ≤ 65536) : (newS0 size rmax).In 1 := (newS_in size rmax h1 h2).pop (newS_out size rmax)
theorem verb_QUIT : verbS bQUIT = (0, (nQUIT, [], -1, false)) := by kernel_rfl
def ansS : SV := ({ newS0 99 2 with wait := [] } : SV).say 221
theorem answers06_call (hP : PowTab w0) (hE : ErrVars w0) (hM : MaxLen w0) (h : AH) : Call P w0 law06_answers [] h (fun v h' => v = .v (.bool true) ∧ h' = h) := by
  refine Call.gc (Q := fun v h' => v = .v (.bool true) ∧ Ext h h') ?_ fun v h' hq => ⟨hq.1 ▸ .v _, hq.2, hq.1⟩
  have hnew := fun h hT => snew_call (w0 := w0) hP 99 2 (allT h) h hT (by decide) (by decide) (by decide) (by decide)
  have s1 : Setl (newS 99 2) (newS 99 2) := .stop (.inl (by rw [newS_out]; simp))
  have i1 := newS_in 99 2 (by decide) (by decide)
  have i2 := (newS0_in 99 2 (by decide) (by decide)).feed (bQUIT ++ [13, 10])
  have e2 : (newS0 99 2).feed (bQUIT ++ [13, 10]) = { newS0 99 2 with wait := bQUIT ++ [13, 10] } := rfl
  have s2 : Setl ((newS0 99 2).feed (bQUIT ++ [13, 10])) ansS.shut := by
    rw [e2]
    refine .go rfl rfl rfl (a := bQUIT) (r := []) (by decide) ?_
    rw [take_cmd rfl (by decide) (by decide) (by decide) (by decide), command_ok verb_QUIT, dv_QUIT]
    exact .stop (.inl (by simp [ansS, SV.shut, SV.say, SV.put]))
  have o2 : ansS.shut.out = [evSay (plainS 221), evShut] := rfl
  have hnx1 := fun x ap tq tr tt tl R h1 H T => snext_call (w0 := w0) hP hE hM x _ _ ap tq tr tt tl R 1 h1 H T s1 i1 (by decide)
  have hfd := fun x ap tq tr tt tl tb R h1 H T => sfeed_call (w0 := w0) x (newS0 99 2) ap tq tr tt tl tb R (bQUIT ++ [13, 10]) h1 H T (by decide)
  have hnx2 := fun x ap tq tr tt tl R h1 H T => snext_call (w0 := w0) hP hE hM x _ _ ap tq tr tt tl R (1 + (bQUIT ++ [13, 10]).length) h1 H T s2 i2 (by decide)
  unfold NextP at hnx1 hnx2
  rw [newS_out] at hnx1
  rw [o2] at hnx2
  dsimp only at hnx1 hnx2
  unfold evSay erow at hnx1 hnx2
  rw [p220] at hnx1
  rw [p221] at hnx2
  dsimp only at hnx1 hnx2
  rw [newS_pop] at hnx1
  rw [show brows (bQUIT ++ [13, 10]) = [[.v (.int .u8 81)], [.v (.int .u8 85)], [.v (.int .u8 73)], [.v (.int .u8 84)], [.v (.int .u8 13)], [.v (.int .u8 10)]] from rfl] at hfd
  generalize (newS0 99 2).feed (bQUIT ++ [13, 10]) = A1 at *
  generalize newS0 99 2 = A0 at *
  generalize newS 99 2 = A2 at *
  clear s1 i1 i2 e2 s2 o2
  have da := drop_at
  have dn := drop_n
  refine Call.bodyF b_law06_answers rfl rfl ?_
  unfold c_law06_answers
  repeat' (first
| ((with_reducible apply opsF.op rfl); case hs => first | exact tHT | exact tHS)
| (with_reducible first | apply opsF.nil | apply seqF.nn | apply vcF.seq | apply vcF.region | apply vcF.skip | apply vcF.ret | apply seqF.r)
| ((with_reducible apply opsF.call); case hx => exact tAG)
| ((with_reducible apply opsF.want); (case hg => exact tEV); case hb => exact tNB)
| ((with_reducible apply opsF.skip); (case hg => exact tEV); case hb => exact tNB)
| (first | ((with_reducible apply opsF.case); case hg => exact tEV) | ((with_reducible apply vcF.cond); case hx => exact tEV)) <;> ((intro hc; try simp only [Int.reduceLT, Int.reduceLE, Int.reduceEq, Int.reduceNe, Int.cast_ofNat_Int, Int.reduceNeg, reduceCtorEq, ne_eq, ge_iff_le, gt_iff_lt, beq_iff_eq, beq_eq_false_iff_ne, bne_iff_ne, bne_eq_false_iff_eq, nrm, *] at hc) <;> try (exfalso; omega))
| ((with_reducible apply opsF.und); case hg => rfl)
| ((with_reducible first | apply retF.r | apply retF.nn); case hv => exact tRS)
| ((with_reducible apply opsF.op rfl); (case hs => exact is_cvb tEV tHE (by rfl)))
| ((refine (hnew _ (allT_toks _)).mono fun v h1 hp => ?_); obtain ⟨x, rfl, N1⟩ := hp; obtain ⟨ap, tq, tr, tt, tl, O1, T1⟩ := N1.o; have F1 := N1.e; have I1 := N1.f)
| ((refine (hnx1 x _ _ _ _ _ _ _ O1 T1).mono fun v h2 hp => ?_); obtain ⟨rfl, ⟨⟨ap2, tq2, tr2, tt2, tl2, O2, T2⟩, F2⟩⟩ := hp)
| ((refine (hfd x _ _ _ _ _ _ _ _ (O2.ext (by repeat' (first | exact Ext.refl _ | (refine Ext.set ?_ (by first | exact Nat.le_refl _ | (simp only [alloc_n, set_n]; omega) | (simp only [alloc_n, set_n, drop_n]; omega)) _) | (refine Ext.trans ?_ (Ext.alloc _ _)) | (refine Ext.drop ?_ (by first | exact Nat.le_refl _ | (simp only [alloc_n, set_n, drop_n]; omega)))))) (T2.ext (by repeat' (first | exact Ext.refl _ | (refine Ext.set ?_ (by first | exact Nat.le_refl _ | (simp only [alloc_n, set_n]; omega) | (simp only [alloc_n, set_n, drop_n]; omega)) _) | (refine Ext.trans ?_ (Ext.alloc _ _)) | (refine Ext.drop ?_ (by first | exact Nat.le_refl _ | (simp only [alloc_n, set_n, drop_n]; omega))))))).mono fun v h3 hp => ?_); obtain ⟨⟨ap3, tq3, tr3, tt3, tl3, O3, T3⟩, F3⟩ := hp; have oN := F3.o h2.n (by simp only [alloc_n, set_n, drop_n]; omega) (by have := O2.lt; simp [SK.ids]; omega); simp (disch := omega) only [drop_at, alloc_at, alloc_n, set_n, set_at, if_neg, if_pos, eq_self, if_true] at oN; have hN3 := F3.n; simp only [alloc_n, set_n, drop_n] at hN3)
| ((refine (hnx2 x _ _ _ _ _ _ _ O3 T3).mono fun v h4 hp => ?_); obtain ⟨rfl, ⟨⟨ap4, tq4, tr4, tt4, tl4, O4, T4⟩, F4⟩⟩ := hp; have oM := F4.o h2.n (by omega) (by have := O2.lt; simp [SK.ids]; omega); rw [oN] at oM; have hN4 := F4.n)
| fail)
  all_goals exact ⟨by simp, Ext.ofFr (S := [tq4, tr4, tt4, tl4]) ((Fr.fresh (Fr.fresh ((Fr.fresh F1 F2 I1).trans (Fr.ext (by repeat' (first | exact Ext.refl _ | (refine Ext.set ?_ (by first | exact Nat.le_refl _ | (simp only [alloc_n, set_n]; omega) | (simp only [alloc_n, set_n, drop_n]; omega)) _) | (refine Ext.trans ?_ (Ext.alloc _ _)) | (refine Ext.drop ?_ (by first | exact Nat.le_refl _ | (simp only [alloc_n, set_n, drop_n]; omega))))))) F3 I1) F4 I1).trans (Fr.ext (by repeat' (first | exact Ext.refl _ | (refine Ext.set ?_ (by first | exact Nat.le_refl _ | (simp only [alloc_n, set_n]; omega) | (simp only [alloc_n, set_n, drop_n]; omega)) _) | (refine Ext.trans ?_ (Ext.alloc _ _)) | (refine Ext.drop ?_ (by first | exact Nat.le_refl _ | (simp only [alloc_n, set_n, drop_n]; omega))))))) (T4.ext (by repeat' (first | exact Ext.refl _ | (refine Ext.set ?_ (by first | exact Nat.le_refl _ | (simp only [alloc_n, set_n]; omega) | (simp only [alloc_n, set_n, drop_n]; omega)) _) | (refine Ext.trans ?_ (Ext.alloc _ _)) | (refine Ext.drop ?_ (by first | exact Nat.le_refl _ | (simp only [alloc_n, set_n, drop_n]; omega))))))⟩
end Go.Abs.F
/- Layer 6: ServeOrder's law. -/
namespace Go.Abs.F
open Go Go.Abs
set_option maxRecDepth 60000
set_option maxHeartbeats 20000000
set_option linter.unusedSimpArgs false
set_option linter.unusedVariables false
variable {w0 : World}
theorem new_runs (size rmax : Int) : Runs ((newS size rmax).feed []) 1 (plainS 220 ++ []) [] (newS0 size rmax) :=
  runs_say (s := newS0 size rmax) rfl (.done rfl rfl (.inr rfl))
def lOrows : List (List AV) := [[.v (.string (bs [77, 65, 73, 76, 32, 70, 82, 79, 77, 58, 60, 97, 64, 98, 62, 13, 10]))], [.v (.string (bs [82, 67, 80, 84, 32, 84, 79, 58, 60, 99, 64, 100, 62, 13, 10]))], [.v (.string (bs [68, 65, 84, 65, 13, 10, 46, 13, 10]))], [.v (.string (bs [82, 83, 69, 84, 13, 10]))], [.v (.string (bs [69, 72, 76, 79, 32, 120, 13, 10]))]]
structure OrI (x : SK) (which : L8) (a b : Bool) (n i : Nat) (σ : Fm) (hh : AH) : Prop where
  o : ∃ ap tq tr tt tl, SvO hh x (stO a b n) ap tq tr tt tl ∧ Toks hh (tq :: tr :: tt :: tl :: [])
  g0 : σ 0 = .list 1 (brows which) .no
  g3 : σ 3 = .list 1 lOrows .full
  g4 : σ 4 = .ptr x.id 0
  g5 : σ 5 = .v (.bool a)
  g6 : σ 6 = .v (.bool b)
  g7 : σ 7 = .v (.int .i64 (n : Nat))
  g8 : σ 8 = .v (.int .i64 (i : Nat))
/-- A command that is driven. -/
theorem ord_call (hP : PowTab w0) (hE : ErrVars w0) (hM : MaxLen w0) (x : SK) (a b : Bool) (n k : Nat) (code : L8) (ml : Nat) (t : SV) (ap : AV) (tq tr tt tl tb : Tok) (h : AH) (H : SvO h x (stO a b n) ap tq tr tt tl) (hT : Toks h (tq :: tr :: tt :: tl :: [])) (hn : n ≤ 3) (hk : OrdR (stO a b n) k code ml t) :
    Call P w0 law06_drive [.ptr x.id 0, .list 1 (brows (lO k)) tb] h (fun v h' => ∃ o m tm, v = .tup [.v (.string (bs o)), .list 3 (mrows m) tm] ∧ (∃ ap tq tr tt tl, SvO h' x t ap tq tr tt tl ∧ Toks h' (tq :: tr :: tt :: tl :: [])) ∧ o.take 3 = code ∧ (3 ≤ (o.length : Int)) ∧ (o.length : Int) ≤ 2000 ∧ (m.length : Int) = (ml : Int)) := by
  obtain ⟨n', o, m, hr, hn', h3, hl1, hl2, hm⟩ := hk.r
  have hb : (lO k).length ≤ 100 := by
    unfold lO
    split <;> decide
  refine (sdrive_call hP hE hM x (stO a b n) t ap tq tr tt tl tb [] 3 n' (lO k) o m h H hT (stO_in a b n hn 3 (by omega)) (by omega) hr (by omega) (by omega)).mono fun v h' hp => ?_
  obtain ⟨tm, rfl, ⟨⟨ap3, tq3, tr3, tt3, tl3, O3, T3⟩, F3⟩⟩ := hp
  exact ⟨o, m, tm, rfl, ⟨ap3, tq3, tr3, tt3, tl3, O3, (Toks.r5 T3).tail⟩, h3, by omega, by omega, by omega⟩
theorem serveOrder_main (hP : PowTab w0) (hE : ErrVars w0) (hM : MaxLen w0) (which : L8) (hl : which.length ≤ 140737488351232) : Call P w0 law06_ServeOrder [.list 1 (brows which) .no] AH.start (fun v _ => v = .v (.bool true)) := by
  have ha := fun h => answers06_call (w0 := w0) hP hE hM h
  have bl := brows_len
  have bg := brows_get
  have hnew := fun h hT => snew_call (w0 := w0) hP 100 3 [] h hT (by decide) (by decide) (by decide) (by decide)
  have hdr0 := fun x ap tq tr tt tl R h1 H T => sdrive_call (w0 := w0) hP hE hM x (newS 100 3) (newS0 100 3) ap tq tr tt tl .full R 1 1 [] _ _ h1 H T (newS_in 100 3 (by decide) (by decide)) (by decide) (new_runs 100 3) (by decide) (by rw [p220]; decide)
  rw [show brows [] = [] from rfl] at hdr0
  refine Call.bodyF b_law06_ServeOrder rfl rfl ?_
  unfold c_law06_ServeOrder
  by_cases hg : (which.length : Int) ≤ 40
  · repeat' (first
| ((with_reducible apply opsF.op rfl); case hs => first | exact tHT | exact tHS)
| (with_reducible first | apply opsF.nil | apply seqF.nn | apply vcF.seq | apply vcF.region | apply vcF.skip | apply vcF.block | apply vcF.exit | apply vcF.ret | apply vcF.loop | apply seqF.e | apply seqF.r | apply blkF.nn | apply blkF.e | apply blkF.r | apply blkF.o rfl)
| ((with_reducible apply opsF.call); case hx => exact tAG)
| ((with_reducible apply opsF.want); (case hg => exact tEV); case hb => exact tNB)
| ((with_reducible apply opsF.skip); (case hg => exact tEV); case hb => exact tNB)
| (first | ((with_reducible apply opsF.case); case hg => exact tEV) | ((with_reducible apply vcF.cond); case hx => exact tEV)) <;> ((intro hc; try simp only [Int.reduceLT, Int.reduceLE, Int.reduceEq, Int.reduceNe, Int.cast_ofNat_Int, Int.reduceNeg, reduceCtorEq, ne_eq, ge_iff_le, gt_iff_lt, beq_iff_eq, beq_eq_false_iff_ne, bne_iff_ne, bne_eq_false_iff_eq, nrm, *] at hc) <;> try (exfalso; omega))
| ((with_reducible apply opsF.und); case hg => rfl)
| ((with_reducible first | apply retF.r | apply retF.nn); case hv => exact tRS)
| ((refine (hnew _ (Toks.nil _)).mono fun v h1 hp => ?_); obtain ⟨x, rfl, N1⟩ := hp; obtain ⟨ap, tq, tr, tt, tl, O1, T1⟩ := N1.o)
| ((refine (hdr0 x _ _ _ _ _ _ _ O1 T1).mono fun v h2 hp => ?_); obtain ⟨tm, rfl, ⟨⟨ap2, tq2, tr2, tt2, tl2, O2, T2⟩, F2⟩⟩ := hp)
| fail)
    refine LpF.ind rfl (fun i : Nat => which.length - i) (fun i σ hh => ∃ a b n, OrI x which a b n i σ hh ∧ (b = true → a = true) ∧ (n ≠ 0 → b = true) ∧ n ≤ 3 ∧ i ≤ which.length) ?_ (i := 0) ⟨false, false, 0, ⟨⟨ap2, tq2, tr2, tt2, tl2, O2, (Toks.r5 T2).tail⟩, rfl, rfl, rfl, rfl, rfl, rfl, rfl⟩, by simp, by simp, by omega, Nat.zero_le _⟩
    clear hnew hdr0 O1 T1 O2 T2 F2 N1
    rintro i σ hh ⟨a, b, n, ⟨⟨ap, tq, tr, tt, tl, O, T⟩, g0, g3, g4, g5, g6, g7, g8⟩, hab, hnb, hn3, hi⟩
    rcases Nat.lt_or_ge i which.length with hlt | hge
    · obtain ⟨w, hw⟩ : ∃ w, which[i]? = some w := ⟨_, List.getElem?_eq_getElem hlt⟩
      have hwl := w.toNat_lt
      unfold lOrows at g3
      have hdr := fun k code ml t tb hk => ord_call (w0 := w0) hP hE hM x a b n k code ml t ap tq tr tt tl tb hh O T hn3 hk
      have hk5 : Int.tmod (w.toNat : Int) 5 = 0 ∨ Int.tmod (w.toNat : Int) 5 = 1 ∨ Int.tmod (w.toNat : Int) 5 = 2 ∨ Int.tmod (w.toNat : Int) 5 = 3 ∨ Int.tmod (w.toNat : Int) 5 = 4 := by
        rw [Int.tmod_eq_emod_of_nonneg (by omega)]; omega
      clear ha O T
      rcases hk5 with hk | hk | hk | hk | hk
      · cases b with
        | true =>
          have hd := fun tb => hdr 0 [53, 48, 51] 0 (stO a true n) tb (stO_mail a true n (.inr rfl))
          clear hdr
          repeat' (first
| ((with_reducible apply opsF.op rfl); case hs => first | exact tHT | exact tHS)
| (with_reducible first | apply opsF.nil | apply seqF.nn | apply vcF.seq | apply vcF.region | apply vcF.skip | apply vcF.block | apply vcF.exit | apply vcF.ret | apply vcF.loop | apply seqF.e | apply seqF.r | apply blkF.nn | apply blkF.e | apply blkF.r | apply blkF.o rfl)
| ((with_reducible apply opsF.call); case hx => exact tAG)
| ((with_reducible apply opsF.want); (case hg => exact tEV); case hb => exact tNB)
| ((with_reducible apply opsF.skip); (case hg => exact tEV); case hb => exact tNB)
| (first | ((with_reducible apply opsF.case); case hg => exact tEV) | ((with_reducible apply vcF.cond); case hx => exact tEV)) <;> ((intro hc; try simp only [Int.reduceLT, Int.reduceLE, Int.reduceEq, Int.reduceNe, Int.cast_ofNat_Int, Int.reduceNeg, reduceCtorEq, ne_eq, ge_iff_le, gt_iff_lt, beq_iff_eq, beq_eq_false_iff_ne, bne_iff_ne, bne_eq_false_iff_eq, nrm, *] at hc) <;> try (exfalso; omega))
| ((with_reducible apply opsF.und); case hg => rfl)
| ((with_reducible first | apply retF.r | apply retF.nn); case hv => exact tRS)
| ((refine (hd _).mono fun v h3 hp => ?_); obtain ⟨o, m, tm, rfl, hO3, q1, q2, q3, q4⟩ := hp; have xm := mrows_len m)
| fail)
          all_goals first | (exfalso; revert hc; decide) | exact ⟨i + 1, by omega, a, true, n, ⟨hO3, g0, g3, g4, by first | exact g5 | rfl, by first | exact g6 | rfl, by first | exact g7 | rfl, rfl⟩, by first | exact hab | simp, by first | exact hnb | simp, by omega, by omega⟩
        | false =>
          obtain rfl : n = 0 := by
            rcases Nat.eq_zero_or_pos n with h | h
            · exact h
            · exact absurd (hnb (by omega)) (by simp)
          cases a with
          | false =>
            have hd := fun tb => hdr 0 [53, 48, 51] 0 (stO false false 0) tb (stO_mail false false 0 (.inl rfl))
            clear hdr
            repeat' (first
| ((with_reducible apply opsF.op rfl); case hs => first | exact tHT | exact tHS)
| (with_reducible first | apply opsF.nil | apply seqF.nn | apply vcF.seq | apply vcF.region | apply vcF.skip | apply vcF.block | apply vcF.exit | apply vcF.ret | apply vcF.loop | apply seqF.e | apply seqF.r | apply blkF.nn | apply blkF.e | apply blkF.r | apply blkF.o rfl)
| ((with_reducible apply opsF.call); case hx => exact tAG)
| ((with_reducible apply opsF.want); (case hg => exact tEV); case hb => exact tNB)
| ((with_reducible apply opsF.skip); (case hg => exact tEV); case hb => exact tNB)
| (first | ((with_reducible apply opsF.case); case hg => exact tEV) | ((with_reducible apply vcF.cond); case hx => exact tEV)) <;> ((intro hc; try simp only [Int.reduceLT, Int.reduceLE, Int.reduceEq, Int.reduceNe, Int.cast_ofNat_Int, Int.reduceNeg, reduceCtorEq, ne_eq, ge_iff_le, gt_iff_lt, beq_iff_eq, beq_eq_false_iff_ne, bne_iff_ne, bne_eq_false_iff_eq, nrm, *] at hc) <;> try (exfalso; omega))
| ((with_reducible apply opsF.und); case hg => rfl)
| ((with_reducible first | apply retF.r | apply retF.nn); case hv => exact tRS)
| ((refine (hd _).mono fun v h3 hp => ?_); obtain ⟨o, m, tm, rfl, hO3, q1, q2, q3, q4⟩ := hp; have xm := mrows_len m)
| fail)
            all_goals first | (exfalso; revert hc; decide) | exact ⟨i + 1, by omega, false, false, 0, ⟨hO3, g0, g3, g4, by first | exact g5 | rfl, by first | exact g6 | rfl, by first | exact g7 | rfl, rfl⟩, by first | exact hab | simp, by first | exact hnb | simp, by omega, by omega⟩
          | true =>
            have hd := fun tb => hdr 0 [50, 53, 48] 0 (stO true true 0) tb (stO_mail1 0)
            clear hdr
            repeat' (first
| ((with_reducible apply opsF.op rfl); case hs => first | exact tHT | exact tHS)
| (with_reducible first | apply opsF.nil | apply seqF.nn | apply vcF.seq | apply vcF.region | apply vcF.skip | apply vcF.block | apply vcF.exit | apply vcF.ret | apply vcF.loop | apply seqF.e | apply seqF.r | apply blkF.nn | apply blkF.e | apply blkF.r | apply blkF.o rfl)
| ((with_reducible apply opsF.call); case hx => exact tAG)
| ((with_reducible apply opsF.want); (case hg => exact tEV); case hb => exact tNB)
| ((with_reducible apply opsF.skip); (case hg => exact tEV); case hb => exact tNB)
| (first | ((with_reducible apply opsF.case); case hg => exact tEV) | ((with_reducible apply vcF.cond); case hx => exact tEV)) <;> ((intro hc; try simp only [Int.reduceLT, Int.reduceLE, Int.reduceEq, Int.reduceNe, Int.cast_ofNat_Int, Int.reduceNeg, reduceCtorEq, ne_eq, ge_iff_le, gt_iff_lt, beq_iff_eq, beq_eq_false_iff_ne, bne_iff_ne, bne_eq_false_iff_eq, nrm, *] at hc) <;> try (exfalso; omega))
| ((with_reducible apply opsF.und); case hg => rfl)
| ((with_reducible first | apply retF.r | apply retF.nn); case hv => exact tRS)
| ((refine (hd _).mono fun v h3 hp => ?_); obtain ⟨o, m, tm, rfl, hO3, q1, q2, q3, q4⟩ := hp; have xm := mrows_len m)
| fail)
            all_goals first | (exfalso; revert hc; decide) | exact ⟨i + 1, by omega, true, true, 0, ⟨hO3, g0, g3, g4, by first | exact g5 | rfl, by first | exact g6 | rfl, by first | exact g7 | rfl, rfl⟩, by first | exact hab | simp, by first | exact hnb | simp, by omega, by omega⟩
      · cases b with
        | false =>
          obtain rfl : n = 0 := by
            rcases Nat.eq_zero_or_pos n with h | h
            · exact h
            · exact absurd (hnb (by omega)) (by simp)
          have hd := fun tb => hdr 1 [53, 48, 51] 0 (stO a false 0) tb (stO_rcpt a 0)
          clear hdr
          repeat' (first
| ((with_reducible apply opsF.op rfl); case hs => first | exact tHT | exact tHS)
| (with_reducible first | apply opsF.nil | apply seqF.nn | apply vcF.seq | apply vcF.region | apply vcF.skip | apply vcF.block | apply vcF.exit | apply vcF.ret | apply vcF.loop | apply seqF.e | apply seqF.r | apply blkF.nn | apply blkF.e | apply blkF.r | apply blkF.o rfl)
| ((with_reducible apply opsF.call); case hx => exact tAG)
| ((with_reducible apply opsF.want); (case hg => exact tEV); case hb => exact tNB)
| ((with_reducible apply opsF.skip); (case hg => exact tEV); case hb => exact tNB)
| (first | ((with_reducible apply opsF.case); case hg => exact tEV) | ((with_reducible apply vcF.cond); case hx => exact tEV)) <;> ((intro hc; try simp only [Int.reduceLT, Int.reduceLE, Int.reduceEq, Int.reduceNe, Int.cast_ofNat_Int, Int.reduceNeg, reduceCtorEq, ne_eq, ge_iff_le, gt_iff_lt, beq_iff_eq, beq_eq_false_iff_ne, bne_iff_ne, bne_eq_false_iff_eq, nrm, *] at hc) <;> try (exfalso; omega))
| ((with_reducible apply opsF.und); case hg => rfl)
| ((with_reducible first | apply retF.r | apply retF.nn); case hv => exact tRS)
| ((refine (hd _).mono fun v h3 hp => ?_); obtain ⟨o, m, tm, rfl, hO3, q1, q2, q3, q4⟩ := hp; have xm := mrows_len m)
| fail)
          all_goals first | (exfalso; revert hc; decide) | exact ⟨i + 1, by omega, a, false, 0, ⟨hO3, g0, g3, g4, by first | exact g5 | rfl, by first | exact g6 | rfl, by first | exact g7 | rfl, rfl⟩, by first | exact hab | simp, by first | exact hnb | simp, by omega, by omega⟩
        | true =>
          obtain rfl : a = true := hab rfl
          by_cases hn2 : n = 3
          · subst hn2
            have hd := fun tb => hdr 1 [52, 53, 50] 0 (stO true true 3) tb (stO_rcpt3 true)
            clear hdr
            repeat' (first
| ((with_reducible apply opsF.op rfl); case hs => first | exact tHT | exact tHS)
| (with_reducible first | apply opsF.nil | apply seqF.nn | apply vcF.seq | apply vcF.region | apply vcF.skip | apply vcF.block | apply vcF.exit | apply vcF.ret | apply vcF.loop | apply seqF.e | apply seqF.r | apply blkF.nn | apply blkF.e | apply blkF.r | apply blkF.o rfl)
| ((with_reducible apply opsF.call); case hx => exact tAG)
| ((with_reducible apply opsF.want); (case hg => exact tEV); case hb => exact tNB)
| ((with_reducible apply opsF.skip); (case hg => exact tEV); case hb => exact tNB)
| (first | ((with_reducible apply opsF.case); case hg => exact tEV) | ((with_reducible apply vcF.cond); case hx => exact tEV)) <;> ((intro hc; try simp only [Int.reduceLT, Int.reduceLE, Int.reduceEq, Int.reduceNe, Int.cast_ofNat_Int, Int.reduceNeg, reduceCtorEq, ne_eq, ge_iff_le, gt_iff_lt, beq_iff_eq, beq_eq_false_iff_ne, bne_iff_ne, bne_eq_false_iff_eq, nrm, *] at hc) <;> try (exfalso; omega))
| ((with_reducible apply opsF.und); case hg => rfl)
| ((with_reducible first | apply retF.r | apply retF.nn); case hv => exact tRS)
| ((refine (hd _).mono fun v h3 hp => ?_); obtain ⟨o, m, tm, rfl, hO3, q1, q2, q3, q4⟩ := hp; have xm := mrows_len m)
| fail)
            all_goals first | (exfalso; revert hc; decide) | exact ⟨i + 1, by omega, true, true, 3, ⟨hO3, g0, g3, g4, by first | exact g5 | rfl, by first | exact g6 | rfl, by first | exact g7 | rfl, rfl⟩, by first | exact hab | simp, by first | exact hnb | simp, by omega, by omega⟩
          · have hn4 : n < 3 := by omega
            have hd := fun tb => hdr 1 [50, 53, 48] 0 (stO true true (n + 1)) tb (stO_rcpt1 true n hn4)
            clear hdr
            repeat' (first
| ((with_reducible apply opsF.op rfl); case hs => first | exact tHT | exact tHS)
| (with_reducible first | apply opsF.nil | apply seqF.nn | apply vcF.seq | apply vcF.region | apply vcF.skip | apply vcF.block | apply vcF.exit | apply vcF.ret | apply vcF.loop | apply seqF.e | apply seqF.r | apply blkF.nn | apply blkF.e | apply blkF.r | apply blkF.o rfl)
| ((with_reducible apply opsF.call); case hx => exact tAG)
| ((with_reducible apply opsF.want); (case hg => exact tEV); case hb => exact tNB)
| ((with_reducible apply opsF.skip); (case hg => exact tEV); case hb => exact tNB)
| (first | ((with_reducible apply opsF.case); case hg => exact tEV) | ((with_reducible apply vcF.cond); case hx => exact tEV)) <;> ((intro hc; try simp only [Int.reduceLT, Int.reduceLE, Int.reduceEq, Int.reduceNe, Int.cast_ofNat_Int, Int.reduceNeg, reduceCtorEq, ne_eq, ge_iff_le, gt_iff_lt, beq_iff_eq, beq_eq_false_iff_ne, bne_iff_ne, bne_eq_false_iff_eq, nrm, *] at hc) <;> try (exfalso; omega))
| ((with_reducible apply opsF.und); case hg => rfl)
| ((with_reducible first | apply retF.r | apply retF.nn); case hv => exact tRS)
| ((refine (hd _).mono fun v h3 hp => ?_); obtain ⟨o, m, tm, rfl, hO3, q1, q2, q3, q4⟩ := hp; have xm := mrows_len m)
| fail)
            all_goals first | (exfalso; revert hc; decide) | exact ⟨i + 1, by omega, true, true, n + 1, ⟨hO3, g0, g3, g4, by first | exact g5 | rfl, by first | exact g6 | rfl, by first | exact g7 | rfl, rfl⟩, by first | exact hab | simp, by first | exact hnb | simp, by omega, by omega⟩
      · cases n with
        | zero =>
          have hd := fun tb => hdr 2 [53, 48, 51] 0 (stO a b 0) tb (stO_data0 a b)
          clear hdr
          repeat' (first
| ((with_reducible apply opsF.op rfl); case hs => first | exact tHT | exact tHS)
| (with_reducible first | apply opsF.nil | apply seqF.nn | apply vcF.seq | apply vcF.region | apply vcF.skip | apply vcF.block | apply vcF.exit | apply vcF.ret | apply vcF.loop | apply seqF.e | apply seqF.r | apply blkF.nn | apply blkF.e | apply blkF.r | apply blkF.o rfl)
| ((with_reducible apply opsF.call); case hx => exact tAG)
| ((with_reducible apply opsF.want); (case hg => exact tEV); case hb => exact tNB)
| ((with_reducible apply opsF.skip); (case hg => exact tEV); case hb => exact tNB)
| (first | ((with_reducible apply opsF.case); case hg => exact tEV) | ((with_reducible apply vcF.cond); case hx => exact tEV)) <;> ((intro hc; try simp only [Int.reduceLT, Int.reduceLE, Int.reduceEq, Int.reduceNe, Int.cast_ofNat_Int, Int.reduceNeg, reduceCtorEq, ne_eq, ge_iff_le, gt_iff_lt, beq_iff_eq, beq_eq_false_iff_ne, bne_iff_ne, bne_eq_false_iff_eq, nrm, *] at hc) <;> try (exfalso; omega))
| ((with_reducible apply opsF.und); case hg => rfl)
| ((with_reducible first | apply retF.r | apply retF.nn); case hv => exact tRS)
| ((refine (hd _).mono fun v h3 hp => ?_); obtain ⟨o, m, tm, rfl, hO3, q1, q2, q3, q4⟩ := hp; have xm := mrows_len m)
| fail)
          all_goals first | (exfalso; revert hc; decide) | exact ⟨i + 1, by omega, a, b, 0, ⟨hO3, g0, g3, g4, by first | exact g5 | rfl, by first | exact g6 | rfl, by first | exact g7 | rfl, rfl⟩, by first | exact hab | simp, by first | exact hnb | simp, by omega, by omega⟩
        | succ n =>
          obtain rfl : b = true := hnb (by omega)
          obtain rfl : a = true := hab rfl
          have hd := fun tb => hdr 2 [51, 53, 52] 1 (stO true false 0) tb (stO_data1 true true n)
          clear hdr
          repeat' (first
| ((with_reducible apply opsF.op rfl); case hs => first | exact tHT | exact tHS)
| (with_reducible first | apply opsF.nil | apply seqF.nn | apply vcF.seq | apply vcF.region | apply vcF.skip | apply vcF.block | apply vcF.exit | apply vcF.ret | apply vcF.loop | apply seqF.e | apply seqF.r | apply blkF.nn | apply blkF.e | apply blkF.r | apply blkF.o rfl)
| ((with_reducible apply opsF.call); case hx => exact tAG)
| ((with_reducible apply opsF.want); (case hg => exact tEV); case hb => exact tNB)
| ((with_reducible apply opsF.skip); (case hg => exact tEV); case hb => exact tNB)
| (first | ((with_reducible apply opsF.case); case hg => exact tEV) | ((with_reducible apply vcF.cond); case hx => exact tEV)) <;> ((intro hc; try simp only [Int.reduceLT, Int.reduceLE, Int.reduceEq, Int.reduceNe, Int.cast_ofNat_Int, Int.reduceNeg, reduceCtorEq, ne_eq, ge_iff_le, gt_iff_lt, beq_iff_eq, beq_eq_false_iff_ne, bne_iff_ne, bne_eq_false_iff_eq, nrm, *] at hc) <;> try (exfalso; omega))
| ((with_reducible apply opsF.und); case hg => rfl)
| ((with_reducible first | apply retF.r | apply retF.nn); case hv => exact tRS)
| ((refine (hd _).mono fun v h3 hp => ?_); obtain ⟨o, m, tm, rfl, hO3, q1, q2, q3, q4⟩ := hp; have xm := mrows_len m)
| fail)
          all_goals first | (exfalso; revert hc; decide) | exact ⟨i + 1, by omega, true, false, 0, ⟨hO3, g0, g3, g4, by first | exact g5 | rfl, by first | exact g6 | rfl, by first | exact g7 | rfl, rfl⟩, by first | exact hab | simp, by first | exact hnb | simp, by omega, by omega⟩
      · cases a with
        | true =>
          have hd := fun tb => hdr 3 [50, 53, 48] 0 (stO true false 0) tb (stO_rset true b n)
          clear hdr
          repeat' (first
| ((with_reducible apply opsF.op rfl); case hs => first | exact tHT | exact tHS)
| (with_reducible first | apply opsF.nil | apply seqF.nn | apply vcF.seq | apply vcF.region | apply vcF.skip | apply vcF.block | apply vcF.exit | apply vcF.ret | apply vcF.loop | apply seqF.e | apply seqF.r | apply blkF.nn | apply blkF.e | apply blkF.r | apply blkF.o rfl)
| ((with_reducible apply opsF.call); case hx => exact tAG)
| ((with_reducible apply opsF.want); (case hg => exact tEV); case hb => exact tNB)
| ((with_reducible apply opsF.skip); (case hg => exact tEV); case hb => exact tNB)
| (first | ((with_reducible apply opsF.case); case hg => exact tEV) | ((with_reducible apply vcF.cond); case hx => exact tEV)) <;> ((intro hc; try simp only [Int.reduceLT, Int.reduceLE, Int.reduceEq, Int.reduceNe, Int.cast_ofNat_Int, Int.reduceNeg, reduceCtorEq, ne_eq, ge_iff_le, gt_iff_lt, beq_iff_eq, beq_eq_false_iff_ne, bne_iff_ne, bne_eq_false_iff_eq, nrm, *] at hc) <;> try (exfalso; omega))
| ((with_reducible apply opsF.und); case hg => rfl)
| ((with_reducible first | apply retF.r | apply retF.nn); case hv => exact tRS)
| ((refine (hd _).mono fun v h3 hp => ?_); obtain ⟨o, m, tm, rfl, hO3, q1, q2, q3, q4⟩ := hp; have xm := mrows_len m)
| fail)
          all_goals first | (exfalso; revert hc; decide) | exact ⟨i + 1, by omega, true, false, 0, ⟨hO3, g0, g3, g4, by first | exact g5 | rfl, by first | exact g6 | rfl, by first | exact g7 | rfl, rfl⟩, by first | exact hab | simp, by first | exact hnb | simp, by omega, by omega⟩
        | false =>
          have hd := fun tb => hdr 3 [50, 53, 48] 0 (stO false false 0) tb (stO_rset false b n)
          clear hdr
          repeat' (first
| ((with_reducible apply opsF.op rfl); case hs => first | exact tHT | exact tHS)
| (with_reducible first | apply opsF.nil | apply seqF.nn | apply vcF.seq | apply vcF.region | apply vcF.skip | apply vcF.block | apply vcF.exit | apply vcF.ret | apply vcF.loop | apply seqF.e | apply seqF.r | apply blkF.nn | apply blkF.e | apply blkF.r | apply blkF.o rfl)
| ((with_reducible apply opsF.call); case hx => exact tAG)
| ((with_reducible apply opsF.want); (case hg => exact tEV); case hb => exact tNB)
| ((with_reducible apply opsF.skip); (case hg => exact tEV); case hb => exact tNB)
| (first | ((with_reducible apply opsF.case); case hg => exact tEV) | ((with_reducible apply vcF.cond); case hx => exact tEV)) <;> ((intro hc; try simp only [Int.reduceLT, Int.reduceLE, Int.reduceEq, Int.reduceNe, Int.cast_ofNat_Int, Int.reduceNeg, reduceCtorEq, ne_eq, ge_iff_le, gt_iff_lt, beq_iff_eq, beq_eq_false_iff_ne, bne_iff_ne, bne_eq_false_iff_eq, nrm, *] at hc) <;> try (exfalso; omega))
| ((with_reducible apply opsF.und); case hg => rfl)
| ((with_reducible first | apply retF.r | apply retF.nn); case hv => exact tRS)
| ((refine (hd _).mono fun v h3 hp => ?_); obtain ⟨o, m, tm, rfl, hO3, q1, q2, q3, q4⟩ := hp; have xm := mrows_len m)
| fail)
          all_goals first | (exfalso; revert hc; decide) | exact ⟨i + 1, by omega, false, false, 0, ⟨hO3, g0, g3, g4, by first | exact g5 | rfl, by first | exact g6 | rfl, by first | exact g7 | rfl, rfl⟩, by first | exact hab | simp, by first | exact hnb | simp, by omega, by omega⟩
      · cases a with
        | true =>
          have hd := fun tb => hdr 4 [50, 53, 48] 0 (stO true false 0) tb (stO_ehlo true b n)
          clear hdr
          repeat' (first
| ((with_reducible apply opsF.op rfl); case hs => first | exact tHT | exact tHS)
| (with_reducible first | apply opsF.nil | apply seqF.nn | apply vcF.seq | apply vcF.region | apply vcF.skip | apply vcF.block | apply vcF.exit | apply vcF.ret | apply vcF.loop | apply seqF.e | apply seqF.r | apply blkF.nn | apply blkF.e | apply blkF.r | apply blkF.o rfl)
| ((with_reducible apply opsF.call); case hx => exact tAG)
| ((with_reducible apply opsF.want); (case hg => exact tEV); case hb => exact tNB)
| ((with_reducible apply opsF.skip); (case hg => exact tEV); case hb => exact tNB)
| (first | ((with_reducible apply opsF.case); case hg => exact tEV) | ((with_reducible apply vcF.cond); case hx => exact tEV)) <;> ((intro hc; try simp only [Int.reduceLT, Int.reduceLE, Int.reduceEq, Int.reduceNe, Int.cast_ofNat_Int, Int.reduceNeg, reduceCtorEq, ne_eq, ge_iff_le, gt_iff_lt, beq_iff_eq, beq_eq_false_iff_ne, bne_iff_ne, bne_eq_false_iff_eq, nrm, *] at hc) <;> try (exfalso; omega))
| ((with_reducible apply opsF.und); case hg => rfl)
| ((with_reducible first | apply retF.r | apply retF.nn); case hv => exact tRS)
| ((refine (hd _).mono fun v h3 hp => ?_); obtain ⟨o, m, tm, rfl, hO3, q1, q2, q3, q4⟩ := hp; have xm := mrows_len m)
| fail)
          all_goals first | (exfalso; revert hc; decide) | exact ⟨i + 1, by omega, true, false, 0, ⟨hO3, g0, g3, g4, by first | exact g5 | rfl, by first | exact g6 | rfl, by first | exact g7 | rfl, rfl⟩, by first | exact hab | simp, by first | exact hnb | simp, by omega, by omega⟩
        | false =>
          have hd := fun tb => hdr 4 [50, 53, 48] 0 (stO true false 0) tb (stO_ehlo false b n)
          clear hdr
          repeat' (first
| ((with_reducible apply opsF.op rfl); case hs => first | exact tHT | exact tHS)
| (with_reducible first | apply opsF.nil | apply seqF.nn | apply vcF.seq | apply vcF.region | apply vcF.skip | apply vcF.block | apply vcF.exit | apply vcF.ret | apply vcF.loop | apply seqF.e | apply seqF.r | apply blkF.nn | apply blkF.e | apply blkF.r | apply blkF.o rfl)
| ((with_reducible apply opsF.call); case hx => exact tAG)
| ((with_reducible apply opsF.want); (case hg => exact tEV); case hb => exact tNB)
| ((with_reducible apply opsF.skip); (case hg => exact tEV); case hb => exact tNB)
| (first | ((with_reducible apply opsF.case); case hg => exact tEV) | ((with_reducible apply vcF.cond); case hx => exact tEV)) <;> ((intro hc; try simp only [Int.reduceLT, Int.reduceLE, Int.reduceEq, Int.reduceNe, Int.cast_ofNat_Int, Int.reduceNeg, reduceCtorEq, ne_eq, ge_iff_le, gt_iff_lt, beq_iff_eq, beq_eq_false_iff_ne, bne_iff_ne, bne_eq_false_iff_eq, nrm, *] at hc) <;> try (exfalso; omega))
| ((with_reducible apply opsF.und); case hg => rfl)
| ((with_reducible first | apply retF.r | apply retF.nn); case hv => exact tRS)
| ((refine (hd _).mono fun v h3 hp => ?_); obtain ⟨o, m, tm, rfl, hO3, q1, q2, q3, q4⟩ := hp; have xm := mrows_len m)
| fail)
          all_goals first | (exfalso; revert hc; decide) | exact ⟨i + 1, by omega, true, false, 0, ⟨hO3, g0, g3, g4, by first | exact g5 | rfl, by first | exact g6 | rfl, by first | exact g7 | rfl, rfl⟩, by first | exact hab | simp, by first | exact hnb | simp, by omega, by omega⟩
    · obtain rfl : i = which.length := by omega
      repeat' (first
| ((with_reducible apply opsF.op rfl); case hs => first | exact tHT | exact tHS)
| (with_reducible first | apply opsF.nil | apply seqF.nn | apply vcF.seq | apply vcF.region | apply vcF.skip | apply vcF.block | apply vcF.exit | apply vcF.ret | apply vcF.loop | apply seqF.e | apply seqF.r | apply blkF.nn | apply blkF.e | apply blkF.r | apply blkF.o rfl)
| ((with_reducible apply opsF.call); case hx => exact tAG)
| ((with_reducible apply opsF.want); (case hg => exact tEV); case hb => exact tNB)
| ((with_reducible apply opsF.skip); (case hg => exact tEV); case hb => exact tNB)
| (first | ((with_reducible apply opsF.case); case hg => exact tEV) | ((with_reducible apply vcF.cond); case hx => exact tEV)) <;> ((intro hc; try simp only [Int.reduceLT, Int.reduceLE, Int.reduceEq, Int.reduceNe, Int.cast_ofNat_Int, Int.reduceNeg, reduceCtorEq, ne_eq, ge_iff_le, gt_iff_lt, beq_iff_eq, beq_eq_false_iff_ne, bne_iff_ne, bne_eq_false_iff_eq, nrm, *] at hc) <;> try (exfalso; omega))
| ((with_reducible apply opsF.und); case hg => rfl)
| ((with_reducible first | apply retF.r | apply retF.nn); case hv => exact tRS)
| ((refine Call.use (ha _) ?_))
| fail)
      all_goals rfl
  · repeat' (first
| ((with_reducible apply opsF.op rfl); case hs => first | exact tHT | exact tHS)
| (with_reducible first | apply opsF.nil | apply seqF.nn | apply vcF.seq | apply vcF.region | apply vcF.skip | apply vcF.block | apply vcF.exit | apply vcF.ret | apply vcF.loop | apply seqF.e | apply seqF.r | apply blkF.nn | apply blkF.e | apply blkF.r | apply blkF.o rfl)
| ((with_reducible apply opsF.call); case hx => exact tAG)
| ((with_reducible apply opsF.want); (case hg => exact tEV); case hb => exact tNB)
| ((with_reducible apply opsF.skip); (case hg => exact tEV); case hb => exact tNB)
| (first | ((with_reducible apply opsF.case); case hg => exact tEV) | ((with_reducible apply vcF.cond); case hx => exact tEV)) <;> ((intro hc; try simp only [Int.reduceLT, Int.reduceLE, Int.reduceEq, Int.reduceNe, Int.cast_ofNat_Int, Int.reduceNeg, reduceCtorEq, ne_eq, ge_iff_le, gt_iff_lt, beq_iff_eq, beq_eq_false_iff_ne, bne_iff_ne, bne_eq_false_iff_eq, nrm, *] at hc) <;> try (exfalso; omega))
| ((with_reducible apply opsF.und); case hg => rfl)
| ((with_reducible first | apply retF.r | apply retF.nn); case hv => exact tRS)
| ((refine Call.use (ha _) ?_))
| fail)
    all_goals rfl
theorem law_ServeOrder (W : World) (hs : W.ShapedOpen P) (hL : laidMetH P Go.Proofs.YtlmgpkopcgcbgaaGreatDoor.Rows.serveOrderRow.laid W) (x0 : (Ty.slice (.int .u8)).D) (h0 : (Ty.slice (.int .u8)).wf x0) (g0 : (Ty.slice (.int .u8)).fit 140737488351232 x0) :
    Call P W law06_ServeOrder [(Ty.slice (.int .u8)).val x0] AH.start fun v _ => v = .v (.bool true) := by
  obtain ⟨b, hb, hl⟩ := brows_ty x0 h0
  rw [hb]
  exact serveOrder_main (powTab_of hL (by kernel_rfl)) (errVars_of hL (by kernel_rfl) (by kernel_rfl)) (maxLen_of hs) b (by rw [hl]; exact g0.1)
end Go.Abs.F
