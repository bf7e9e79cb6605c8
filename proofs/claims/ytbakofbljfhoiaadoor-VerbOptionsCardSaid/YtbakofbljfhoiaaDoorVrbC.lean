/- Layer 3: commands: the reference's. Layer 3: commands: the reference's. Layer 3: commands: the reference's. -/
import Derived.Test.YtbakofbljfhoiaaDoorVrbB
namespace Go.Abs.F
open Go Go.Abs
set_option maxRecDepth 10000
set_option maxHeartbeats 20000000
set_option linter.unusedSimpArgs false
set_option linter.unusedVariables false
variable {w0 : World}
theorem rverb_other (a r : List UInt8) (h : AH) (hl : (a ++ 32 :: r).length ≤ 1000000000) (h1 : 32 ∉ a) (hm1 : ¬ upperS a = [77, 65, 73, 76]) (hm2 : ¬ upperS a = [82, 67, 80, 84]) : Call P w0 ref01_Verb [.v (.string (bs (a ++ 32 :: r)))] h (fun v h' => v = codeV (verbS (a ++ 32 :: r)) ∧ Ext h h') := by
  have hfind := fun h => rfind_call (w0 := w0) (a ++ 32 :: r) 32 h (by omega)
  rw [idx_hit h1] at hfind
  have hA : (cutB 32 (a ++ 32 :: r)).1 = a := by rw [cutB_hit h1]
  have hR : (cutB 32 (a ++ 32 :: r)).2.1 = r := by rw [cutB_hit h1]
  have hB : (cutB 32 (a ++ 32 :: r)).2.2 = true := by rw [cutB_hit h1]
  have hlen : (a ++ 32 :: r).length = a.length + (r.length + 1) := by simp
  have ht : (a ++ 32 :: r).take a.length = a := by simp
  have hd : (a ++ 32 :: r).drop (a.length + 1) = r := by
    rw [← List.drop_drop]; simp
  have hd2 : ((a ++ 32 :: r).take (a.length + (r.length + 1))).drop (a.length + 1) = r := by
    rw [← hlen, List.take_length]; exact hd
  have ht1 : ((a.length : Int) + 1).toNat = a.length + 1 := by omega
  generalize a ++ 32 :: r = s at *
  have hup := fun h => rupper_call (w0 := w0) a h (by omega)
  generalize hU : upperS a = nm at *
  have hdo := fun h => rdomain_call (w0 := w0) r h (by omega)
  have hlo := fun h => rlower_call (w0 := w0) r h (by omega)
  have hr0 : True := trivial
  refine Call.bodyF b_ref01_Verb rfl rfl ?_
  unfold c_ref01_Verb
  cases hdd : domainS r
  all_goals rw [hdd] at hdo
  all_goals repeat' (first
    | ((with_reducible apply opsF.op rfl); (case hs => (first | exact tHT | exact tHS)))
    | with_reducible (first | apply opsF.nil | apply seqF.nn | apply vcF.seq | apply vcF.region | apply vcF.skip | apply vcF.block | apply vcF.exit | apply vcF.ret | apply vcF.loop | apply seqF.e | apply seqF.r | apply blkF.nn | apply blkF.e | apply blkF.r | apply blkF.o rfl)
    | ((with_reducible apply opsF.call); (case hx => exact tAG))
    | ((with_reducible apply opsF.want); (case hg => exact tEV); (case hb => exact tNB))
    | ((with_reducible apply opsF.skip); (case hg => exact tEV); (case hb => exact tNB))
    | (first | ((with_reducible apply opsF.case); (case hg => exact tEV)) | ((with_reducible apply vcF.cond); (case hx => exact tEV))) <;> ((intro hc; try simp only [Int.reduceLT, Int.reduceLE, Int.reduceEq, Int.reduceNe, Int.cast_ofNat_Int, Int.reduceNeg, decide_true, decide_false, not_true_eq_false, not_false_eq_true, decide_eq_true_eq, decide_eq_false_iff_not, Bool.not_eq_true', Bool.not_eq_false', Bool.not_true, Bool.not_false, Bool.false_eq_true, Bool.true_eq_false, Bool.not_eq_true, Bool.not_eq_false, beq_iff_eq, beq_eq_false_iff_ne, bne_iff_ne, bne_eq_false_iff_eq, ne_eq, Int.not_lt, Int.not_le, ge_iff_le, gt_iff_lt, Decidable.not_not, reduceCtorEq, *] at hc) <;> (try (exfalso; omega)))
    | ((with_reducible apply opsF.und); (case hg => rfl))
    | ((with_reducible apply retF.r); (case hv => exact tRS))
    | ((with_reducible apply retF.nn); (case hv => exact tRS))
    | ((refine (hfind _).mono fun v h2 hp => ?_); obtain ⟨rfl, rfl⟩ := hp)
    | ((refine (hup _).mono fun v h2 hp => ?_); obtain ⟨rfl, he⟩ := hp; have hN := he.n; have hO := he.objs; (try simp only [alloc_n, set_n, newTok_n, bump_n] at hN hO))
    | ((refine (hdo _).mono fun v h3 hp => ?_); obtain ⟨rfl, he2⟩ := hp; have hN := he2.n; have hO := he2.objs; (try simp only [alloc_n, set_n, newTok_n, bump_n] at hN hO))
    | ((refine (hlo _).mono fun v h4 hp => ?_); obtain ⟨rfl, he3⟩ := hp; have hN := he3.n; have hO := he3.objs; (try simp only [alloc_n, set_n, newTok_n, bump_n] at hN hO)))
  all_goals refine ⟨?_, ?_⟩
  all_goals first
    | (rw [verbS, cmd_HELO hA hR hB hU (by assumption)]; first | rfl | (simp only [hdd, greetS, if_true, if_false, Bool.false_eq_true]; rfl) | (rw [if_pos (by assumption)]; rfl) | (rw [if_neg (by assumption)]; rfl))
    | (rw [verbS, cmd_EHLO hA hR hB hU (by assumption)]; first | rfl | (simp only [hdd, greetS, if_true, if_false, Bool.false_eq_true]; rfl) | (rw [if_pos (by assumption)]; rfl) | (rw [if_neg (by assumption)]; rfl))
    | (rw [verbS, cmd_DATA hA hR hB hU (by assumption)]; first | rfl | (simp only [hdd, greetS, if_true, if_false, Bool.false_eq_true]; rfl) | (rw [if_pos (by assumption)]; rfl) | (rw [if_neg (by assumption)]; rfl))
    | (rw [verbS, cmd_RSET hA hR hB hU (by assumption)]; first | rfl | (simp only [hdd, greetS, if_true, if_false, Bool.false_eq_true]; rfl) | (rw [if_pos (by assumption)]; rfl) | (rw [if_neg (by assumption)]; rfl))
    | (rw [verbS, cmd_QUIT hA hR hB hU (by assumption)]; first | rfl | (simp only [hdd, greetS, if_true, if_false, Bool.false_eq_true]; rfl) | (rw [if_pos (by assumption)]; rfl) | (rw [if_neg (by assumption)]; rfl))
    | (rw [verbS, cmd_NOOP hA hR hB hU (by assumption)]; first | rfl | (simp only [hdd, greetS, if_true, if_false, Bool.false_eq_true]; rfl) | (rw [if_pos (by assumption)]; rfl) | (rw [if_neg (by assumption)]; rfl))
    | (rw [verbS, cmd_VRFY hA hR hB hU (by assumption)]; first | rfl | (simp only [hdd, greetS, if_true, if_false, Bool.false_eq_true]; rfl) | (rw [if_pos (by assumption)]; rfl) | (rw [if_neg (by assumption)]; rfl))
    | (rw [verbS, cmd_none hA hR hB hU (by assumption) (by assumption) (by assumption) (by assumption) (by assumption) (by assumption) (by assumption) (by assumption) (by assumption)]; rfl)
    | (repeat' first
        | exact (Ext.alloc _ _).trans he
        | refine Ext.trans ?_ he3
        | refine Ext.trans ?_ he2
        | refine Ext.set ?_ (by first | exact Nat.le_refl _ | omega | (simp only [alloc_n, set_n] at *; omega)) _
        | refine Ext.trans ?_ (Ext.alloc _ _))
end Go.Abs.F
namespace Go.Abs.F
open Go Go.Abs
set_option maxRecDepth 10000
set_option maxHeartbeats 20000000
set_option linter.unusedSimpArgs false
set_option linter.unusedVariables false
variable {w0 : World}
def zeroC : AObj := .cells [.v (.string (bs [])), .v (.string (bs [])), .v (.int .i64 0), .v (.bool false)]
/-- The objects of the loop: the result's, the verb's, the empty one's. -/
structure CM (h hh : AH) (i j k : Nat) (cs : List AV) : Prop where
  res : hh.objs i = some (.cells [.v (.string (bs [])), .v (.string (bs [])), .v (.int .i64 0), .v (.bool false)])
  vb : hh.objs j = some (.cells cs)
  nn : hh.objs k = some (.cells [.v (.string (bs [])), .v (.string (bs [])), .v (.int .i64 0), .v (.bool false)])
  hi : h.n ≤ i
  ij : i < j
  jk : j < k
  kl : k < hh.n
  ext : Ext h hh
theorem CM.after {h hh h' : AH} {i j k : Nat} {cs : List AV} (c : CM h hh i j k cs) (e : Ext hh h') : CM h h' i j k cs :=
  ⟨(e.objs i (by have := c.ij; have := c.jk; have := c.kl; omega)).trans c.res, (e.objs j (by have := c.jk; have := c.kl; omega)).trans c.vb, (e.objs k c.kl).trans c.nn, c.hi, c.ij, c.jk, Nat.lt_of_lt_of_le c.kl e.n, c.ext.trans e⟩
theorem CM.setv {h hh : AH} {i j k : Nat} {cs : List AV} (c : CM h hh i j k cs) (cs' : List AV) : CM h (hh.set j (.cells cs')) i j k cs' := by
  have h1 := c.ij
  have h2 := c.jk
  have h3 := c.hi
  refine ⟨?_, by simp [set_at], ?_, c.hi, c.ij, c.jk, c.kl, c.ext.set (by omega) _⟩
  · rw [set_at, if_neg (by omega)]; exact c.res
  · rw [set_at, if_neg (by omega)]; exact c.nn
theorem rverb_mail (a r : List UInt8) (h : AH) (hl : (a ++ 32 :: r).length ≤ 1000000000) (h1 : 32 ∉ a) (hm : upperS a = [77, 65, 73, 76]) : Call P w0 ref01_Verb [.v (.string (bs (a ++ 32 :: r)))] h (fun v h' => v = codeV (verbS (a ++ 32 :: r)) ∧ Ext h h') := by
  have hfind := fun h => rfind_call (w0 := w0) (a ++ 32 :: r) 32 h (by omega)
  rw [idx_hit h1] at hfind
  have hA : (cutB 32 (a ++ 32 :: r)).1 = a := by rw [cutB_hit h1]
  have hR : (cutB 32 (a ++ 32 :: r)).2.1 = r := by rw [cutB_hit h1]
  have hB : (cutB 32 (a ++ 32 :: r)).2.2 = true := by rw [cutB_hit h1]
  have hlen : (a ++ 32 :: r).length = a.length + (r.length + 1) := by simp
  have ht : (a ++ 32 :: r).take a.length = a := by simp
  have hd : (a ++ 32 :: r).drop (a.length + 1) = r := by
    rw [← List.drop_drop]; simp
  have hd2 : ((a ++ 32 :: r).take (a.length + (r.length + 1))).drop (a.length + 1) = r := by
    rw [← hlen, List.take_length]; exact hd
  have ht1 : ((a.length : Int) + 1).toNat = a.length + 1 := by omega
  generalize a ++ 32 :: r = s at *
  have hup := fun h => rupper_call (w0 := w0) a h (by omega)
  generalize hU : upperS a = nm at *
  have hv : verbS s = normS (mailS nm r) := by rw [verbS, cmd_MAIL hA hR hB hU hm, hm]
  have m0 : ¬ nm = [72, 69, 76, 79] := by rw [hm]; decide
  have m1 : ¬ nm = [69, 72, 76, 79] := by rw [hm]; decide
  have m2 : ¬ nm = [68, 65, 84, 65] := by rw [hm]; decide
  have m3 : ¬ nm = [82, 83, 69, 84] := by rw [hm]; decide
  have m4 : ¬ nm = [81, 85, 73, 84] := by rw [hm]; decide
  have m5 : ¬ nm = [78, 79, 79, 80] := by rw [hm]; decide
  have m6 : ¬ nm = [86, 82, 70, 89] := by rw [hm]; decide
  have m9 : ¬ nm = [82, 67, 80, 84] := by rw [hm]; decide
  have my : (nm = [77, 65, 73, 76]) = True := eq_true hm
  clear hm
  rw [hv]
  clear hv hA hR hB hU
  have xl := srows_len
  have xg := srows_get
  refine Call.bodyF b_ref01_Verb rfl rfl ?_
  unfold c_ref01_Verb mailS
  have hldl : ([70, 82, 79, 77, 58] : List UInt8).length = 5 := rfl
  by_cases hr5 : 5 ≤ r.length
  · have hup2 := fun h => rupper_call (w0 := w0) (r.take 5) h (by rw [List.length_take]; omega)
    by_cases hu : upperS (r.take 5) = [70, 82, 79, 77, 58]
    · rw [hu] at hup2
      have hpw : pathW [70, 82, 79, 77, 58] r = (pathO ((splB 32 (r.drop 5)).headD [])).map fun m => (m, (splB 32 (r.drop 5)).tail) := by
        rw [pathW, if_pos ⟨by rw [hldl]; exact hr5, hu⟩, hldl]
      rw [hpw]
      clear hpw hldl
      have hdl : (r.drop 5).length ≤ r.length := by rw [List.length_drop]; omega
      have hcut := fun h => rcut_call (w0 := w0) (r.drop 5) 32 h (by omega)
      have hsl := splB_len (c := 32) (r.drop 5).length (Nat.le_refl _)
      have hne := splB_ne 32 (r.drop 5)
      have hwm : ∀ w ∈ splB 32 (r.drop 5), w.length ≤ 1000000000 := fun w hw => by
        have := splB_mem (r.drop 5).length (Nat.le_refl _) hw
        omega
      have htk : r.take r.length = r := List.take_length
      generalize splB 32 (r.drop 5) = ws at *
      obtain ⟨w, wt, rfl⟩ : ∃ w wt, ws = w :: wt := by
        cases ws with
        | nil => exact absurd rfl hne
        | cons a b => exact ⟨a, b, rfl⟩
      have hw0 : (w :: wt)[0]? = some w := rfl
      have hwn : (w :: wt).length = wt.length + 1 := rfl
      have hpa := fun h => rpath_call (w0 := w0) w h (hwm w (by simp))
      have hdr : (w :: wt).drop 1 = wt := rfl
      simp only [List.headD_cons, List.tail_cons]
      clear hne
      generalize pathO w = q at *
      generalize w :: wt = ws at *
      cases q with
      | none =>
        simp only [optV] at *
        repeat' (first
    | ((with_reducible apply opsF.op rfl); (case hs => (first | exact tHT | exact tHS)))
    | with_reducible (first | apply opsF.nil | apply seqF.nn | apply vcF.seq | apply vcF.region | apply vcF.skip | apply vcF.block | apply vcF.exit | apply vcF.ret | apply vcF.loop | apply seqF.e | apply seqF.r | apply blkF.nn | apply blkF.e | apply blkF.r | apply blkF.o rfl)
    | ((with_reducible apply opsF.call); (case hx => exact tAG))
    | ((with_reducible apply opsF.want); (case hg => exact tEV); (case hb => exact tNB))
    | ((with_reducible apply opsF.skip); (case hg => exact tEV); (case hb => exact tNB))
    | (first | ((with_reducible apply opsF.case); (case hg => exact tEV)) | ((with_reducible apply vcF.cond); (case hx => exact tEV))) <;> ((intro hc; try simp only [Int.reduceLT, Int.reduceLE, Int.reduceEq, Int.reduceNe, Int.cast_ofNat_Int, Int.reduceNeg, decide_true, decide_false, not_true_eq_false, not_false_eq_true, decide_eq_true_eq, decide_eq_false_iff_not, Bool.not_eq_true', Bool.not_eq_false', Bool.not_true, Bool.not_false, Bool.false_eq_true, Bool.true_eq_false, Bool.not_eq_true, Bool.not_eq_false, beq_iff_eq, beq_eq_false_iff_ne, bne_iff_ne, bne_eq_false_iff_eq, ne_eq, Int.not_lt, Int.not_le, ge_iff_le, gt_iff_lt, Decidable.not_not, reduceCtorEq, *] at hc) <;> (try (exfalso; omega)))
    | ((with_reducible apply opsF.und); (case hg => rfl))
    | ((with_reducible apply retF.r); (case hv => exact tRS))
    | ((with_reducible apply retF.nn); (case hv => exact tRS))
    | ((refine (hfind _).mono fun v h2 hp => ?_); obtain ⟨rfl, rfl⟩ := hp)
    | ((refine (hup _).mono fun v h2 hp => ?_); obtain ⟨rfl, he⟩ := hp; have hN := he.n; have hO := he.objs; (try simp only [alloc_n, set_n, newTok_n, bump_n] at hN hO))
    | ((refine (hup2 _).mono fun v h3 hp => ?_); obtain ⟨rfl, he2⟩ := hp; have hN := he2.n; have hO := he2.objs; (try simp only [alloc_n, set_n, newTok_n, bump_n] at hN hO))
    | ((refine (hcut _).mono fun v h4 hp => ?_); obtain ⟨rfl, rfl⟩ := hp)
    | ((refine (hpa _).mono fun v h4 hp => ?_); obtain ⟨rfl, he3⟩ := hp; have hN := he3.n; have hO := he3.objs; (try simp only [alloc_n, set_n, newTok_n, bump_n] at hN hO)))
        all_goals refine ⟨rfl, ?_⟩
        all_goals repeat' first
          | exact (Ext.alloc _ _).trans he
          | refine Ext.trans ?_ he3
          | refine Ext.trans ?_ he2
          | refine Ext.set ?_ (by first | exact Nat.le_refl _ | omega | (simp only [alloc_n, set_n] at *; omega)) _
          | refine Ext.trans ?_ (Ext.alloc _ _)
      | some m =>
        simp only [optV] at *
        simp only [Option.map_some]
        repeat' (first
    | ((with_reducible apply opsF.op rfl); (case hs => (first | exact tHT | exact tHS)))
    | with_reducible (first | apply opsF.nil | apply seqF.nn | apply vcF.seq | apply vcF.region | apply vcF.skip | apply vcF.block | apply vcF.exit | apply vcF.ret | apply vcF.loop | apply seqF.e | apply seqF.r | apply blkF.nn | apply blkF.e | apply blkF.r | apply blkF.o rfl)
    | ((with_reducible apply opsF.call); (case hx => exact tAG))
    | ((with_reducible apply opsF.want); (case hg => exact tEV); (case hb => exact tNB))
    | ((with_reducible apply opsF.skip); (case hg => exact tEV); (case hb => exact tNB))
    | (first | ((with_reducible apply opsF.case); (case hg => exact tEV)) | ((with_reducible apply vcF.cond); (case hx => exact tEV))) <;> ((intro hc; try simp only [Int.reduceLT, Int.reduceLE, Int.reduceEq, Int.reduceNe, Int.cast_ofNat_Int, Int.reduceNeg, decide_true, decide_false, not_true_eq_false, not_false_eq_true, decide_eq_true_eq, decide_eq_false_iff_not, Bool.not_eq_true', Bool.not_eq_false', Bool.not_true, Bool.not_false, Bool.false_eq_true, Bool.true_eq_false, Bool.not_eq_true, Bool.not_eq_false, beq_iff_eq, beq_eq_false_iff_ne, bne_iff_ne, bne_eq_false_iff_eq, ne_eq, Int.not_lt, Int.not_le, ge_iff_le, gt_iff_lt, Decidable.not_not, reduceCtorEq, *] at hc) <;> (try (exfalso; omega)))
    | ((with_reducible apply opsF.und); (case hg => rfl))
    | ((with_reducible apply retF.r); (case hv => exact tRS))
    | ((with_reducible apply retF.nn); (case hv => exact tRS))
    | ((refine (hfind _).mono fun v h2 hp => ?_); obtain ⟨rfl, rfl⟩ := hp)
    | ((refine (hup _).mono fun v h2 hp => ?_); obtain ⟨rfl, he⟩ := hp; have hN := he.n; have hO := he.objs; (try simp only [alloc_n, set_n, newTok_n, bump_n] at hN hO))
    | ((refine (hup2 _).mono fun v h3 hp => ?_); obtain ⟨rfl, he2⟩ := hp; have hN := he2.n; have hO := he2.objs; (try simp only [alloc_n, set_n, newTok_n, bump_n] at hN hO))
    | ((refine (hcut _).mono fun v h4 hp => ?_); obtain ⟨rfl, rfl⟩ := hp)
    | ((refine (hpa _).mono fun v h4 hp => ?_); obtain ⟨rfl, he3⟩ := hp; have hN := he3.n; have hO := he3.objs; (try simp only [alloc_n, set_n, newTok_n, bump_n] at hN hO)))
        generalize hE0 : eachG optS (-1, false, false) 0 wt = E at *
        have e0 : h4.objs h.n = some (.cells [.v (.string (bs [])), .v (.string (bs [])), .v (.int .i64 0), .v (.bool false)]) := by
          refine (he3.objs h.n (by omega)).trans ((he2.objs h.n (by simp only [alloc_n, set_n]; omega)).trans ?_)
          simp (disch := omega) only [set_at, alloc_at, alloc_n, set_n, if_neg, if_pos, eq_self, if_true]
          exact (he.objs h.n (by simp [alloc_n])).trans (by simp [alloc_at])
        have e1 : h4.objs (h2.n + 1) = some (.cells [.v (.string (bs [])), .v (.string (bs [])), .v (.int .i64 0), .v (.bool false)]) := by
          refine (he3.objs (h2.n + 1) (by omega)).trans ((he2.objs (h2.n + 1) (by simp only [alloc_n, set_n]; omega)).trans ?_)
          simp (disch := omega) only [set_at, alloc_at, alloc_n, set_n, if_neg, if_pos, eq_self, if_true]
        have hEx : Ext h h4 := by
          refine Ext.trans ?_ he3
          refine Ext.trans ?_ he2
          refine Ext.set ?_ (by simp only [alloc_n, set_n]; omega) _
          refine Ext.trans ?_ (Ext.alloc _ _)
          refine Ext.set ?_ (by omega) _
          refine Ext.trans ?_ (Ext.alloc _ _)
          exact (Ext.alloc _ _).trans he
        have hCM : CM h (h4.set h2.n (.cells [.v (.string (bs nm)), .v (.string (bs m)), .v (.int .i64 (-1)), .v (.bool false)])) h.n h2.n (h2.n + 1) [.v (.string (bs nm)), .v (.string (bs m)), .v (.int .i64 (-1)), .v (.bool false)] := by
          refine ⟨?_, by simp [set_at], ?_, Nat.le_refl _, by omega, by omega, by simp only [set_n]; omega, hEx.set (by omega) _⟩
          · rw [set_at, if_neg (by omega)]; exact e0
          · rw [set_at, if_neg (by omega)]; exact e1
        have hwsl : ws.length ≤ 1000000001 := by omega
        clear hup hup2 hfind hcut hpa e0 e1 hEx m0 m1 m2 m3 m4 m5 m6 hlen ht hd hd2 ht1 hsl htk hdl hu
        refine LpF.ind rfl (fun i : Nat => ws.length - i) (fun i σ hh => ∃ (st : OS) (b : Bool), CM h hh h.n h2.n (h2.n + 1) [.v (.string (bs nm)), .v (.string (bs m)), .v (.int .i64 st.1), .v (.bool st.2.1)] ∧ E = eachG optS st (if b = true then 555 else 0) (ws.drop i) ∧ σ 2 = .ptr h.n 0 ∧ σ 8 = .ptr h2.n 0 ∧ σ 9 = .ptr (h2.n + 1) 0 ∧ σ 11 = .list 1 (srows ws) .no ∧ σ 14 = .v (.bool st.2.2) ∧ σ 15 = .v (.bool b) ∧ σ 16 = .v (.int .i64 (i : Nat)) ∧ 1 ≤ i ∧ i ≤ ws.length) ?_ (i := 1) ⟨(-1, false, false), false, hCM, by rw [hdr, ← hE0]; rfl, rfl, rfl, rfl, rfl, rfl, rfl, rfl, by omega, by omega⟩
        clear hE0 hCM he he2 he3
        rintro i σ hh ⟨⟨sz, wd, bd⟩, b, hC, hEq, g2, g8, g9, g11, g14, g15, g16, hi1, hi⟩
        simp only [] at hC hEq g14
        obtain ⟨c1, c2, c3, c4, c5, c6, c7, c8⟩ := id hC
        rcases Nat.lt_or_ge i ws.length with hlt | hge
        · obtain ⟨w', hw'⟩ : ∃ x, ws[i]? = some x := ⟨_, List.getElem?_eq_getElem hlt⟩
          have hwl := hwm w' (List.mem_of_getElem? hw')
          have hup3 := fun h => rupper_call (w0 := w0) w' h (by omega)
          have hul : (upperS w').length ≤ 1000000000 := by rw [upperS_len]; exact hwl
          rw [drop_step hw', eachG] at hEq
          unfold optS at hEq
          generalize upperS w' = u at *
          have hfind3 := fun h => rfind_call (w0 := w0) u 61 h (by omega)
          rcases cutB_cases 61 u with ⟨k1, k2⟩ | ⟨key, val, rfl, k1, k2⟩
          · rw [idx_miss k1] at hfind3
            rw [k2] at hEq
            simp only [] at hEq
            by_cases u0 : u = []
            · rw [show optK (sz, wd, bd) u [] false = (501, (sz, wd, bd)) by simp [optK, u0]] at hEq
              simp only [if_true] at hEq
              have uy : (u = []) = True := eq_true u0
              clear k2 u0
              repeat' (first
    | ((with_reducible apply opsF.op rfl); (case hs => (first | exact tHT | exact tHS)))
    | with_reducible (first | apply opsF.nil | apply seqF.nn | apply vcF.seq | apply vcF.region | apply vcF.skip | apply vcF.block | apply vcF.exit | apply vcF.ret | apply vcF.loop | apply seqF.e | apply seqF.r | apply blkF.nn | apply blkF.e | apply blkF.r | apply blkF.o rfl)
    | ((with_reducible apply opsF.call); (case hx => exact tAG))
    | ((with_reducible apply opsF.want); (case hg => exact tEV); (case hb => exact tNB))
    | ((with_reducible apply opsF.skip); (case hg => exact tEV); (case hb => exact tNB))
    | (first | ((with_reducible apply opsF.case); (case hg => exact tEV)) | ((with_reducible apply vcF.cond); (case hx => exact tEV))) <;> ((intro hc; try simp only [Int.reduceLT, Int.reduceLE, Int.reduceEq, Int.reduceNe, Int.cast_ofNat_Int, Int.reduceNeg, decide_true, decide_false, not_true_eq_false, not_false_eq_true, decide_eq_true_eq, decide_eq_false_iff_not, Bool.not_eq_true', Bool.not_eq_false', Bool.not_true, Bool.not_false, Bool.false_eq_true, Bool.true_eq_false, Bool.not_eq_true, Bool.not_eq_false, beq_iff_eq, beq_eq_false_iff_ne, bne_iff_ne, bne_eq_false_iff_eq, ne_eq, Int.not_lt, Int.not_le, ge_iff_le, gt_iff_lt, Decidable.not_not, reduceCtorEq, *] at hc) <;> (try (exfalso; omega)))
    | ((with_reducible apply opsF.und); (case hg => rfl))
    | ((with_reducible apply retF.r); (case hv => exact tRS))
    | ((with_reducible apply retF.nn); (case hv => exact tRS))
    | ((refine (hup3 _).mono fun v h5 hp => ?_); obtain ⟨rfl, he4⟩ := hp; have hN := he4.n; have hO := he4.objs; (try simp only [alloc_n, set_n, newTok_n, bump_n] at hN hO); have hC2 := hC.after he4; have d1 := hC2.res; have d2 := hC2.vb; have d3 := hC2.nn)
    | ((refine (hfind3 _).mono fun v h6 hp => ?_); obtain ⟨rfl, rfl⟩ := hp))
              all_goals exact ⟨by rw [hEq]; rfl, hC2.ext.set (Nat.le_refl _) _⟩
            · by_cases u1 : u = [83, 73, 90, 69]
              · rw [show optK (sz, wd, bd) u [] false = (501, (sz, wd, bd)) by simp [optK, u1, show digO [] = none from rfl, sizeS]] at hEq
                simp only [if_true] at hEq
                have hdi := fun h => rdigits_call (w0 := w0) [] h (by simp)
                unfold DigP at hdi
                rw [show digO [] = none from rfl] at hdi
                simp only [] at hdi
                have uy : (u = [83, 73, 90, 69]) = True := eq_true u1
                clear k2 u1
                repeat' (first
    | ((with_reducible apply opsF.op rfl); (case hs => (first | exact tHT | exact tHS)))
    | with_reducible (first | apply opsF.nil | apply seqF.nn | apply vcF.seq | apply vcF.region | apply vcF.skip | apply vcF.block | apply vcF.exit | apply vcF.ret | apply vcF.loop | apply seqF.e | apply seqF.r | apply blkF.nn | apply blkF.e | apply blkF.r | apply blkF.o rfl)
    | ((with_reducible apply opsF.call); (case hx => exact tAG))
    | ((with_reducible apply opsF.want); (case hg => exact tEV); (case hb => exact tNB))
    | ((with_reducible apply opsF.skip); (case hg => exact tEV); (case hb => exact tNB))
    | (first | ((with_reducible apply opsF.case); (case hg => exact tEV)) | ((with_reducible apply vcF.cond); (case hx => exact tEV))) <;> ((intro hc; try simp only [Int.reduceLT, Int.reduceLE, Int.reduceEq, Int.reduceNe, Int.cast_ofNat_Int, Int.reduceNeg, decide_true, decide_false, not_true_eq_false, not_false_eq_true, decide_eq_true_eq, decide_eq_false_iff_not, Bool.not_eq_true', Bool.not_eq_false', Bool.not_true, Bool.not_false, Bool.false_eq_true, Bool.true_eq_false, Bool.not_eq_true, Bool.not_eq_false, beq_iff_eq, beq_eq_false_iff_ne, bne_iff_ne, bne_eq_false_iff_eq, ne_eq, Int.not_lt, Int.not_le, ge_iff_le, gt_iff_lt, Decidable.not_not, reduceCtorEq, *] at hc) <;> (try (exfalso; omega)))
    | ((with_reducible apply opsF.und); (case hg => rfl))
    | ((with_reducible apply retF.r); (case hv => exact tRS))
    | ((with_reducible apply retF.nn); (case hv => exact tRS))
    | ((refine (hup3 _).mono fun v h5 hp => ?_); obtain ⟨rfl, he4⟩ := hp; have hN := he4.n; have hO := he4.objs; (try simp only [alloc_n, set_n, newTok_n, bump_n] at hN hO); have hC2 := hC.after he4; have d1 := hC2.res; have d2 := hC2.vb; have d3 := hC2.nn)
    | ((refine (hfind3 _).mono fun v h6 hp => ?_); obtain ⟨rfl, rfl⟩ := hp)
    | ((refine (hdi _).mono fun v h6 hp => ?_); obtain ⟨⟨n, rfl⟩, rfl⟩ := hp))
                all_goals exact ⟨by rw [hEq]; rfl, hC2.ext.set (Nat.le_refl _) _⟩
              · by_cases u2 : u = [66, 79, 68, 89]
                · rw [show optK (sz, wd, bd) u [] false = (501, (sz, wd, bd)) by simp [optK, u2]] at hEq
                  simp only [if_true] at hEq
                  have uy : (u = [66, 79, 68, 89]) = True := eq_true u2
                  clear k2 u2
                  have z1 : ¬ ([] : List UInt8) = [55, 66, 73, 84] := by decide
                  have z2 : ¬ ([] : List UInt8) = [56, 66, 73, 84, 77, 73, 77, 69] := by decide
                  cases bd
                  all_goals repeat' (first
    | ((with_reducible apply opsF.op rfl); (case hs => (first | exact tHT | exact tHS)))
    | with_reducible (first | apply opsF.nil | apply seqF.nn | apply vcF.seq | apply vcF.region | apply vcF.skip | apply vcF.block | apply vcF.exit | apply vcF.ret | apply vcF.loop | apply seqF.e | apply seqF.r | apply blkF.nn | apply blkF.e | apply blkF.r | apply blkF.o rfl)
    | ((with_reducible apply opsF.call); (case hx => exact tAG))
    | ((with_reducible apply opsF.want); (case hg => exact tEV); (case hb => exact tNB))
    | ((with_reducible apply opsF.skip); (case hg => exact tEV); (case hb => exact tNB))
    | (first | ((with_reducible apply opsF.case); (case hg => exact tEV)) | ((with_reducible apply vcF.cond); (case hx => exact tEV))) <;> ((intro hc; try simp only [Int.reduceLT, Int.reduceLE, Int.reduceEq, Int.reduceNe, Int.cast_ofNat_Int, Int.reduceNeg, decide_true, decide_false, not_true_eq_false, not_false_eq_true, decide_eq_true_eq, decide_eq_false_iff_not, Bool.not_eq_true', Bool.not_eq_false', Bool.not_true, Bool.not_false, Bool.false_eq_true, Bool.true_eq_false, Bool.not_eq_true, Bool.not_eq_false, beq_iff_eq, beq_eq_false_iff_ne, bne_iff_ne, bne_eq_false_iff_eq, ne_eq, Int.not_lt, Int.not_le, ge_iff_le, gt_iff_lt, Decidable.not_not, reduceCtorEq, *] at hc) <;> (try (exfalso; omega)))
    | ((with_reducible apply opsF.und); (case hg => rfl))
    | ((with_reducible apply retF.r); (case hv => exact tRS))
    | ((with_reducible apply retF.nn); (case hv => exact tRS))
    | ((refine (hup3 _).mono fun v h5 hp => ?_); obtain ⟨rfl, he4⟩ := hp; have hN := he4.n; have hO := he4.objs; (try simp only [alloc_n, set_n, newTok_n, bump_n] at hN hO); have hC2 := hC.after he4; have d1 := hC2.res; have d2 := hC2.vb; have d3 := hC2.nn)
    | ((refine (hfind3 _).mono fun v h6 hp => ?_); obtain ⟨rfl, rfl⟩ := hp))
                  all_goals exact ⟨by rw [hEq]; rfl, hC2.ext.set (Nat.le_refl _) _⟩
                · rw [show optK (sz, wd, bd) u [] false = (555, (sz, wd, bd)) by simp [optK, u0, u1, u2]] at hEq
                  simp only [if_false, Int.reduceEq] at hEq
                  clear k2
                  repeat' (first
    | ((with_reducible apply opsF.op rfl); (case hs => (first | exact tHT | exact tHS)))
    | with_reducible (first | apply opsF.nil | apply seqF.nn | apply vcF.seq | apply vcF.region | apply vcF.skip | apply vcF.block | apply vcF.exit | apply vcF.ret | apply vcF.loop | apply seqF.e | apply seqF.r | apply blkF.nn | apply blkF.e | apply blkF.r | apply blkF.o rfl)
    | ((with_reducible apply opsF.call); (case hx => exact tAG))
    | ((with_reducible apply opsF.want); (case hg => exact tEV); (case hb => exact tNB))
    | ((with_reducible apply opsF.skip); (case hg => exact tEV); (case hb => exact tNB))
    | (first | ((with_reducible apply opsF.case); (case hg => exact tEV)) | ((with_reducible apply vcF.cond); (case hx => exact tEV))) <;> ((intro hc; try simp only [Int.reduceLT, Int.reduceLE, Int.reduceEq, Int.reduceNe, Int.cast_ofNat_Int, Int.reduceNeg, decide_true, decide_false, not_true_eq_false, not_false_eq_true, decide_eq_true_eq, decide_eq_false_iff_not, Bool.not_eq_true', Bool.not_eq_false', Bool.not_true, Bool.not_false, Bool.false_eq_true, Bool.true_eq_false, Bool.not_eq_true, Bool.not_eq_false, beq_iff_eq, beq_eq_false_iff_ne, bne_iff_ne, bne_eq_false_iff_eq, ne_eq, Int.not_lt, Int.not_le, ge_iff_le, gt_iff_lt, Decidable.not_not, reduceCtorEq, *] at hc) <;> (try (exfalso; omega)))
    | ((with_reducible apply opsF.und); (case hg => rfl))
    | ((with_reducible apply retF.r); (case hv => exact tRS))
    | ((with_reducible apply retF.nn); (case hv => exact tRS))
    | ((refine (hup3 _).mono fun v h5 hp => ?_); obtain ⟨rfl, he4⟩ := hp; have hN := he4.n; have hO := he4.objs; (try simp only [alloc_n, set_n, newTok_n, bump_n] at hN hO); have hC2 := hC.after he4; have d1 := hC2.res; have d2 := hC2.vb; have d3 := hC2.nn)
    | ((refine (hfind3 _).mono fun v h6 hp => ?_); obtain ⟨rfl, rfl⟩ := hp))
                  all_goals exact ⟨i + 1, by omega, (sz, wd, bd), true, hC2, hEq, g2, g8, g9, g11, g14, rfl, rfl, by omega, by omega⟩
          · rw [idx_hit k1] at hfind3
            rw [k2] at hEq
            simp only [] at hEq
            have ulen : (key ++ 61 :: val).length = key.length + (val.length + 1) := by simp
            have ut : (key ++ 61 :: val).take key.length = key := by simp
            have ud2 : ((key ++ 61 :: val).take (key.length + (val.length + 1))).drop (key.length + 1) = val := by
              rw [← ulen, List.take_length, ← List.drop_drop]; simp
            have ut1 : ((key.length : Int) + 1).toNat = key.length + 1 := by omega
            generalize key ++ 61 :: val = u at *
            clear k2
            by_cases u0 : key = []
            · rw [show optK (sz, wd, bd) key val true = (501, (sz, wd, bd)) by simp [optK, u0]] at hEq
              simp only [if_true] at hEq
              subst u0
              simp only [List.length_nil] at *
              repeat' (first
    | ((with_reducible apply opsF.op rfl); (case hs => (first | exact tHT | exact tHS)))
    | with_reducible (first | apply opsF.nil | apply seqF.nn | apply vcF.seq | apply vcF.region | apply vcF.skip | apply vcF.block | apply vcF.exit | apply vcF.ret | apply vcF.loop | apply seqF.e | apply seqF.r | apply blkF.nn | apply blkF.e | apply blkF.r | apply blkF.o rfl)
    | ((with_reducible apply opsF.call); (case hx => exact tAG))
    | ((with_reducible apply opsF.want); (case hg => exact tEV); (case hb => exact tNB))
    | ((with_reducible apply opsF.skip); (case hg => exact tEV); (case hb => exact tNB))
    | (first | ((with_reducible apply opsF.case); (case hg => exact tEV)) | ((with_reducible apply vcF.cond); (case hx => exact tEV))) <;> ((intro hc; try simp only [Int.reduceLT, Int.reduceLE, Int.reduceEq, Int.reduceNe, Int.cast_ofNat_Int, Int.reduceNeg, decide_true, decide_false, not_true_eq_false, not_false_eq_true, decide_eq_true_eq, decide_eq_false_iff_not, Bool.not_eq_true', Bool.not_eq_false', Bool.not_true, Bool.not_false, Bool.false_eq_true, Bool.true_eq_false, Bool.not_eq_true, Bool.not_eq_false, beq_iff_eq, beq_eq_false_iff_ne, bne_iff_ne, bne_eq_false_iff_eq, ne_eq, Int.not_lt, Int.not_le, ge_iff_le, gt_iff_lt, Decidable.not_not, reduceCtorEq, *] at hc) <;> (try (exfalso; omega)))
    | ((with_reducible apply opsF.und); (case hg => rfl))
    | ((with_reducible apply retF.r); (case hv => exact tRS))
    | ((with_reducible apply retF.nn); (case hv => exact tRS))
    | ((refine (hup3 _).mono fun v h5 hp => ?_); obtain ⟨rfl, he4⟩ := hp; have hN := he4.n; have hO := he4.objs; (try simp only [alloc_n, set_n, newTok_n, bump_n] at hN hO); have hC2 := hC.after he4; have d1 := hC2.res; have d2 := hC2.vb; have d3 := hC2.nn)
    | ((refine (hfind3 _).mono fun v h6 hp => ?_); obtain ⟨rfl, rfl⟩ := hp))
              all_goals exact ⟨by rw [hEq]; rfl, hC2.ext.set (Nat.le_refl _) _⟩
            · by_cases u1 : key = [83, 73, 90, 69]
              · have hdi := fun h => rdigits_call (w0 := w0) val h (by omega)
                unfold DigP at hdi
                have uy : (key = [83, 73, 90, 69]) = True := eq_true u1
                cases hd : digO val with
                | none =>
                  rw [hd] at hdi
                  rw [show optK (sz, wd, bd) key val true = (501, (sz, wd, bd)) by simp [optK, u1, hd, sizeS]] at hEq
                  simp only [if_true] at hEq hdi
                  clear u1 hd
                  repeat' (first
    | ((with_reducible apply opsF.op rfl); (case hs => (first | exact tHT | exact tHS)))
    | with_reducible (first | apply opsF.nil | apply seqF.nn | apply vcF.seq | apply vcF.region | apply vcF.skip | apply vcF.block | apply vcF.exit | apply vcF.ret | apply vcF.loop | apply seqF.e | apply seqF.r | apply blkF.nn | apply blkF.e | apply blkF.r | apply blkF.o rfl)
    | ((with_reducible apply opsF.call); (case hx => exact tAG))
    | ((with_reducible apply opsF.want); (case hg => exact tEV); (case hb => exact tNB))
    | ((with_reducible apply opsF.skip); (case hg => exact tEV); (case hb => exact tNB))
    | (first | ((with_reducible apply opsF.case); (case hg => exact tEV)) | ((with_reducible apply vcF.cond); (case hx => exact tEV))) <;> ((intro hc; try simp only [Int.reduceLT, Int.reduceLE, Int.reduceEq, Int.reduceNe, Int.cast_ofNat_Int, Int.reduceNeg, decide_true, decide_false, not_true_eq_false, not_false_eq_true, decide_eq_true_eq, decide_eq_false_iff_not, Bool.not_eq_true', Bool.not_eq_false', Bool.not_true, Bool.not_false, Bool.false_eq_true, Bool.true_eq_false, Bool.not_eq_true, Bool.not_eq_false, beq_iff_eq, beq_eq_false_iff_ne, bne_iff_ne, bne_eq_false_iff_eq, ne_eq, Int.not_lt, Int.not_le, ge_iff_le, gt_iff_lt, Decidable.not_not, reduceCtorEq, *] at hc) <;> (try (exfalso; omega)))
    | ((with_reducible apply opsF.und); (case hg => rfl))
    | ((with_reducible apply retF.r); (case hv => exact tRS))
    | ((with_reducible apply retF.nn); (case hv => exact tRS))
    | ((refine (hup3 _).mono fun v h5 hp => ?_); obtain ⟨rfl, he4⟩ := hp; have hN := he4.n; have hO := he4.objs; (try simp only [alloc_n, set_n, newTok_n, bump_n] at hN hO); have hC2 := hC.after he4; have d1 := hC2.res; have d2 := hC2.vb; have d3 := hC2.nn)
    | ((refine (hfind3 _).mono fun v h6 hp => ?_); obtain ⟨rfl, rfl⟩ := hp)
    | ((refine (hdi _).mono fun v h6 hp => ?_); obtain ⟨⟨n, rfl⟩, rfl⟩ := hp))
                  all_goals exact ⟨by rw [hEq]; rfl, hC2.ext.set (Nat.le_refl _) _⟩
                | some n =>
                  rw [hd] at hdi
                  simp only [] at hdi
                  by_cases hsz : sz < 0
                  · rw [show optK (sz, wd, bd) key val true = (0, ((n : Int), wd, bd)) by simp [optK, u1, hd, sizeS, hsz]] at hEq
                    clear u1 hd
                    simp only [if_true, if_false, Int.reduceEq] at hEq
                    repeat' (first
    | ((with_reducible apply opsF.op rfl); (case hs => (first | exact tHT | exact tHS)))
    | with_reducible (first | apply opsF.nil | apply seqF.nn | apply vcF.seq | apply vcF.region | apply vcF.skip | apply vcF.block | apply vcF.exit | apply vcF.ret | apply vcF.loop | apply seqF.e | apply seqF.r | apply blkF.nn | apply blkF.e | apply blkF.r | apply blkF.o rfl)
    | ((with_reducible apply opsF.call); (case hx => exact tAG))
    | ((with_reducible apply opsF.want); (case hg => exact tEV); (case hb => exact tNB))
    | ((with_reducible apply opsF.skip); (case hg => exact tEV); (case hb => exact tNB))
    | (first | ((with_reducible apply opsF.case); (case hg => exact tEV)) | ((with_reducible apply vcF.cond); (case hx => exact tEV))) <;> ((intro hc; try simp only [Int.reduceLT, Int.reduceLE, Int.reduceEq, Int.reduceNe, Int.cast_ofNat_Int, Int.reduceNeg, decide_true, decide_false, not_true_eq_false, not_false_eq_true, decide_eq_true_eq, decide_eq_false_iff_not, Bool.not_eq_true', Bool.not_eq_false', Bool.not_true, Bool.not_false, Bool.false_eq_true, Bool.true_eq_false, Bool.not_eq_true, Bool.not_eq_false, beq_iff_eq, beq_eq_false_iff_ne, bne_iff_ne, bne_eq_false_iff_eq, ne_eq, Int.not_lt, Int.not_le, ge_iff_le, gt_iff_lt, Decidable.not_not, reduceCtorEq, *] at hc) <;> (try (exfalso; omega)))
    | ((with_reducible apply opsF.und); (case hg => rfl))
    | ((with_reducible apply retF.r); (case hv => exact tRS))
    | ((with_reducible apply retF.nn); (case hv => exact tRS))
    | ((refine (hup3 _).mono fun v h5 hp => ?_); obtain ⟨rfl, he4⟩ := hp; have hN := he4.n; have hO := he4.objs; (try simp only [alloc_n, set_n, newTok_n, bump_n] at hN hO); have hC2 := hC.after he4; have d1 := hC2.res; have d2 := hC2.vb; have d3 := hC2.nn)
    | ((refine (hfind3 _).mono fun v h6 hp => ?_); obtain ⟨rfl, rfl⟩ := hp)
    | ((refine (hdi _).mono fun v h6 hp => ?_); obtain ⟨rfl, rfl⟩ := hp))
                    all_goals exact ⟨i + 1, by omega, ((n : Int), wd, bd), b, hC2.setv _, hEq, g2, g8, g9, g11, g14, g15, rfl, by omega, by omega⟩
                  · rw [show optK (sz, wd, bd) key val true = (501, (sz, wd, bd)) by simp [optK, u1, hd, sizeS, hsz]] at hEq
                    clear u1 hd
                    simp only [if_true] at hEq
                    repeat' (first
    | ((with_reducible apply opsF.op rfl); (case hs => (first | exact tHT | exact tHS)))
    | with_reducible (first | apply opsF.nil | apply seqF.nn | apply vcF.seq | apply vcF.region | apply vcF.skip | apply vcF.block | apply vcF.exit | apply vcF.ret | apply vcF.loop | apply seqF.e | apply seqF.r | apply blkF.nn | apply blkF.e | apply blkF.r | apply blkF.o rfl)
    | ((with_reducible apply opsF.call); (case hx => exact tAG))
    | ((with_reducible apply opsF.want); (case hg => exact tEV); (case hb => exact tNB))
    | ((with_reducible apply opsF.skip); (case hg => exact tEV); (case hb => exact tNB))
    | (first | ((with_reducible apply opsF.case); (case hg => exact tEV)) | ((with_reducible apply vcF.cond); (case hx => exact tEV))) <;> ((intro hc; try simp only [Int.reduceLT, Int.reduceLE, Int.reduceEq, Int.reduceNe, Int.cast_ofNat_Int, Int.reduceNeg, decide_true, decide_false, not_true_eq_false, not_false_eq_true, decide_eq_true_eq, decide_eq_false_iff_not, Bool.not_eq_true', Bool.not_eq_false', Bool.not_true, Bool.not_false, Bool.false_eq_true, Bool.true_eq_false, Bool.not_eq_true, Bool.not_eq_false, beq_iff_eq, beq_eq_false_iff_ne, bne_iff_ne, bne_eq_false_iff_eq, ne_eq, Int.not_lt, Int.not_le, ge_iff_le, gt_iff_lt, Decidable.not_not, reduceCtorEq, *] at hc) <;> (try (exfalso; omega)))
    | ((with_reducible apply opsF.und); (case hg => rfl))
    | ((with_reducible apply retF.r); (case hv => exact tRS))
    | ((with_reducible apply retF.nn); (case hv => exact tRS))
    | ((refine (hup3 _).mono fun v h5 hp => ?_); obtain ⟨rfl, he4⟩ := hp; have hN := he4.n; have hO := he4.objs; (try simp only [alloc_n, set_n, newTok_n, bump_n] at hN hO); have hC2 := hC.after he4; have d1 := hC2.res; have d2 := hC2.vb; have d3 := hC2.nn)
    | ((refine (hfind3 _).mono fun v h6 hp => ?_); obtain ⟨rfl, rfl⟩ := hp)
    | ((refine (hdi _).mono fun v h6 hp => ?_); obtain ⟨rfl, rfl⟩ := hp))
                    all_goals exact ⟨by rw [hEq]; rfl, hC2.ext.set (Nat.le_refl _) _⟩
              · by_cases u2 : key = [66, 79, 68, 89]
                · have uy : (key = [66, 79, 68, 89]) = True := eq_true u2
                  have n2 : ¬ ([55, 66, 73, 84] : List UInt8) = [56, 66, 73, 84, 77, 73, 77, 69] := by decide
                  have n3 : ¬ ([56, 66, 73, 84, 77, 73, 77, 69] : List UInt8) = [55, 66, 73, 84] := by decide
                  cases bd
                  · by_cases v7 : val = [55, 66, 73, 84]
                    · have v8 : ¬ val = [56, 66, 73, 84, 77, 73, 77, 69] := by rw [v7]; exact n2
                      rw [show optK (sz, wd, false) key val true = (0, (sz, false, true)) by simp [optK, u2, v7]] at hEq
                      simp only [if_true, if_false, Int.reduceEq] at hEq
                      have vy : (val = [55, 66, 73, 84]) = True := eq_true v7
                      clear v7 u2
                      repeat' (first
    | ((with_reducible apply opsF.op rfl); (case hs => (first | exact tHT | exact tHS)))
    | with_reducible (first | apply opsF.nil | apply seqF.nn | apply vcF.seq | apply vcF.region | apply vcF.skip | apply vcF.block | apply vcF.exit | apply vcF.ret | apply vcF.loop | apply seqF.e | apply seqF.r | apply blkF.nn | apply blkF.e | apply blkF.r | apply blkF.o rfl)
    | ((with_reducible apply opsF.call); (case hx => exact tAG))
    | ((with_reducible apply opsF.want); (case hg => exact tEV); (case hb => exact tNB))
    | ((with_reducible apply opsF.skip); (case hg => exact tEV); (case hb => exact tNB))
    | (first | ((with_reducible apply opsF.case); (case hg => exact tEV)) | ((with_reducible apply vcF.cond); (case hx => exact tEV))) <;> ((intro hc; try simp only [Int.reduceLT, Int.reduceLE, Int.reduceEq, Int.reduceNe, Int.cast_ofNat_Int, Int.reduceNeg, decide_true, decide_false, not_true_eq_false, not_false_eq_true, decide_eq_true_eq, decide_eq_false_iff_not, Bool.not_eq_true', Bool.not_eq_false', Bool.not_true, Bool.not_false, Bool.false_eq_true, Bool.true_eq_false, Bool.not_eq_true, Bool.not_eq_false, beq_iff_eq, beq_eq_false_iff_ne, bne_iff_ne, bne_eq_false_iff_eq, ne_eq, Int.not_lt, Int.not_le, ge_iff_le, gt_iff_lt, Decidable.not_not, reduceCtorEq, *] at hc) <;> (try (exfalso; omega)))
    | ((with_reducible apply opsF.und); (case hg => rfl))
    | ((with_reducible apply retF.r); (case hv => exact tRS))
    | ((with_reducible apply retF.nn); (case hv => exact tRS))
    | ((refine (hup3 _).mono fun v h5 hp => ?_); obtain ⟨rfl, he4⟩ := hp; have hN := he4.n; have hO := he4.objs; (try simp only [alloc_n, set_n, newTok_n, bump_n] at hN hO); have hC2 := hC.after he4; have d1 := hC2.res; have d2 := hC2.vb; have d3 := hC2.nn)
    | ((refine (hfind3 _).mono fun v h6 hp => ?_); obtain ⟨rfl, rfl⟩ := hp))
                      all_goals exact ⟨i + 1, by omega, (sz, false, true), b, hC2.setv _, hEq, g2, g8, g9, g11, rfl, g15, rfl, by omega, by omega⟩
                    · by_cases v8 : val = [56, 66, 73, 84, 77, 73, 77, 69]
                      · rw [show optK (sz, wd, false) key val true = (0, (sz, true, true)) by simp [optK, u2, v8]] at hEq
                        simp only [if_true, if_false, Int.reduceEq] at hEq
                        have vy : (val = [56, 66, 73, 84, 77, 73, 77, 69]) = True := eq_true v8
                        clear v8 u2
                        repeat' (first
    | ((with_reducible apply opsF.op rfl); (case hs => (first | exact tHT | exact tHS)))
    | with_reducible (first | apply opsF.nil | apply seqF.nn | apply vcF.seq | apply vcF.region | apply vcF.skip | apply vcF.block | apply vcF.exit | apply vcF.ret | apply vcF.loop | apply seqF.e | apply seqF.r | apply blkF.nn | apply blkF.e | apply blkF.r | apply blkF.o rfl)
    | ((with_reducible apply opsF.call); (case hx => exact tAG))
    | ((with_reducible apply opsF.want); (case hg => exact tEV); (case hb => exact tNB))
    | ((with_reducible apply opsF.skip); (case hg => exact tEV); (case hb => exact tNB))
    | (first | ((with_reducible apply opsF.case); (case hg => exact tEV)) | ((with_reducible apply vcF.cond); (case hx => exact tEV))) <;> ((intro hc; try simp only [Int.reduceLT, Int.reduceLE, Int.reduceEq, Int.reduceNe, Int.cast_ofNat_Int, Int.reduceNeg, decide_true, decide_false, not_true_eq_false, not_false_eq_true, decide_eq_true_eq, decide_eq_false_iff_not, Bool.not_eq_true', Bool.not_eq_false', Bool.not_true, Bool.not_false, Bool.false_eq_true, Bool.true_eq_false, Bool.not_eq_true, Bool.not_eq_false, beq_iff_eq, beq_eq_false_iff_ne, bne_iff_ne, bne_eq_false_iff_eq, ne_eq, Int.not_lt, Int.not_le, ge_iff_le, gt_iff_lt, Decidable.not_not, reduceCtorEq, *] at hc) <;> (try (exfalso; omega)))
    | ((with_reducible apply opsF.und); (case hg => rfl))
    | ((with_reducible apply retF.r); (case hv => exact tRS))
    | ((with_reducible apply retF.nn); (case hv => exact tRS))
    | ((refine (hup3 _).mono fun v h5 hp => ?_); obtain ⟨rfl, he4⟩ := hp; have hN := he4.n; have hO := he4.objs; (try simp only [alloc_n, set_n, newTok_n, bump_n] at hN hO); have hC2 := hC.after he4; have d1 := hC2.res; have d2 := hC2.vb; have d3 := hC2.nn)
    | ((refine (hfind3 _).mono fun v h6 hp => ?_); obtain ⟨rfl, rfl⟩ := hp))
                        all_goals exact ⟨i + 1, by omega, (sz, true, true), b, hC2.setv _, hEq, g2, g8, g9, g11, rfl, g15, rfl, by omega, by omega⟩
                      · rw [show optK (sz, wd, false) key val true = (501, (sz, wd, false)) by simp [optK, u2, v7, v8]] at hEq
                        clear u2
                        simp only [if_true] at hEq
                        repeat' (first
    | ((with_reducible apply opsF.op rfl); (case hs => (first | exact tHT | exact tHS)))
    | with_reducible (first | apply opsF.nil | apply seqF.nn | apply vcF.seq | apply vcF.region | apply vcF.skip | apply vcF.block | apply vcF.exit | apply vcF.ret | apply vcF.loop | apply seqF.e | apply seqF.r | apply blkF.nn | apply blkF.e | apply blkF.r | apply blkF.o rfl)
    | ((with_reducible apply opsF.call); (case hx => exact tAG))
    | ((with_reducible apply opsF.want); (case hg => exact tEV); (case hb => exact tNB))
    | ((with_reducible apply opsF.skip); (case hg => exact tEV); (case hb => exact tNB))
    | (first | ((with_reducible apply opsF.case); (case hg => exact tEV)) | ((with_reducible apply vcF.cond); (case hx => exact tEV))) <;> ((intro hc; try simp only [Int.reduceLT, Int.reduceLE, Int.reduceEq, Int.reduceNe, Int.cast_ofNat_Int, Int.reduceNeg, decide_true, decide_false, not_true_eq_false, not_false_eq_true, decide_eq_true_eq, decide_eq_false_iff_not, Bool.not_eq_true', Bool.not_eq_false', Bool.not_true, Bool.not_false, Bool.false_eq_true, Bool.true_eq_false, Bool.not_eq_true, Bool.not_eq_false, beq_iff_eq, beq_eq_false_iff_ne, bne_iff_ne, bne_eq_false_iff_eq, ne_eq, Int.not_lt, Int.not_le, ge_iff_le, gt_iff_lt, Decidable.not_not, reduceCtorEq, *] at hc) <;> (try (exfalso; omega)))
    | ((with_reducible apply opsF.und); (case hg => rfl))
    | ((with_reducible apply retF.r); (case hv => exact tRS))
    | ((with_reducible apply retF.nn); (case hv => exact tRS))
    | ((refine (hup3 _).mono fun v h5 hp => ?_); obtain ⟨rfl, he4⟩ := hp; have hN := he4.n; have hO := he4.objs; (try simp only [alloc_n, set_n, newTok_n, bump_n] at hN hO); have hC2 := hC.after he4; have d1 := hC2.res; have d2 := hC2.vb; have d3 := hC2.nn)
    | ((refine (hfind3 _).mono fun v h6 hp => ?_); obtain ⟨rfl, rfl⟩ := hp))
                        all_goals exact ⟨by rw [hEq]; rfl, hC2.ext.set (Nat.le_refl _) _⟩
                  · rw [show optK (sz, wd, true) key val true = (501, (sz, wd, true)) by simp [optK, u2]] at hEq
                    clear u2
                    simp only [if_true] at hEq
                    repeat' (first
    | ((with_reducible apply opsF.op rfl); (case hs => (first | exact tHT | exact tHS)))
    | with_reducible (first | apply opsF.nil | apply seqF.nn | apply vcF.seq | apply vcF.region | apply vcF.skip | apply vcF.block | apply vcF.exit | apply vcF.ret | apply vcF.loop | apply seqF.e | apply seqF.r | apply blkF.nn | apply blkF.e | apply blkF.r | apply blkF.o rfl)
    | ((with_reducible apply opsF.call); (case hx => exact tAG))
    | ((with_reducible apply opsF.want); (case hg => exact tEV); (case hb => exact tNB))
    | ((with_reducible apply opsF.skip); (case hg => exact tEV); (case hb => exact tNB))
    | (first | ((with_reducible apply opsF.case); (case hg => exact tEV)) | ((with_reducible apply vcF.cond); (case hx => exact tEV))) <;> ((intro hc; try simp only [Int.reduceLT, Int.reduceLE, Int.reduceEq, Int.reduceNe, Int.cast_ofNat_Int, Int.reduceNeg, decide_true, decide_false, not_true_eq_false, not_false_eq_true, decide_eq_true_eq, decide_eq_false_iff_not, Bool.not_eq_true', Bool.not_eq_false', Bool.not_true, Bool.not_false, Bool.false_eq_true, Bool.true_eq_false, Bool.not_eq_true, Bool.not_eq_false, beq_iff_eq, beq_eq_false_iff_ne, bne_iff_ne, bne_eq_false_iff_eq, ne_eq, Int.not_lt, Int.not_le, ge_iff_le, gt_iff_lt, Decidable.not_not, reduceCtorEq, *] at hc) <;> (try (exfalso; omega)))
    | ((with_reducible apply opsF.und); (case hg => rfl))
    | ((with_reducible apply retF.r); (case hv => exact tRS))
    | ((with_reducible apply retF.nn); (case hv => exact tRS))
    | ((refine (hup3 _).mono fun v h5 hp => ?_); obtain ⟨rfl, he4⟩ := hp; have hN := he4.n; have hO := he4.objs; (try simp only [alloc_n, set_n, newTok_n, bump_n] at hN hO); have hC2 := hC.after he4; have d1 := hC2.res; have d2 := hC2.vb; have d3 := hC2.nn)
    | ((refine (hfind3 _).mono fun v h6 hp => ?_); obtain ⟨rfl, rfl⟩ := hp))
                    all_goals exact ⟨by rw [hEq]; rfl, hC2.ext.set (Nat.le_refl _) _⟩
                · rw [show optK (sz, wd, bd) key val true = (555, (sz, wd, bd)) by simp [optK, u0, u1, u2]] at hEq
                  simp only [if_false, Int.reduceEq] at hEq
                  repeat' (first
    | ((with_reducible apply opsF.op rfl); (case hs => (first | exact tHT | exact tHS)))
    | with_reducible (first | apply opsF.nil | apply seqF.nn | apply vcF.seq | apply vcF.region | apply vcF.skip | apply vcF.block | apply vcF.exit | apply vcF.ret | apply vcF.loop | apply seqF.e | apply seqF.r | apply blkF.nn | apply blkF.e | apply blkF.r | apply blkF.o rfl)
    | ((with_reducible apply opsF.call); (case hx => exact tAG))
    | ((with_reducible apply opsF.want); (case hg => exact tEV); (case hb => exact tNB))
    | ((with_reducible apply opsF.skip); (case hg => exact tEV); (case hb => exact tNB))
    | (first | ((with_reducible apply opsF.case); (case hg => exact tEV)) | ((with_reducible apply vcF.cond); (case hx => exact tEV))) <;> ((intro hc; try simp only [Int.reduceLT, Int.reduceLE, Int.reduceEq, Int.reduceNe, Int.cast_ofNat_Int, Int.reduceNeg, decide_true, decide_false, not_true_eq_false, not_false_eq_true, decide_eq_true_eq, decide_eq_false_iff_not, Bool.not_eq_true', Bool.not_eq_false', Bool.not_true, Bool.not_false, Bool.false_eq_true, Bool.true_eq_false, Bool.not_eq_true, Bool.not_eq_false, beq_iff_eq, beq_eq_false_iff_ne, bne_iff_ne, bne_eq_false_iff_eq, ne_eq, Int.not_lt, Int.not_le, ge_iff_le, gt_iff_lt, Decidable.not_not, reduceCtorEq, *] at hc) <;> (try (exfalso; omega)))
    | ((with_reducible apply opsF.und); (case hg => rfl))
    | ((with_reducible apply retF.r); (case hv => exact tRS))
    | ((with_reducible apply retF.nn); (case hv => exact tRS))
    | ((refine (hup3 _).mono fun v h5 hp => ?_); obtain ⟨rfl, he4⟩ := hp; have hN := he4.n; have hO := he4.objs; (try simp only [alloc_n, set_n, newTok_n, bump_n] at hN hO); have hC2 := hC.after he4; have d1 := hC2.res; have d2 := hC2.vb; have d3 := hC2.nn)
    | ((refine (hfind3 _).mono fun v h6 hp => ?_); obtain ⟨rfl, rfl⟩ := hp))
                  all_goals exact ⟨i + 1, by omega, (sz, wd, bd), true, hC2, hEq, g2, g8, g9, g11, g14, rfl, rfl, by omega, by omega⟩
        · obtain rfl : i = ws.length := by omega
          rw [List.drop_length, eachG] at hEq
          rw [hEq]
          cases b
          all_goals repeat' (first
    | ((with_reducible apply opsF.op rfl); (case hs => (first | exact tHT | exact tHS)))
    | with_reducible (first | apply opsF.nil | apply seqF.nn | apply vcF.seq | apply vcF.region | apply vcF.skip | apply vcF.block | apply vcF.exit | apply vcF.ret | apply vcF.loop | apply seqF.e | apply seqF.r | apply blkF.nn | apply blkF.e | apply blkF.r | apply blkF.o rfl)
    | ((with_reducible apply opsF.call); (case hx => exact tAG))
    | ((with_reducible apply opsF.want); (case hg => exact tEV); (case hb => exact tNB))
    | ((with_reducible apply opsF.skip); (case hg => exact tEV); (case hb => exact tNB))
    | (first | ((with_reducible apply opsF.case); (case hg => exact tEV)) | ((with_reducible apply vcF.cond); (case hx => exact tEV))) <;> ((intro hc; try simp only [Int.reduceLT, Int.reduceLE, Int.reduceEq, Int.reduceNe, Int.cast_ofNat_Int, Int.reduceNeg, decide_true, decide_false, not_true_eq_false, not_false_eq_true, decide_eq_true_eq, decide_eq_false_iff_not, Bool.not_eq_true', Bool.not_eq_false', Bool.not_true, Bool.not_false, Bool.false_eq_true, Bool.true_eq_false, Bool.not_eq_true, Bool.not_eq_false, beq_iff_eq, beq_eq_false_iff_ne, bne_iff_ne, bne_eq_false_iff_eq, ne_eq, Int.not_lt, Int.not_le, ge_iff_le, gt_iff_lt, Decidable.not_not, reduceCtorEq, *] at hc) <;> (try (exfalso; omega)))
    | ((with_reducible apply opsF.und); (case hg => rfl))
    | ((with_reducible apply retF.r); (case hv => exact tRS))
    | ((with_reducible apply retF.nn); (case hv => exact tRS)))
          all_goals exact ⟨rfl, hC.ext.set (Nat.le_refl _) _⟩
    · have hpw : pathW [70, 82, 79, 77, 58] r = none := by
        rw [pathW, if_neg (fun e => hu (by have := e.2; rwa [hldl] at this))]
      rw [hpw]
      clear hpw hldl
      generalize hUU : upperS (r.take 5) = U at *
      repeat' (first
    | ((with_reducible apply opsF.op rfl); (case hs => (first | exact tHT | exact tHS)))
    | with_reducible (first | apply opsF.nil | apply seqF.nn | apply vcF.seq | apply vcF.region | apply vcF.skip | apply vcF.block | apply vcF.exit | apply vcF.ret | apply vcF.loop | apply seqF.e | apply seqF.r | apply blkF.nn | apply blkF.e | apply blkF.r | apply blkF.o rfl)
    | ((with_reducible apply opsF.call); (case hx => exact tAG))
    | ((with_reducible apply opsF.want); (case hg => exact tEV); (case hb => exact tNB))
    | ((with_reducible apply opsF.skip); (case hg => exact tEV); (case hb => exact tNB))
    | (first | ((with_reducible apply opsF.case); (case hg => exact tEV)) | ((with_reducible apply vcF.cond); (case hx => exact tEV))) <;> ((intro hc; try simp only [Int.reduceLT, Int.reduceLE, Int.reduceEq, Int.reduceNe, Int.cast_ofNat_Int, Int.reduceNeg, decide_true, decide_false, not_true_eq_false, not_false_eq_true, decide_eq_true_eq, decide_eq_false_iff_not, Bool.not_eq_true', Bool.not_eq_false', Bool.not_true, Bool.not_false, Bool.false_eq_true, Bool.true_eq_false, Bool.not_eq_true, Bool.not_eq_false, beq_iff_eq, beq_eq_false_iff_ne, bne_iff_ne, bne_eq_false_iff_eq, ne_eq, Int.not_lt, Int.not_le, ge_iff_le, gt_iff_lt, Decidable.not_not, reduceCtorEq, *] at hc) <;> (try (exfalso; omega)))
    | ((with_reducible apply opsF.und); (case hg => rfl))
    | ((with_reducible apply retF.r); (case hv => exact tRS))
    | ((with_reducible apply retF.nn); (case hv => exact tRS))
    | ((refine (hfind _).mono fun v h2 hp => ?_); obtain ⟨rfl, rfl⟩ := hp)
    | ((refine (hup _).mono fun v h2 hp => ?_); obtain ⟨rfl, he⟩ := hp; have hN := he.n; have hO := he.objs; (try simp only [alloc_n, set_n, newTok_n, bump_n] at hN hO))
    | ((refine (hup2 _).mono fun v h3 hp => ?_); obtain ⟨rfl, he2⟩ := hp; have hN := he2.n; have hO := he2.objs; (try simp only [alloc_n, set_n, newTok_n, bump_n] at hN hO)))
      all_goals refine ⟨rfl, ?_⟩
      all_goals repeat' first
        | exact (Ext.alloc _ _).trans he
        | refine Ext.trans ?_ he2
        | refine Ext.set ?_ (by first | exact Nat.le_refl _ | omega | (simp only [alloc_n, set_n] at *; omega)) _
        | refine Ext.trans ?_ (Ext.alloc _ _)
  · have hpw : pathW [70, 82, 79, 77, 58] r = none := by
      rw [pathW, if_neg (fun e => hr5 e.1)]
    rw [hpw]
    clear hpw hldl
    repeat' (first
    | ((with_reducible apply opsF.op rfl); (case hs => (first | exact tHT | exact tHS)))
    | with_reducible (first | apply opsF.nil | apply seqF.nn | apply vcF.seq | apply vcF.region | apply vcF.skip | apply vcF.block | apply vcF.exit | apply vcF.ret | apply vcF.loop | apply seqF.e | apply seqF.r | apply blkF.nn | apply blkF.e | apply blkF.r | apply blkF.o rfl)
    | ((with_reducible apply opsF.call); (case hx => exact tAG))
    | ((with_reducible apply opsF.want); (case hg => exact tEV); (case hb => exact tNB))
    | ((with_reducible apply opsF.skip); (case hg => exact tEV); (case hb => exact tNB))
    | (first | ((with_reducible apply opsF.case); (case hg => exact tEV)) | ((with_reducible apply vcF.cond); (case hx => exact tEV))) <;> ((intro hc; try simp only [Int.reduceLT, Int.reduceLE, Int.reduceEq, Int.reduceNe, Int.cast_ofNat_Int, Int.reduceNeg, decide_true, decide_false, not_true_eq_false, not_false_eq_true, decide_eq_true_eq, decide_eq_false_iff_not, Bool.not_eq_true', Bool.not_eq_false', Bool.not_true, Bool.not_false, Bool.false_eq_true, Bool.true_eq_false, Bool.not_eq_true, Bool.not_eq_false, beq_iff_eq, beq_eq_false_iff_ne, bne_iff_ne, bne_eq_false_iff_eq, ne_eq, Int.not_lt, Int.not_le, ge_iff_le, gt_iff_lt, Decidable.not_not, reduceCtorEq, *] at hc) <;> (try (exfalso; omega)))
    | ((with_reducible apply opsF.und); (case hg => rfl))
    | ((with_reducible apply retF.r); (case hv => exact tRS))
    | ((with_reducible apply retF.nn); (case hv => exact tRS))
    | ((refine (hfind _).mono fun v h2 hp => ?_); obtain ⟨rfl, rfl⟩ := hp)
    | ((refine (hup _).mono fun v h2 hp => ?_); obtain ⟨rfl, he⟩ := hp; have hN := he.n; have hO := he.objs; (try simp only [alloc_n, set_n, newTok_n, bump_n] at hN hO)))
    all_goals refine ⟨rfl, ?_⟩
    all_goals repeat' first
      | exact (Ext.alloc _ _).trans he
      | refine Ext.set ?_ (by first | exact Nat.le_refl _ | omega | (simp only [alloc_n, set_n] at *; omega)) _
      | refine Ext.trans ?_ (Ext.alloc _ _)
end Go.Abs.F
namespace Go.Abs.F
open Go Go.Abs
set_option maxRecDepth 10000
set_option maxHeartbeats 20000000
set_option linter.unusedSimpArgs false
set_option linter.unusedVariables false
variable {w0 : World}
theorem upB_61 {x : UInt8} : upB x = 61 ↔ x = 61 := by
  unfold upB
  split
  · rename_i hx
    constructor
    · intro e
      have := congrArg UInt8.toNat e
      rw [u8n (by omega), show (61 : UInt8).toNat = 61 from rfl] at this
      omega
    · intro e
      rw [e, show (61 : UInt8).toNat = 61 from rfl] at hx
      omega
  · exact Iff.rfl
theorem cutB_upper (w : List UInt8) : (cutB 61 (upperS w)).1 = [] ↔ (cutB 61 w).1 = [] := by
  cases w with
  | nil => exact Iff.rfl
  | cons x r =>
    show (cutB 61 (upB x :: upperS r)).1 = [] ↔ _
    simp only [cutB]
    by_cases hx : x = 61
    · rw [if_pos hx, if_pos (upB_61.2 hx)]
    · rw [if_neg hx, if_neg (fun e => hx (upB_61.1 e))]
      simp
theorem rverb_rcpt (a r : List UInt8) (h : AH) (hl : (a ++ 32 :: r).length ≤ 1000000000) (h1 : 32 ∉ a) (hm : upperS a = [82, 67, 80, 84]) : Call P w0 ref01_Verb [.v (.string (bs (a ++ 32 :: r)))] h (fun v h' => v = codeV (verbS (a ++ 32 :: r)) ∧ Ext h h') := by
  have hfind := fun h => rfind_call (w0 := w0) (a ++ 32 :: r) 32 h (by omega)
  rw [idx_hit h1] at hfind
  have hA : (cutB 32 (a ++ 32 :: r)).1 = a := by rw [cutB_hit h1]
  have hR : (cutB 32 (a ++ 32 :: r)).2.1 = r := by rw [cutB_hit h1]
  have hB : (cutB 32 (a ++ 32 :: r)).2.2 = true := by rw [cutB_hit h1]
  have hlen : (a ++ 32 :: r).length = a.length + (r.length + 1) := by simp
  have ht : (a ++ 32 :: r).take a.length = a := by simp
  have hd : (a ++ 32 :: r).drop (a.length + 1) = r := by
    rw [← List.drop_drop]; simp
  have hd2 : ((a ++ 32 :: r).take (a.length + (r.length + 1))).drop (a.length + 1) = r := by
    rw [← hlen, List.take_length]; exact hd
  have ht1 : ((a.length : Int) + 1).toNat = a.length + 1 := by omega
  generalize a ++ 32 :: r = s at *
  have hup := fun h => rupper_call (w0 := w0) a h (by omega)
  generalize hU : upperS a = nm at *
  have hv : verbS s = normS (rcptS nm r) := by rw [verbS, cmd_RCPT hA hR hB hU hm, hm]
  have m0 : ¬ nm = [72, 69, 76, 79] := by rw [hm]; decide
  have m1 : ¬ nm = [69, 72, 76, 79] := by rw [hm]; decide
  have m2 : ¬ nm = [68, 65, 84, 65] := by rw [hm]; decide
  have m3 : ¬ nm = [82, 83, 69, 84] := by rw [hm]; decide
  have m4 : ¬ nm = [81, 85, 73, 84] := by rw [hm]; decide
  have m5 : ¬ nm = [78, 79, 79, 80] := by rw [hm]; decide
  have m6 : ¬ nm = [86, 82, 70, 89] := by rw [hm]; decide
  have m7 : ¬ nm = [77, 65, 73, 76] := by rw [hm]; decide
  have my : (nm = [82, 67, 80, 84]) = True := eq_true hm
  clear hm
  rw [hv]
  clear hv hA hR hB hU
  have xl := srows_len
  have xg := srows_get
  refine Call.bodyF b_ref01_Verb rfl rfl ?_
  unfold c_ref01_Verb rcptS
  have hldl : ([84, 79, 58] : List UInt8).length = 3 := rfl
  by_cases hr5 : 3 ≤ r.length
  · have hup2 := fun h => rupper_call (w0 := w0) (r.take 3) h (by rw [List.length_take]; omega)
    by_cases hu : upperS (r.take 3) = [84, 79, 58]
    · rw [hu] at hup2
      have hpw : pathW [84, 79, 58] r = (pathO ((splB 32 (r.drop 3)).headD [])).map fun m => (m, (splB 32 (r.drop 3)).tail) := by
        rw [pathW, if_pos ⟨by rw [hldl]; exact hr5, hu⟩, hldl]
      rw [hpw]
      clear hpw hldl
      have hdl : (r.drop 3).length ≤ r.length := by rw [List.length_drop]; omega
      have hcut := fun h => rcut_call (w0 := w0) (r.drop 3) 32 h (by omega)
      have hsl := splB_len (c := 32) (r.drop 3).length (Nat.le_refl _)
      have hne := splB_ne 32 (r.drop 3)
      have hwm : ∀ w ∈ splB 32 (r.drop 3), w.length ≤ 1000000000 := fun w hw => by
        have := splB_mem (r.drop 3).length (Nat.le_refl _) hw
        omega
      have htk : r.take r.length = r := List.take_length
      generalize splB 32 (r.drop 3) = ws at *
      obtain ⟨w, wt, rfl⟩ : ∃ w wt, ws = w :: wt := by
        cases ws with
        | nil => exact absurd rfl hne
        | cons a b => exact ⟨a, b, rfl⟩
      have hw0 : (w :: wt)[0]? = some w := rfl
      have hwn : (w :: wt).length = wt.length + 1 := rfl
      have hpa := fun h => rpath_call (w0 := w0) w h (hwm w (by simp))
      have hdr : (w :: wt).drop 1 = wt := rfl
      simp only [List.headD_cons, List.tail_cons]
      clear hne
      generalize pathO w = q at *
      generalize w :: wt = ws at *
      cases q with
      | none =>
        simp only [optV] at *
        repeat' (first
    | ((with_reducible apply opsF.op rfl); (case hs => (first | exact tHT | exact tHS)))
    | with_reducible (first | apply opsF.nil | apply seqF.nn | apply vcF.seq | apply vcF.region | apply vcF.skip | apply vcF.block | apply vcF.exit | apply vcF.ret | apply vcF.loop | apply seqF.e | apply seqF.r | apply blkF.nn | apply blkF.e | apply blkF.r | apply blkF.o rfl)
    | ((with_reducible apply opsF.call); (case hx => exact tAG))
    | ((with_reducible apply opsF.want); (case hg => exact tEV); (case hb => exact tNB))
    | ((with_reducible apply opsF.skip); (case hg => exact tEV); (case hb => exact tNB))
    | (first | ((with_reducible apply opsF.case); (case hg => exact tEV)) | ((with_reducible apply vcF.cond); (case hx => exact tEV))) <;> ((intro hc; try simp only [Int.reduceLT, Int.reduceLE, Int.reduceEq, Int.reduceNe, Int.cast_ofNat_Int, Int.reduceNeg, decide_true, decide_false, not_true_eq_false, not_false_eq_true, decide_eq_true_eq, decide_eq_false_iff_not, Bool.not_eq_true', Bool.not_eq_false', Bool.not_true, Bool.not_false, Bool.false_eq_true, Bool.true_eq_false, Bool.not_eq_true, Bool.not_eq_false, beq_iff_eq, beq_eq_false_iff_ne, bne_iff_ne, bne_eq_false_iff_eq, ne_eq, Int.not_lt, Int.not_le, ge_iff_le, gt_iff_lt, Decidable.not_not, reduceCtorEq, *] at hc) <;> (try (exfalso; omega)))
    | ((with_reducible apply opsF.und); (case hg => rfl))
    | ((with_reducible apply retF.r); (case hv => exact tRS))
    | ((with_reducible apply retF.nn); (case hv => exact tRS))
    | ((refine (hfind _).mono fun v h2 hp => ?_); obtain ⟨rfl, rfl⟩ := hp)
    | ((refine (hup _).mono fun v h2 hp => ?_); obtain ⟨rfl, he⟩ := hp; have hN := he.n; have hO := he.objs; (try simp only [alloc_n, set_n, newTok_n, bump_n] at hN hO))
    | ((refine (hup2 _).mono fun v h3 hp => ?_); obtain ⟨rfl, he2⟩ := hp; have hN := he2.n; have hO := he2.objs; (try simp only [alloc_n, set_n, newTok_n, bump_n] at hN hO))
    | ((refine (hcut _).mono fun v h4 hp => ?_); obtain ⟨rfl, rfl⟩ := hp)
    | ((refine (hpa _).mono fun v h4 hp => ?_); obtain ⟨rfl, he3⟩ := hp; have hN := he3.n; have hO := he3.objs; (try simp only [alloc_n, set_n, newTok_n, bump_n] at hN hO)))
        all_goals refine ⟨rfl, ?_⟩
        all_goals repeat' first
          | exact (Ext.alloc _ _).trans he
          | refine Ext.trans ?_ he3
          | refine Ext.trans ?_ he2
          | refine Ext.set ?_ (by first | exact Nat.le_refl _ | omega | (simp only [alloc_n, set_n] at *; omega)) _
          | refine Ext.trans ?_ (Ext.alloc _ _)
      | some m =>
        simp only [optV] at *
        simp only [Option.map_some]
        by_cases hmn : m = []
        · rw [if_pos hmn]
          subst hmn
          repeat' (first
    | ((with_reducible apply opsF.op rfl); (case hs => (first | exact tHT | exact tHS)))
    | with_reducible (first | apply opsF.nil | apply seqF.nn | apply vcF.seq | apply vcF.region | apply vcF.skip | apply vcF.block | apply vcF.exit | apply vcF.ret | apply vcF.loop | apply seqF.e | apply seqF.r | apply blkF.nn | apply blkF.e | apply blkF.r | apply blkF.o rfl)
    | ((with_reducible apply opsF.call); (case hx => exact tAG))
    | ((with_reducible apply opsF.want); (case hg => exact tEV); (case hb => exact tNB))
    | ((with_reducible apply opsF.skip); (case hg => exact tEV); (case hb => exact tNB))
    | (first | ((with_reducible apply opsF.case); (case hg => exact tEV)) | ((with_reducible apply vcF.cond); (case hx => exact tEV))) <;> ((intro hc; try simp only [Int.reduceLT, Int.reduceLE, Int.reduceEq, Int.reduceNe, Int.cast_ofNat_Int, Int.reduceNeg, decide_true, decide_false, not_true_eq_false, not_false_eq_true, decide_eq_true_eq, decide_eq_false_iff_not, Bool.not_eq_true', Bool.not_eq_false', Bool.not_true, Bool.not_false, Bool.false_eq_true, Bool.true_eq_false, Bool.not_eq_true, Bool.not_eq_false, beq_iff_eq, beq_eq_false_iff_ne, bne_iff_ne, bne_eq_false_iff_eq, ne_eq, Int.not_lt, Int.not_le, ge_iff_le, gt_iff_lt, Decidable.not_not, reduceCtorEq, *] at hc) <;> (try (exfalso; omega)))
    | ((with_reducible apply opsF.und); (case hg => rfl))
    | ((with_reducible apply retF.r); (case hv => exact tRS))
    | ((with_reducible apply retF.nn); (case hv => exact tRS))
    | ((refine (hfind _).mono fun v h2 hp => ?_); obtain ⟨rfl, rfl⟩ := hp)
    | ((refine (hup _).mono fun v h2 hp => ?_); obtain ⟨rfl, he⟩ := hp; have hN := he.n; have hO := he.objs; (try simp only [alloc_n, set_n, newTok_n, bump_n] at hN hO))
    | ((refine (hup2 _).mono fun v h3 hp => ?_); obtain ⟨rfl, he2⟩ := hp; have hN := he2.n; have hO := he2.objs; (try simp only [alloc_n, set_n, newTok_n, bump_n] at hN hO))
    | ((refine (hcut _).mono fun v h4 hp => ?_); obtain ⟨rfl, rfl⟩ := hp)
    | ((refine (hpa _).mono fun v h4 hp => ?_); obtain ⟨rfl, he3⟩ := hp; have hN := he3.n; have hO := he3.objs; (try simp only [alloc_n, set_n, newTok_n, bump_n] at hN hO)))
          all_goals refine ⟨rfl, ?_⟩
          all_goals repeat' first
            | exact (Ext.alloc _ _).trans he
            | refine Ext.trans ?_ he3
            | refine Ext.trans ?_ he2
            | refine Ext.set ?_ (by first | exact Nat.le_refl _ | omega | (simp only [alloc_n, set_n] at *; omega)) _
            | refine Ext.trans ?_ (Ext.alloc _ _)
        rw [if_neg hmn]
        repeat' (first
    | ((with_reducible apply opsF.op rfl); (case hs => (first | exact tHT | exact tHS)))
    | with_reducible (first | apply opsF.nil | apply seqF.nn | apply vcF.seq | apply vcF.region | apply vcF.skip | apply vcF.block | apply vcF.exit | apply vcF.ret | apply vcF.loop | apply seqF.e | apply seqF.r | apply blkF.nn | apply blkF.e | apply blkF.r | apply blkF.o rfl)
    | ((with_reducible apply opsF.call); (case hx => exact tAG))
    | ((with_reducible apply opsF.want); (case hg => exact tEV); (case hb => exact tNB))
    | ((with_reducible apply opsF.skip); (case hg => exact tEV); (case hb => exact tNB))
    | (first | ((with_reducible apply opsF.case); (case hg => exact tEV)) | ((with_reducible apply vcF.cond); (case hx => exact tEV))) <;> ((intro hc; try simp only [Int.reduceLT, Int.reduceLE, Int.reduceEq, Int.reduceNe, Int.cast_ofNat_Int, Int.reduceNeg, decide_true, decide_false, not_true_eq_false, not_false_eq_true, decide_eq_true_eq, decide_eq_false_iff_not, Bool.not_eq_true', Bool.not_eq_false', Bool.not_true, Bool.not_false, Bool.false_eq_true, Bool.true_eq_false, Bool.not_eq_true, Bool.not_eq_false, beq_iff_eq, beq_eq_false_iff_ne, bne_iff_ne, bne_eq_false_iff_eq, ne_eq, Int.not_lt, Int.not_le, ge_iff_le, gt_iff_lt, Decidable.not_not, reduceCtorEq, *] at hc) <;> (try (exfalso; omega)))
    | ((with_reducible apply opsF.und); (case hg => rfl))
    | ((with_reducible apply retF.r); (case hv => exact tRS))
    | ((with_reducible apply retF.nn); (case hv => exact tRS))
    | ((refine (hfind _).mono fun v h2 hp => ?_); obtain ⟨rfl, rfl⟩ := hp)
    | ((refine (hup _).mono fun v h2 hp => ?_); obtain ⟨rfl, he⟩ := hp; have hN := he.n; have hO := he.objs; (try simp only [alloc_n, set_n, newTok_n, bump_n] at hN hO))
    | ((refine (hup2 _).mono fun v h3 hp => ?_); obtain ⟨rfl, he2⟩ := hp; have hN := he2.n; have hO := he2.objs; (try simp only [alloc_n, set_n, newTok_n, bump_n] at hN hO))
    | ((refine (hcut _).mono fun v h4 hp => ?_); obtain ⟨rfl, rfl⟩ := hp)
    | ((refine (hpa _).mono fun v h4 hp => ?_); obtain ⟨rfl, he3⟩ := hp; have hN := he3.n; have hO := he3.objs; (try simp only [alloc_n, set_n, newTok_n, bump_n] at hN hO)))
        generalize hE0 : eachG (fun (_ : Unit) w => (rcptO w, ())) () 0 wt = E at *
        have e0 : h4.objs h.n = some (.cells [.v (.string (bs [])), .v (.string (bs [])), .v (.int .i64 0), .v (.bool false)]) := by
          refine (he3.objs h.n (by omega)).trans ((he2.objs h.n (by simp only [alloc_n, set_n]; omega)).trans ?_)
          simp (disch := omega) only [set_at, alloc_at, alloc_n, set_n, if_neg, if_pos, eq_self, if_true]
          exact (he.objs h.n (by simp [alloc_n])).trans (by simp [alloc_at])
        have e1 : h4.objs (h2.n + 1) = some (.cells [.v (.string (bs [])), .v (.string (bs [])), .v (.int .i64 0), .v (.bool false)]) := by
          refine (he3.objs (h2.n + 1) (by omega)).trans ((he2.objs (h2.n + 1) (by simp only [alloc_n, set_n]; omega)).trans ?_)
          simp (disch := omega) only [set_at, alloc_at, alloc_n, set_n, if_neg, if_pos, eq_self, if_true]
        have hEx : Ext h h4 := by
          refine Ext.trans ?_ he3
          refine Ext.trans ?_ he2
          refine Ext.set ?_ (by simp only [alloc_n, set_n]; omega) _
          refine Ext.trans ?_ (Ext.alloc _ _)
          refine Ext.set ?_ (by omega) _
          refine Ext.trans ?_ (Ext.alloc _ _)
          exact (Ext.alloc _ _).trans he
        have hCM : CM h (h4.set h2.n (.cells [.v (.string (bs nm)), .v (.string (bs m)), .v (.int .i64 (-1)), .v (.bool false)])) h.n h2.n (h2.n + 1) [.v (.string (bs nm)), .v (.string (bs m)), .v (.int .i64 (-1)), .v (.bool false)] := by
          refine ⟨?_, by simp [set_at], ?_, Nat.le_refl _, by omega, by omega, by simp only [set_n]; omega, hEx.set (by omega) _⟩
          · rw [set_at, if_neg (by omega)]; exact e0
          · rw [set_at, if_neg (by omega)]; exact e1
        have hwsl : ws.length ≤ 1000000001 := by omega
        clear hup hup2 hfind hcut hpa e0 e1 hEx m0 m1 m2 m3 m4 m5 m6 hlen ht hd hd2 ht1 hsl htk hdl hu
        refine LpF.ind rfl (fun i : Nat => ws.length - i) (fun i σ hh => ∃ (b : Bool), CM h hh h.n h2.n (h2.n + 1) [.v (.string (bs nm)), .v (.string (bs m)), .v (.int .i64 (-1)), .v (.bool false)] ∧ E = eachG (fun (_ : Unit) w => (rcptO w, ())) () (if b = true then 555 else 0) (ws.drop i) ∧ σ 2 = .ptr h.n 0 ∧ σ 8 = .ptr h2.n 0 ∧ σ 9 = .ptr (h2.n + 1) 0 ∧ σ 11 = .list 1 (srows ws) .no ∧ σ 15 = .v (.bool b) ∧ σ 16 = .v (.int .i64 (i : Nat)) ∧ 1 ≤ i ∧ i ≤ ws.length) ?_ (i := 1) ⟨false, hCM, by rw [hdr, ← hE0]; rfl, rfl, rfl, rfl, rfl, rfl, rfl, by omega, by omega⟩
        clear hE0 hCM he he2 he3
        rintro i σ hh ⟨b, hC, hEq, g2, g8, g9, g11, g15, g16, hi1, hi⟩
        obtain ⟨c1, c2, c3, c4, c5, c6, c7, c8⟩ := id hC
        rcases Nat.lt_or_ge i ws.length with hlt | hge
        · obtain ⟨w', hw'⟩ : ∃ x, ws[i]? = some x := ⟨_, List.getElem?_eq_getElem hlt⟩
          have hwl := hwm w' (List.mem_of_getElem? hw')
          have hup3 := fun h => rupper_call (w0 := w0) w' h (by omega)
          have hul : (upperS w').length ≤ 1000000000 := by rw [upperS_len]; exact hwl
          rw [drop_step hw', eachG] at hEq
          have hkey : rcptO w' = if (cutB 61 (upperS w')).1 = [] then 501 else 555 := by
            rw [rcptO]
            have := cutB_upper w'
            by_cases hc : (cutB 61 w').1 = []
            · rw [if_pos hc, if_pos (this.2 hc)]
            · rw [if_neg hc, if_neg (fun e => hc (this.1 e))]
          rw [hkey] at hEq
          clear hkey
          generalize upperS w' = u at *
          have hfind3 := fun h => rfind_call (w0 := w0) u 61 h (by omega)
          rcases cutB_cases 61 u with ⟨k1, k2⟩ | ⟨key, val, rfl, k1, k2⟩
          · rw [idx_miss k1] at hfind3
            rw [k2] at hEq
            simp only [] at hEq
            by_cases u0 : u = []
            · rw [if_pos u0] at hEq
              simp only [if_true] at hEq
              have uy : (u = []) = True := eq_true u0
              clear k2 u0
              repeat' (first
    | ((with_reducible apply opsF.op rfl); (case hs => (first | exact tHT | exact tHS)))
    | with_reducible (first | apply opsF.nil | apply seqF.nn | apply vcF.seq | apply vcF.region | apply vcF.skip | apply vcF.block | apply vcF.exit | apply vcF.ret | apply vcF.loop | apply seqF.e | apply seqF.r | apply blkF.nn | apply blkF.e | apply blkF.r | apply blkF.o rfl)
    | ((with_reducible apply opsF.call); (case hx => exact tAG))
    | ((with_reducible apply opsF.want); (case hg => exact tEV); (case hb => exact tNB))
    | ((with_reducible apply opsF.skip); (case hg => exact tEV); (case hb => exact tNB))
    | (first | ((with_reducible apply opsF.case); (case hg => exact tEV)) | ((with_reducible apply vcF.cond); (case hx => exact tEV))) <;> ((intro hc; try simp only [Int.reduceLT, Int.reduceLE, Int.reduceEq, Int.reduceNe, Int.cast_ofNat_Int, Int.reduceNeg, decide_true, decide_false, not_true_eq_false, not_false_eq_true, decide_eq_true_eq, decide_eq_false_iff_not, Bool.not_eq_true', Bool.not_eq_false', Bool.not_true, Bool.not_false, Bool.false_eq_true, Bool.true_eq_false, Bool.not_eq_true, Bool.not_eq_false, beq_iff_eq, beq_eq_false_iff_ne, bne_iff_ne, bne_eq_false_iff_eq, ne_eq, Int.not_lt, Int.not_le, ge_iff_le, gt_iff_lt, Decidable.not_not, reduceCtorEq, *] at hc) <;> (try (exfalso; omega)))
    | ((with_reducible apply opsF.und); (case hg => rfl))
    | ((with_reducible apply retF.r); (case hv => exact tRS))
    | ((with_reducible apply retF.nn); (case hv => exact tRS))
    | ((refine (hup3 _).mono fun v h5 hp => ?_); obtain ⟨rfl, he4⟩ := hp; have hN := he4.n; have hO := he4.objs; (try simp only [alloc_n, set_n, newTok_n, bump_n] at hN hO); have hC2 := hC.after he4; have d1 := hC2.res; have d2 := hC2.vb; have d3 := hC2.nn)
    | ((refine (hfind3 _).mono fun v h6 hp => ?_); obtain ⟨rfl, rfl⟩ := hp))
              all_goals exact ⟨by rw [hEq]; rfl, hC2.ext.set (Nat.le_refl _) _⟩
            · rw [if_neg u0] at hEq
              simp only [if_false, Int.reduceEq] at hEq
              clear k2
              repeat' (first
    | ((with_reducible apply opsF.op rfl); (case hs => (first | exact tHT | exact tHS)))
    | with_reducible (first | apply opsF.nil | apply seqF.nn | apply vcF.seq | apply vcF.region | apply vcF.skip | apply vcF.block | apply vcF.exit | apply vcF.ret | apply vcF.loop | apply seqF.e | apply seqF.r | apply blkF.nn | apply blkF.e | apply blkF.r | apply blkF.o rfl)
    | ((with_reducible apply opsF.call); (case hx => exact tAG))
    | ((with_reducible apply opsF.want); (case hg => exact tEV); (case hb => exact tNB))
    | ((with_reducible apply opsF.skip); (case hg => exact tEV); (case hb => exact tNB))
    | (first | ((with_reducible apply opsF.case); (case hg => exact tEV)) | ((with_reducible apply vcF.cond); (case hx => exact tEV))) <;> ((intro hc; try simp only [Int.reduceLT, Int.reduceLE, Int.reduceEq, Int.reduceNe, Int.cast_ofNat_Int, Int.reduceNeg, decide_true, decide_false, not_true_eq_false, not_false_eq_true, decide_eq_true_eq, decide_eq_false_iff_not, Bool.not_eq_true', Bool.not_eq_false', Bool.not_true, Bool.not_false, Bool.false_eq_true, Bool.true_eq_false, Bool.not_eq_true, Bool.not_eq_false, beq_iff_eq, beq_eq_false_iff_ne, bne_iff_ne, bne_eq_false_iff_eq, ne_eq, Int.not_lt, Int.not_le, ge_iff_le, gt_iff_lt, Decidable.not_not, reduceCtorEq, *] at hc) <;> (try (exfalso; omega)))
    | ((with_reducible apply opsF.und); (case hg => rfl))
    | ((with_reducible apply retF.r); (case hv => exact tRS))
    | ((with_reducible apply retF.nn); (case hv => exact tRS))
    | ((refine (hup3 _).mono fun v h5 hp => ?_); obtain ⟨rfl, he4⟩ := hp; have hN := he4.n; have hO := he4.objs; (try simp only [alloc_n, set_n, newTok_n, bump_n] at hN hO); have hC2 := hC.after he4; have d1 := hC2.res; have d2 := hC2.vb; have d3 := hC2.nn)
    | ((refine (hfind3 _).mono fun v h6 hp => ?_); obtain ⟨rfl, rfl⟩ := hp))
              all_goals exact ⟨i + 1, by omega, true, hC2, hEq, g2, g8, g9, g11, rfl, rfl, by omega, by omega⟩
          · rw [idx_hit k1] at hfind3
            rw [k2] at hEq
            simp only [] at hEq
            have ulen : (key ++ 61 :: val).length = key.length + (val.length + 1) := by simp
            have ut : (key ++ 61 :: val).take key.length = key := by simp
            have ud2 : ((key ++ 61 :: val).take (key.length + (val.length + 1))).drop (key.length + 1) = val := by
              rw [← ulen, List.take_length, ← List.drop_drop]; simp
            have ut1 : ((key.length : Int) + 1).toNat = key.length + 1 := by omega
            generalize key ++ 61 :: val = u at *
            clear k2
            by_cases u0 : key = []
            · rw [if_pos u0] at hEq
              simp only [if_true] at hEq
              subst u0
              simp only [List.length_nil] at *
              repeat' (first
    | ((with_reducible apply opsF.op rfl); (case hs => (first | exact tHT | exact tHS)))
    | with_reducible (first | apply opsF.nil | apply seqF.nn | apply vcF.seq | apply vcF.region | apply vcF.skip | apply vcF.block | apply vcF.exit | apply vcF.ret | apply vcF.loop | apply seqF.e | apply seqF.r | apply blkF.nn | apply blkF.e | apply blkF.r | apply blkF.o rfl)
    | ((with_reducible apply opsF.call); (case hx => exact tAG))
    | ((with_reducible apply opsF.want); (case hg => exact tEV); (case hb => exact tNB))
    | ((with_reducible apply opsF.skip); (case hg => exact tEV); (case hb => exact tNB))
    | (first | ((with_reducible apply opsF.case); (case hg => exact tEV)) | ((with_reducible apply vcF.cond); (case hx => exact tEV))) <;> ((intro hc; try simp only [Int.reduceLT, Int.reduceLE, Int.reduceEq, Int.reduceNe, Int.cast_ofNat_Int, Int.reduceNeg, decide_true, decide_false, not_true_eq_false, not_false_eq_true, decide_eq_true_eq, decide_eq_false_iff_not, Bool.not_eq_true', Bool.not_eq_false', Bool.not_true, Bool.not_false, Bool.false_eq_true, Bool.true_eq_false, Bool.not_eq_true, Bool.not_eq_false, beq_iff_eq, beq_eq_false_iff_ne, bne_iff_ne, bne_eq_false_iff_eq, ne_eq, Int.not_lt, Int.not_le, ge_iff_le, gt_iff_lt, Decidable.not_not, reduceCtorEq, *] at hc) <;> (try (exfalso; omega)))
    | ((with_reducible apply opsF.und); (case hg => rfl))
    | ((with_reducible apply retF.r); (case hv => exact tRS))
    | ((with_reducible apply retF.nn); (case hv => exact tRS))
    | ((refine (hup3 _).mono fun v h5 hp => ?_); obtain ⟨rfl, he4⟩ := hp; have hN := he4.n; have hO := he4.objs; (try simp only [alloc_n, set_n, newTok_n, bump_n] at hN hO); have hC2 := hC.after he4; have d1 := hC2.res; have d2 := hC2.vb; have d3 := hC2.nn)
    | ((refine (hfind3 _).mono fun v h6 hp => ?_); obtain ⟨rfl, rfl⟩ := hp))
              all_goals exact ⟨by rw [hEq]; rfl, hC2.ext.set (Nat.le_refl _) _⟩
            · rw [if_neg u0] at hEq
              simp only [if_false, Int.reduceEq] at hEq
              repeat' (first
    | ((with_reducible apply opsF.op rfl); (case hs => (first | exact tHT | exact tHS)))
    | with_reducible (first | apply opsF.nil | apply seqF.nn | apply vcF.seq | apply vcF.region | apply vcF.skip | apply vcF.block | apply vcF.exit | apply vcF.ret | apply vcF.loop | apply seqF.e | apply seqF.r | apply blkF.nn | apply blkF.e | apply blkF.r | apply blkF.o rfl)
    | ((with_reducible apply opsF.call); (case hx => exact tAG))
    | ((with_reducible apply opsF.want); (case hg => exact tEV); (case hb => exact tNB))
    | ((with_reducible apply opsF.skip); (case hg => exact tEV); (case hb => exact tNB))
    | (first | ((with_reducible apply opsF.case); (case hg => exact tEV)) | ((with_reducible apply vcF.cond); (case hx => exact tEV))) <;> ((intro hc; try simp only [Int.reduceLT, Int.reduceLE, Int.reduceEq, Int.reduceNe, Int.cast_ofNat_Int, Int.reduceNeg, decide_true, decide_false, not_true_eq_false, not_false_eq_true, decide_eq_true_eq, decide_eq_false_iff_not, Bool.not_eq_true', Bool.not_eq_false', Bool.not_true, Bool.not_false, Bool.false_eq_true, Bool.true_eq_false, Bool.not_eq_true, Bool.not_eq_false, beq_iff_eq, beq_eq_false_iff_ne, bne_iff_ne, bne_eq_false_iff_eq, ne_eq, Int.not_lt, Int.not_le, ge_iff_le, gt_iff_lt, Decidable.not_not, reduceCtorEq, *] at hc) <;> (try (exfalso; omega)))
    | ((with_reducible apply opsF.und); (case hg => rfl))
    | ((with_reducible apply retF.r); (case hv => exact tRS))
    | ((with_reducible apply retF.nn); (case hv => exact tRS))
    | ((refine (hup3 _).mono fun v h5 hp => ?_); obtain ⟨rfl, he4⟩ := hp; have hN := he4.n; have hO := he4.objs; (try simp only [alloc_n, set_n, newTok_n, bump_n] at hN hO); have hC2 := hC.after he4; have d1 := hC2.res; have d2 := hC2.vb; have d3 := hC2.nn)
    | ((refine (hfind3 _).mono fun v h6 hp => ?_); obtain ⟨rfl, rfl⟩ := hp))
              all_goals exact ⟨i + 1, by omega, true, hC2, hEq, g2, g8, g9, g11, rfl, rfl, by omega, by omega⟩
        · obtain rfl : i = ws.length := by omega
          rw [List.drop_length, eachG] at hEq
          rw [hEq]
          cases b
          all_goals repeat' (first
    | ((with_reducible apply opsF.op rfl); (case hs => (first | exact tHT | exact tHS)))
    | with_reducible (first | apply opsF.nil | apply seqF.nn | apply vcF.seq | apply vcF.region | apply vcF.skip | apply vcF.block | apply vcF.exit | apply vcF.ret | apply vcF.loop | apply seqF.e | apply seqF.r | apply blkF.nn | apply blkF.e | apply blkF.r | apply blkF.o rfl)
    | ((with_reducible apply opsF.call); (case hx => exact tAG))
    | ((with_reducible apply opsF.want); (case hg => exact tEV); (case hb => exact tNB))
    | ((with_reducible apply opsF.skip); (case hg => exact tEV); (case hb => exact tNB))
    | (first | ((with_reducible apply opsF.case); (case hg => exact tEV)) | ((with_reducible apply vcF.cond); (case hx => exact tEV))) <;> ((intro hc; try simp only [Int.reduceLT, Int.reduceLE, Int.reduceEq, Int.reduceNe, Int.cast_ofNat_Int, Int.reduceNeg, decide_true, decide_false, not_true_eq_false, not_false_eq_true, decide_eq_true_eq, decide_eq_false_iff_not, Bool.not_eq_true', Bool.not_eq_false', Bool.not_true, Bool.not_false, Bool.false_eq_true, Bool.true_eq_false, Bool.not_eq_true, Bool.not_eq_false, beq_iff_eq, beq_eq_false_iff_ne, bne_iff_ne, bne_eq_false_iff_eq, ne_eq, Int.not_lt, Int.not_le, ge_iff_le, gt_iff_lt, Decidable.not_not, reduceCtorEq, *] at hc) <;> (try (exfalso; omega)))
    | ((with_reducible apply opsF.und); (case hg => rfl))
    | ((with_reducible apply retF.r); (case hv => exact tRS))
    | ((with_reducible apply retF.nn); (case hv => exact tRS)))
          all_goals exact ⟨rfl, hC.ext.set (Nat.le_refl _) _⟩
    · have hpw : pathW [84, 79, 58] r = none := by
        rw [pathW, if_neg (fun e => hu (by have := e.2; rwa [hldl] at this))]
      rw [hpw]
      clear hpw hldl
      generalize hUU : upperS (r.take 3) = U at *
      repeat' (first
    | ((with_reducible apply opsF.op rfl); (case hs => (first | exact tHT | exact tHS)))
    | with_reducible (first | apply opsF.nil | apply seqF.nn | apply vcF.seq | apply vcF.region | apply vcF.skip | apply vcF.block | apply vcF.exit | apply vcF.ret | apply vcF.loop | apply seqF.e | apply seqF.r | apply blkF.nn | apply blkF.e | apply blkF.r | apply blkF.o rfl)
    | ((with_reducible apply opsF.call); (case hx => exact tAG))
    | ((with_reducible apply opsF.want); (case hg => exact tEV); (case hb => exact tNB))
    | ((with_reducible apply opsF.skip); (case hg => exact tEV); (case hb => exact tNB))
    | (first | ((with_reducible apply opsF.case); (case hg => exact tEV)) | ((with_reducible apply vcF.cond); (case hx => exact tEV))) <;> ((intro hc; try simp only [Int.reduceLT, Int.reduceLE, Int.reduceEq, Int.reduceNe, Int.cast_ofNat_Int, Int.reduceNeg, decide_true, decide_false, not_true_eq_false, not_false_eq_true, decide_eq_true_eq, decide_eq_false_iff_not, Bool.not_eq_true', Bool.not_eq_false', Bool.not_true, Bool.not_false, Bool.false_eq_true, Bool.true_eq_false, Bool.not_eq_true, Bool.not_eq_false, beq_iff_eq, beq_eq_false_iff_ne, bne_iff_ne, bne_eq_false_iff_eq, ne_eq, Int.not_lt, Int.not_le, ge_iff_le, gt_iff_lt, Decidable.not_not, reduceCtorEq, *] at hc) <;> (try (exfalso; omega)))
    | ((with_reducible apply opsF.und); (case hg => rfl))
    | ((with_reducible apply retF.r); (case hv => exact tRS))
    | ((with_reducible apply retF.nn); (case hv => exact tRS))
    | ((refine (hfind _).mono fun v h2 hp => ?_); obtain ⟨rfl, rfl⟩ := hp)
    | ((refine (hup _).mono fun v h2 hp => ?_); obtain ⟨rfl, he⟩ := hp; have hN := he.n; have hO := he.objs; (try simp only [alloc_n, set_n, newTok_n, bump_n] at hN hO))
    | ((refine (hup2 _).mono fun v h3 hp => ?_); obtain ⟨rfl, he2⟩ := hp; have hN := he2.n; have hO := he2.objs; (try simp only [alloc_n, set_n, newTok_n, bump_n] at hN hO)))
      all_goals refine ⟨rfl, ?_⟩
      all_goals repeat' first
        | exact (Ext.alloc _ _).trans he
        | refine Ext.trans ?_ he2
        | refine Ext.set ?_ (by first | exact Nat.le_refl _ | omega | (simp only [alloc_n, set_n] at *; omega)) _
        | refine Ext.trans ?_ (Ext.alloc _ _)
  · have hpw : pathW [84, 79, 58] r = none := by
      rw [pathW, if_neg (fun e => hr5 e.1)]
    rw [hpw]
    clear hpw hldl
    repeat' (first
    | ((with_reducible apply opsF.op rfl); (case hs => (first | exact tHT | exact tHS)))
    | with_reducible (first | apply opsF.nil | apply seqF.nn | apply vcF.seq | apply vcF.region | apply vcF.skip | apply vcF.block | apply vcF.exit | apply vcF.ret | apply vcF.loop | apply seqF.e | apply seqF.r | apply blkF.nn | apply blkF.e | apply blkF.r | apply blkF.o rfl)
    | ((with_reducible apply opsF.call); (case hx => exact tAG))
    | ((with_reducible apply opsF.want); (case hg => exact tEV); (case hb => exact tNB))
    | ((with_reducible apply opsF.skip); (case hg => exact tEV); (case hb => exact tNB))
    | (first | ((with_reducible apply opsF.case); (case hg => exact tEV)) | ((with_reducible apply vcF.cond); (case hx => exact tEV))) <;> ((intro hc; try simp only [Int.reduceLT, Int.reduceLE, Int.reduceEq, Int.reduceNe, Int.cast_ofNat_Int, Int.reduceNeg, decide_true, decide_false, not_true_eq_false, not_false_eq_true, decide_eq_true_eq, decide_eq_false_iff_not, Bool.not_eq_true', Bool.not_eq_false', Bool.not_true, Bool.not_false, Bool.false_eq_true, Bool.true_eq_false, Bool.not_eq_true, Bool.not_eq_false, beq_iff_eq, beq_eq_false_iff_ne, bne_iff_ne, bne_eq_false_iff_eq, ne_eq, Int.not_lt, Int.not_le, ge_iff_le, gt_iff_lt, Decidable.not_not, reduceCtorEq, *] at hc) <;> (try (exfalso; omega)))
    | ((with_reducible apply opsF.und); (case hg => rfl))
    | ((with_reducible apply retF.r); (case hv => exact tRS))
    | ((with_reducible apply retF.nn); (case hv => exact tRS))
    | ((refine (hfind _).mono fun v h2 hp => ?_); obtain ⟨rfl, rfl⟩ := hp)
    | ((refine (hup _).mono fun v h2 hp => ?_); obtain ⟨rfl, he⟩ := hp; have hN := he.n; have hO := he.objs; (try simp only [alloc_n, set_n, newTok_n, bump_n] at hN hO)))
    all_goals refine ⟨rfl, ?_⟩
    all_goals repeat' first
      | exact (Ext.alloc _ _).trans he
      | refine Ext.set ?_ (by first | exact Nat.le_refl _ | omega | (simp only [alloc_n, set_n] at *; omega)) _
      | refine Ext.trans ?_ (Ext.alloc _ _)
theorem rverb_call (s : List UInt8) (h : AH) (hl : s.length ≤ 1000000000) : Call P w0 ref01_Verb [.v (.string (bs s))] h (fun v h' => v = codeV (verbS s) ∧ Ext h h') := by
  rcases cutB_cases 32 s with ⟨h1, _⟩ | ⟨a, r, rfl, h1, _⟩
  · exact rverb_miss s h hl h1
  · by_cases hm1 : upperS a = [77, 65, 73, 76]
    · exact rverb_mail a r h hl h1 hm1
    · by_cases hm2 : upperS a = [82, 67, 80, 84]
      · exact rverb_rcpt a r h hl h1 hm2
      · exact rverb_other a r h hl h1 hm1 hm2
end Go.Abs.F
