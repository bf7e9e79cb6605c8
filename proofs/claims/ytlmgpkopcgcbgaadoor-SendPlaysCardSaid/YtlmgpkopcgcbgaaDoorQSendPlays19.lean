/- What the proof needs, part 19: Layer 7: the document's session: bytes come. -/
import Derived.Test.YtlmgpkopcgcbgaaDoorQSendPlays17
/- Layer 7: the document's session: bytes come. -/
namespace Go.Abs.F
open Go Go.Abs
set_option maxRecDepth 10000
set_option maxHeartbeats 20000000
set_option linter.unusedSimpArgs false
set_option linter.unusedVariables false
variable {w0 : World}
theorem is_slDrop {σ : Fm} {h : AH} {x lo : Opd} {rows rows' : List (List AV)} {tok : Tok} {k : IntKind} {j : Int} (n : Nat) (hx : evF σ x = .list 1 rows tok) (hy : evF σ lo = .v (.int k j)) (hj : j = (n : Nat)) (hn : n ≤ rows.length) (e : rows.drop n = rows') : istep (.slL 1 x (some lo) none none) (evF σ) h = some (.list 1 rows' tok, h) := by
  refine is_slL hx bnd_none (bnd_some (n := n) hy (by omega) (by omega)) ?_ (if_pos rfl)
  rw [← e, ← List.length_drop, List.take_length]
theorem is_slTake {σ : Fm} {h : AH} {x hi : Opd} {rows rows' : List (List AV)} {tok : Tok} {k : IntKind} {j : Int} (n : Nat) (hx : evF σ x = .list 1 rows tok) (hy : evF σ hi = .v (.int k j)) (hj : j = (n : Nat)) (hn : n < rows.length) (e : rows.take n = rows') : istep (.slL 1 x none (some hi) none) (evF σ) h = some (.list 1 rows' .no, h) := by
  refine is_slL hx (bnd_some (n := n) hy (by omega) (by omega)) bnd_none ?_ (if_neg (by omega))
  rw [List.drop_zero, Nat.sub_zero, e]
theorem rcfeed_call (y : RK) (s : CS) (body : List L8) (tt tb tw ts : Tok) (R : List Tok) (b : L8) (tk : Tok) (h : AH) (H : RcL h y s body tt tb tw ts) (hT : Toks h (tw :: ts :: R)) (hz : s.Sz) (hok : s.over = false → s.Ok2) (hb1 : s.over = false → s.out.length + (s.wait.length + b.length) ≤ 900000000) (hb2 : s.over = false → s.nls + (s.wait.length + b.length) ≤ 900000000) :
    Call P w0 ref01_Client_Feed [.ptr y.id 0, .list 1 (brows b) tk] h (fun v h' => ∃ tw' ts', RcL h' y (s.feed b) body tt tb tw' ts' ∧ Toks h' (tw' :: ts' :: R) ∧ Fr y.ids h h') := by
  obtain ⟨w, c, k, HO, HK⟩ := H.k
  have hob := HO.o
  unfold rcells at hob
  obtain ⟨m1, m2⟩ := HO.lt
  have bl := brows_len
  refine Call.bodyF b_ref01_Client_Feed rfl rfl ?_
  unfold c_ref01_Client_Feed
  rcases Bool.eq_false_or_eq_true s.over with hov | hov
  · have e : s.feed b = s := by unfold CS.feed; rw [if_pos hov]
    rw [e]
    rw [hov] at hob
    clear hok hb1 hb2 HK
    repeat' (first
| ((with_reducible apply opsF.op rfl); case hs => first | exact tHT | exact tHS)
| (with_reducible first | apply opsF.nil | apply seqF.nn | apply vcF.seq | apply vcF.region | apply vcF.skip | apply vcF.block | apply vcF.exit | apply vcF.ret | apply vcF.loop | apply seqF.e | apply seqF.r | apply blkF.nn | apply blkF.e | apply blkF.r | apply blkF.o rfl)
| ((with_reducible apply opsF.call); case hx => exact tAG)
| ((with_reducible apply opsF.want); (case hg => exact tEV); case hb => exact tNB)
| ((with_reducible apply opsF.skip); (case hg => exact tEV); case hb => exact tNB)
| (first | ((with_reducible apply opsF.case); case hg => exact tEV) | ((with_reducible apply vcF.cond); case hx => exact tEV)) <;> ((intro hc; try simp only [Int.reduceLT, Int.reduceLE, Int.reduceEq, Int.reduceNe, Int.cast_ofNat_Int, Int.reduceNeg, reduceCtorEq, ne_eq, ge_iff_le, gt_iff_lt, beq_iff_eq, beq_eq_false_iff_ne, bne_iff_ne, bne_eq_false_iff_eq, nrm, *] at hc) <;> try (exfalso; omega))
| ((with_reducible apply opsF.und); case hg => rfl)
| ((with_reducible first | apply retF.r | apply retF.nn); case hv => exact tRS))
    all_goals exact ⟨tw, ts, H, hT, .refl _ _⟩
  · have KK := HK hov
    rw [hov] at hob
    have hb1 := hb1 hov
    have hb2 := hb2 hov
    have hok := hok hov
    have hw := KK.w
    subst hw
    obtain ⟨t1, h1, ap1, T1, o1, n1, v1⟩ := appB_all hT.full1 [] s.wait (by simp; omega)
    obtain ⟨t2, h2, ap2, T2, o2, n2, v2⟩ := appB_all T1 s.wait b (by omega)
    have hob2 := hob
    rw [← o1, ← o2] at hob2
    have H2 := HO.upd (h2 := h2) (s' := { s with wait := s.wait ++ b }) (tw' := t2) (ts' := ts) (w' := s.wait ++ b) (c' := c) (k' := k) (o2.trans o1) (n2.trans n1) rfl rfl
    have F2 : Fr y.ids h h2 := ((Fr.refl y.ids h).app o1 n1 v1).app o2 n2 v2
    unfold rcells at H2
    simp only [hov] at H2
    rw [List.nil_append] at ap1
    repeat' (first
| ((with_reducible apply opsF.op rfl); (case hs => exact ap1 _ _ _ _ tEV tEV))
| ((with_reducible apply opsF.op rfl); (case hs => exact ap2 _ _ _ _ tEV tEV))
| ((with_reducible apply opsF.op rfl); case hs => first | exact tHT | exact tHS)
| (with_reducible first | apply opsF.nil | apply seqF.nn | apply vcF.seq | apply vcF.region | apply vcF.skip | apply vcF.block | apply vcF.exit | apply vcF.ret | apply vcF.loop | apply seqF.e | apply seqF.r | apply blkF.nn | apply blkF.e | apply blkF.r | apply blkF.o rfl)
| ((with_reducible apply opsF.call); case hx => exact tAG)
| ((with_reducible apply opsF.want); (case hg => exact tEV); case hb => exact tNB)
| ((with_reducible apply opsF.skip); (case hg => exact tEV); case hb => exact tNB)
| (first | ((with_reducible apply opsF.case); case hg => exact tEV) | ((with_reducible apply vcF.cond); case hx => exact tEV)) <;> ((intro hc; try simp only [Int.reduceLT, Int.reduceLE, Int.reduceEq, Int.reduceNe, Int.cast_ofNat_Int, Int.reduceNeg, reduceCtorEq, ne_eq, ge_iff_le, gt_iff_lt, beq_iff_eq, beq_eq_false_iff_ne, bne_iff_ne, bne_eq_false_iff_eq, nrm, *] at hc) <;> try (exfalso; omega))
| ((with_reducible apply opsF.und); case hg => rfl)
| ((with_reducible first | apply retF.r | apply retF.nn); case hv => exact tRS))
    clear ap1 ap2
    have k0 : FI (s.feed b) ({ s with wait := s.wait ++ b } : CS) ((s.wait ++ b).length + 1) := by
      refine ⟨⟨hz.host, hz.sndr, hz.tgs, hz.tgl⟩, .inr ⟨hov, rfl, ⟨hok.st, hok.p2, hok.p3, hok.tg⟩, by simp only [List.length_append]; omega, by simp only [List.length_append]; omega, ?_⟩⟩
      unfold CS.feed
      rw [if_neg (by rw [hov]; simp)]
      exact (congrArg (fun q : CS => ({ q with wait := (crlfS 512 [] (s.wait ++ b)).2 } : CS)) (lines_wait (s.wait ++ b) _ s)).symm
    have es : ({ s with wait := s.wait ++ b } : CS) = { s with wait := s.wait ++ b, over := false } := by rw [← hov]
    rw [es] at k0
    clear es
    generalize s.feed b = F at *
    refine LpF.ind rfl (fun p : Nat × Nat => p.1 * 900000002 + (900000001 - p.2)) (fun p σ hh => ∃ s1 tw1 ts1 w1 c1 k1, FI F s1 p.1 ∧ FQ y body tt tb R h s1 tw1 ts1 w1 c1 k1 hh ∧ (s1.over = false → RcK s1 body w1 c1 k1 ∧ cutAt w1 p.2 = cutL w1) ∧ σ 0 = .ptr y.id 0 ∧ σ 4 = .v (.int .i64 (p.2 : Nat)) ∧ p.2 ≤ 900000000) ?_ (i := ((s.wait ++ b).length + 1, 0))
      ⟨_, t2, ts, _, c, k, k0, ⟨H2, T2.set, F2.set (.inl (by simp [RK.ids])) _⟩, fun _ => ⟨⟨rfl, KK.c, by rw [KK.k]; rfl, KK.n, KK.b, KK.y⟩, cutAt_zero _⟩, rfl, rfl, Nat.zero_le _⟩
    clear k0 H2 T2 F2 hob hob2 KK HK HO hb1 hb2 hok H hT
    rintro ⟨m, i⟩ σ hh ⟨s1, tw1, ts1, w1, c1, k1, K, ⟨G, GT, GF⟩, hK, g0, g4, hi⟩
    dsimp only at K hK g4 hi
    have gob := G.o
    unfold rcells at gob
    obtain ⟨p1, p2⟩ := G.lt
    rcases Bool.eq_false_or_eq_true s1.over with ho1 | ho1
    · have e : ∃ W, F = { s1 with wait := W } := by
        rcases K.k with ⟨_, _, W, e⟩ | ⟨e, _⟩
        · exact ⟨W, e⟩
        · rw [ho1] at e; cases e
      obtain ⟨W, e⟩ := e
      have hres : ∃ tw' ts', RcL hh y F body tt tb tw' ts' ∧ Toks hh (tw' :: ts' :: R) ∧ Fr y.ids h hh := by
        rw [e]
        exact ⟨tw1, ts1, ⟨⟨w1, c1, k1, G.as rfl rfl rfl rfl rfl rfl, fun e => by rw [show ({ s1 with wait := W } : CS).over = s1.over from rfl, ho1] at e; cases e⟩⟩, GT, GF⟩
      rw [ho1] at gob
      clear K hK e
      repeat' (first
| ((with_reducible apply opsF.op rfl); case hs => first | exact tHT | exact tHS)
| (with_reducible first | apply opsF.nil | apply seqF.nn | apply vcF.seq | apply vcF.region | apply vcF.skip | apply vcF.block | apply vcF.exit | apply vcF.ret | apply vcF.loop | apply seqF.e | apply seqF.r | apply blkF.nn | apply blkF.e | apply blkF.r | apply blkF.o rfl)
| ((with_reducible apply opsF.call); case hx => exact tAG)
| ((with_reducible apply opsF.want); (case hg => exact tEV); case hb => exact tNB)
| ((with_reducible apply opsF.skip); (case hg => exact tEV); case hb => exact tNB)
| (first | ((with_reducible apply opsF.case); case hg => exact tEV) | ((with_reducible apply vcF.cond); case hx => exact tEV)) <;> ((intro hc; try simp only [Int.reduceLT, Int.reduceLE, Int.reduceEq, Int.reduceNe, Int.cast_ofNat_Int, Int.reduceNeg, reduceCtorEq, ne_eq, ge_iff_le, gt_iff_lt, beq_iff_eq, beq_eq_false_iff_ne, bne_iff_ne, bne_eq_false_iff_eq, nrm, *] at hc) <;> try (exfalso; omega))
| ((with_reducible apply opsF.und); case hg => rfl)
| ((with_reducible first | apply retF.r | apply retF.nn); case hv => exact tRS))
      all_goals exact hres
    · obtain ⟨KK, hcut⟩ := hK ho1
      have kw := KK.w
      have kc := KK.c
      subst kw kc
      have hz1 := K.sz
      have hbnd : s1.wait.length ≤ 900000000 ∧ F = { s1.lines (crlfS 512 [] s1.wait).1 with wait := (crlfS 512 [] s1.wait).2 } ∧ s1.Ok2 ∧ s1.out.length + s1.wait.length ≤ 900000000 ∧ s1.nls + s1.wait.length ≤ 900000000 := by
        rcases K.k with ⟨e, _⟩ | ⟨_, _, k3, k4, k5, k6⟩
        · rw [ho1] at e; cases e
        · exact ⟨by omega, k6, k3, k4, k5⟩
      obtain ⟨b1, b2, b3, b4, b5⟩ := hbnd
      rw [ho1] at gob
      have bg := brows_get
      rcases Nat.lt_or_ge (i + 1) s1.wait.length with hlt | hge
      · obtain ⟨x0, hx0⟩ : ∃ x, s1.wait[i]? = some x := ⟨_, List.getElem?_eq_getElem (by omega)⟩
        obtain ⟨x1, hx1⟩ : ∃ x, s1.wait[i + 1]? = some x := ⟨_, List.getElem?_eq_getElem hlt⟩
        have hti : ((i : Int) + 1).toNat = i + 1 := by omega
        by_cases h13 : x0 = 13
        · by_cases h10 : x1 = 10
          · subst h13 h10
            have hc : cutL s1.wait = some (s1.wait.take i, s1.wait.drop (i + 2)) := by rw [← hcut]; exact cutAt_hit hx0 hx1
            have hg1 : (brows s1.wait)[i + 1]? = some [.v (.int .u8 10)] := by rw [bg, hx1]; rfl
            have hg0 : (brows s1.wait)[i]? = some [.v (.int .u8 13)] := by rw [bg, hx0]; rfl
            obtain ⟨m2, hm2, K2⟩ := K.round ho1 hc
            clear K hcut hK b2
            have e1 : (brows s1.wait).take i = brows (s1.wait.take i) := by simp [brows, List.map_take]
            have e2 : (brows s1.wait).drop (i + 2) = brows (s1.wait.drop (i + 2)) := by simp [brows, List.map_drop]
            have hln := fun tok h => rpline_call (w0 := w0) (s1.wait.take i) 512 tok h (by rw [List.length_take]; omega)
            have hal : (lineS 512 (s1.wait.take i)).2.length ≤ 1000000000 := by
              unfold lineS
              split
              · simp
              · split
                · simp
                · show (s1.wait.take i).length ≤ _; rw [List.length_take]; omega
            generalize (lineS 512 (s1.wait.take i)).1 = lk at *
            generalize (lineS 512 (s1.wait.take i)).2 = lt at *
            generalize s1.wait.take i = A at *
            have hrl : (s1.wait.drop (i + 2)).length ≤ 900000000 := by rw [List.length_drop]; omega
            generalize s1.wait.drop (i + 2) = r at *
            have hlp := fun tok h => Call.pur (.agg fun j hj => (by match j, hj with | 0, _ => exact .v _ | 1, _ => exact .v _)) (hln tok h)
            have hon : ∀ h, Call P w0 ref01_One [.agg [.v (.int .i64 lk), .v (.string (bs lt))]] h (fun v h' => v = oneV (oneS lk lt) ∧ h' = h) := fun h => Call.pur (by
              cases oneS lk lt with
              | none => exact .tup fun j hj => (by match j, hj with | 0, _ => exact .v _ | 1, _ => exact .v _ | 2, _ => exact .v _ | 3, _ => exact .v _)
              | some p => exact .tup fun j hj => (by match j, hj with | 0, _ => exact .v _ | 1, _ => exact .v _ | 2, _ => exact .v _ | 3, _ => exact .v _)) (one_call (w0 := w0) lk lt h (by omega))
            clear hln
            obtain ⟨s2, hs2⟩ : ∃ s2 : CS, s2 = { s1 with wait := r } := ⟨_, rfl⟩
            rw [← hs2] at K2
            have q : s2.over = false ∧ s2.Sz ∧ s2.Ok2 ∧ s2.out = s1.out ∧ s2.nls = s1.nls ∧ s2.code = s1.code ∧ s2.wait = r ∧ rstep s2 = k1 ∧ s2.body = stuffGo body := by
              subst hs2
              exact ⟨ho1, ⟨hz1.host, hz1.sndr, hz1.tgs, hz1.tgl⟩, ⟨b3.st, b3.p2, b3.p3, b3.tg⟩, rfl, rfl, rfl, rfl, KK.k.symm, KK.y⟩
            obtain ⟨q1, q2, q3, q4, q5, q6, q7, q8, q9⟩ := q
            have hA : ∀ {h2 : AH} (c' : Int), Ext hh h2 → RcO (h2.set y.id (.cells (rcells y s2 body tt tb tw1 ts1 r c' k1))) y s2 body tt tb tw1 ts1 r c' k1 := fun {h2} c' e => (G.fr (Fr.ext (I := []) e) (by simp)).upd (h2 := h2) rfl rfl (by rw [hs2]) (by rw [hs2])
            have hcc : ∀ c', rcells y s2 body tt tb tw1 ts1 r c' k1 = [.v (.string (bs s1.host)), .v (.string (bs s1.sndr)), .list 1 (srows s1.tg) tt, .list 1 (srows body) tb, .list 1 (brows r) tw1, .v (.int .i64 c'), .list 1 (srows s1.out) ts1, .v (.int .i64 k1), .row y.cid 0 s1.tg.length (some s1.tg.length), .v (.bool false)] := fun c' => by rw [hs2]; unfold rcells; rw [ho1]
            simp only [hcc] at hA
            have hbd := KK.b
            have hnl := KK.n
            rw [← q5, ← q6] at hnl
            unfold CS.line at K2
            cases hO : oneS lk lt with
            | none =>
              rw [hO] at hon K2
              dsimp only at K2
              rw [lost_cn] at K2
              have hFo := K2.overF (lost_over s2)
              obtain ⟨W, hFo⟩ := hFo
              have hlo := fun {h2 : AH} (e : Ext hh h2) => rclost_call (w0 := w0) y s2 body tt tb tw1 ts1 r s1.code k1 (tw1 :: R) _ (hA s1.code e) ((GT.ext e).swap.set) q2
              clear K2 hnl hO KK
              repeat' (first
| ((with_reducible apply opsF.op rfl); (case hs => exact is_iaL tEV tEV (by omega) (by first | exact hg0 | (rw [hti]; exact hg1))))
| ((with_reducible apply opsF.op rfl); (case hs => exact is_slDrop (i + 2) tEV tEV (by omega) (by rw [bl]; omega) e2))
| ((with_reducible apply opsF.op rfl); (case hs => exact is_slTake i tEV tEV (by omega) (by rw [bl]; omega) e1))
| ((with_reducible apply opsF.op rfl); case hs => first | exact tHT | exact tHS)
| (with_reducible first | apply opsF.nil | apply seqF.nn | apply vcF.seq | apply vcF.region | apply vcF.skip | apply vcF.block | apply vcF.exit | apply vcF.ret | apply vcF.loop | apply seqF.e | apply seqF.r | apply blkF.nn | apply blkF.e | apply blkF.r | apply blkF.o rfl)
| ((with_reducible apply opsF.call); case hx => exact tAG)
| ((with_reducible apply opsF.want); (case hg => exact tEV); case hb => exact tNB)
| ((with_reducible apply opsF.skip); (case hg => exact tEV); case hb => exact tNB)
| (first | ((with_reducible apply opsF.case); case hg => exact tEV) | ((with_reducible apply vcF.cond); case hx => exact tEV)) <;> ((intro hc; try simp only [Int.reduceLT, Int.reduceLE, Int.reduceEq, Int.reduceNe, Int.cast_ofNat_Int, Int.reduceNeg, reduceCtorEq, ne_eq, ge_iff_le, gt_iff_lt, beq_iff_eq, beq_eq_false_iff_ne, bne_iff_ne, bne_eq_false_iff_eq, nrm, *] at hc) <;> try (exfalso; omega))
| ((with_reducible apply opsF.und); case hg => rfl)
| ((with_reducible first | apply retF.r | apply retF.nn); case hv => exact tRS)
| ((refine Call.use (hlp _ _) ?_))
| ((refine Call.use (hon _) ?_))
| ((refine (hlo (by repeat' (first | exact Ext.refl _ | (refine Ext.set ?_ (by first | exact Nat.le_refl _ | (simp only [alloc_n, set_n]; omega) | (simp only [alloc_n, set_n, drop_n]; omega)) _) | (refine Ext.trans ?_ (Ext.alloc _ _)) | (refine Ext.drop ?_ (by first | exact Nat.le_refl _ | (simp only [alloc_n, set_n, drop_n]; omega)))))).mono fun v h5 hp => ?_); obtain ⟨ts5, G5, T5, F5⟩ := hp))
              all_goals exact ⟨tw1, ts5, by rw [hFo]; exact ⟨⟨_, _, _, G5.as rfl rfl rfl rfl rfl rfl, fun e => by have e2 : s2.lost.over = false := e; rw [lost_over] at e2; cases e2⟩⟩, T5.swap, (GF.trans ((Fr.ext (by repeat' (first | exact Ext.refl _ | (refine Ext.set ?_ (by first | exact Nat.le_refl _ | (simp only [alloc_n, set_n]; omega) | (simp only [alloc_n, set_n, drop_n]; omega)) _) | (refine Ext.trans ?_ (Ext.alloc _ _)) | (refine Ext.drop ?_ (by first | exact Nat.le_refl _ | (simp only [alloc_n, set_n, drop_n]; omega)))))).set (.inl (by simp [RK.ids])) _)).trans F5⟩
            | some p =>
              obtain ⟨n, mo, tx⟩ := p
              rw [hO] at hon K2
              dsimp only at K2
              have hrng := oneS_rng hO
              by_cases hA1 : s2.nls ≠ 0 ∧ s2.code ≠ n
              · rw [if_pos hA1, lost_cn] at K2
                have hFo := K2.overF (lost_over s2)
                obtain ⟨W, hFo⟩ := hFo
                have hc0 : ¬ s1.code = 0 := by rw [← q6]; exact fun e => hA1.1 (hnl.2 e)
                have hcn : ¬ s1.code = n := by rw [← q6]; exact hA1.2
                have hlo := fun {h2 : AH} (e : Ext hh h2) => rclost_call (w0 := w0) y s2 body tt tb tw1 ts1 r s1.code k1 (tw1 :: R) _ (hA s1.code e) ((GT.ext e).swap.set) q2
                clear K2 hnl hO KK hA1 q5 q6
                repeat' (first
| ((with_reducible apply opsF.op rfl); (case hs => exact is_iaL tEV tEV (by omega) (by first | exact hg0 | (rw [hti]; exact hg1))))
| ((with_reducible apply opsF.op rfl); (case hs => exact is_slDrop (i + 2) tEV tEV (by omega) (by rw [bl]; omega) e2))
| ((with_reducible apply opsF.op rfl); (case hs => exact is_slTake i tEV tEV (by omega) (by rw [bl]; omega) e1))
| ((with_reducible apply opsF.op rfl); case hs => first | exact tHT | exact tHS)
| (with_reducible first | apply opsF.nil | apply seqF.nn | apply vcF.seq | apply vcF.region | apply vcF.skip | apply vcF.block | apply vcF.exit | apply vcF.ret | apply vcF.loop | apply seqF.e | apply seqF.r | apply blkF.nn | apply blkF.e | apply blkF.r | apply blkF.o rfl)
| ((with_reducible apply opsF.call); case hx => exact tAG)
| ((with_reducible apply opsF.want); (case hg => exact tEV); case hb => exact tNB)
| ((with_reducible apply opsF.skip); (case hg => exact tEV); case hb => exact tNB)
| (first | ((with_reducible apply opsF.case); case hg => exact tEV) | ((with_reducible apply vcF.cond); case hx => exact tEV)) <;> ((intro hc; try simp only [Int.reduceLT, Int.reduceLE, Int.reduceEq, Int.reduceNe, Int.cast_ofNat_Int, Int.reduceNeg, reduceCtorEq, ne_eq, ge_iff_le, gt_iff_lt, beq_iff_eq, beq_eq_false_iff_ne, bne_iff_ne, bne_eq_false_iff_eq, nrm, *] at hc) <;> try (exfalso; omega))
| ((with_reducible apply opsF.und); case hg => rfl)
| ((with_reducible first | apply retF.r | apply retF.nn); case hv => exact tRS)
| ((refine Call.use (hlp _ _) ?_))
| ((refine Call.use (hon _) ?_))
| ((refine (hlo (by repeat' (first | exact Ext.refl _ | (refine Ext.set ?_ (by first | exact Nat.le_refl _ | (simp only [alloc_n, set_n]; omega) | (simp only [alloc_n, set_n, drop_n]; omega)) _) | (refine Ext.trans ?_ (Ext.alloc _ _)) | (refine Ext.drop ?_ (by first | exact Nat.le_refl _ | (simp only [alloc_n, set_n, drop_n]; omega)))))).mono fun v h5 hp => ?_); obtain ⟨ts5, G5, T5, F5⟩ := hp))
                all_goals exact ⟨tw1, ts5, by rw [hFo]; exact ⟨⟨_, _, _, G5.as rfl rfl rfl rfl rfl rfl, fun e => by have e2 : s2.lost.over = false := e; rw [lost_over] at e2; cases e2⟩⟩, T5.swap, (GF.trans ((Fr.ext (by repeat' (first | exact Ext.refl _ | (refine Ext.set ?_ (by first | exact Nat.le_refl _ | (simp only [alloc_n, set_n]; omega) | (simp only [alloc_n, set_n, drop_n]; omega)) _) | (refine Ext.trans ?_ (Ext.alloc _ _)) | (refine Ext.drop ?_ (by first | exact Nat.le_refl _ | (simp only [alloc_n, set_n, drop_n]; omega)))))).set (.inl (by simp [RK.ids])) _)).trans F5⟩
              · rw [if_neg hA1] at K2
                have hcd : s1.code = 0 ∨ s1.code = n := by
                  rw [← q6]
                  by_cases hz0 : s2.code = 0
                  · exact .inl hz0
                  · right
                    by_cases hz1 : s2.code = n
                    · exact hz1
                    · exact absurd ⟨fun e => hz0 (hnl.1 e), hz1⟩ hA1
                have q6' := q6
                clear hA1 hO q6
                cases mo with
                | true =>
                  rw [if_pos rfl] at K2
                  have RK2 : RcK ({ s2 with code := n, nls := s2.nls + 1 } : CS) body r n k1 := ⟨q7.symm, rfl, q8.symm, ⟨fun e => by simp at e, fun e => by simp at e; omega⟩, hbd, q9⟩
                  have hR := fun {h2 : AH} (e : Ext hh h2) => (hA n e).as (s' := ({ s2 with code := n, nls := s2.nls + 1 } : CS)) rfl rfl rfl rfl rfl rfl
                  rcases hcd with hcd | hcd
                  all_goals
                    clear hnl KK q6' hA
                    rw [hcd] at gob
                    repeat' (first
| ((with_reducible apply opsF.op rfl); (case hs => exact is_iaL tEV tEV (by omega) (by first | exact hg0 | (rw [hti]; exact hg1))))
| ((with_reducible apply opsF.op rfl); (case hs => exact is_slDrop (i + 2) tEV tEV (by omega) (by rw [bl]; omega) e2))
| ((with_reducible apply opsF.op rfl); (case hs => exact is_slTake i tEV tEV (by omega) (by rw [bl]; omega) e1))
| ((with_reducible apply opsF.op rfl); case hs => first | exact tHT | exact tHS)
| (with_reducible first | apply opsF.nil | apply seqF.nn | apply vcF.seq | apply vcF.region | apply vcF.skip | apply vcF.block | apply vcF.exit | apply vcF.ret | apply vcF.loop | apply seqF.e | apply seqF.r | apply blkF.nn | apply blkF.e | apply blkF.r | apply blkF.o rfl)
| ((with_reducible apply opsF.call); case hx => exact tAG)
| ((with_reducible apply opsF.want); (case hg => exact tEV); case hb => exact tNB)
| ((with_reducible apply opsF.skip); (case hg => exact tEV); case hb => exact tNB)
| (first | ((with_reducible apply opsF.case); case hg => exact tEV) | ((with_reducible apply vcF.cond); case hx => exact tEV)) <;> ((intro hc; try simp only [Int.reduceLT, Int.reduceLE, Int.reduceEq, Int.reduceNe, Int.cast_ofNat_Int, Int.reduceNeg, reduceCtorEq, ne_eq, ge_iff_le, gt_iff_lt, beq_iff_eq, beq_eq_false_iff_ne, bne_iff_ne, bne_eq_false_iff_eq, nrm, *] at hc) <;> try (exfalso; omega))
| ((with_reducible apply opsF.und); case hg => rfl)
| ((with_reducible first | apply retF.r | apply retF.nn); case hv => exact tRS)
| ((refine Call.use (hlp _ _) ?_))
| ((refine Call.use (hon _) ?_)))
                    all_goals refine ⟨(m2, 0), by dsimp only; omega, _, tw1, ts1, _, _, k1, K2, ⟨?_, (GT.ext (by repeat' (first | exact Ext.refl _ | (refine Ext.set ?_ (by first | exact Nat.le_refl _ | (simp only [alloc_n, set_n]; omega) | (simp only [alloc_n, set_n, drop_n]; omega)) _) | (refine Ext.trans ?_ (Ext.alloc _ _)) | (refine Ext.drop ?_ (by first | exact Nat.le_refl _ | (simp only [alloc_n, set_n, drop_n]; omega)))))).set.set, (GF.trans ((Fr.ext (by repeat' (first | exact Ext.refl _ | (refine Ext.set ?_ (by first | exact Nat.le_refl _ | (simp only [alloc_n, set_n]; omega) | (simp only [alloc_n, set_n, drop_n]; omega)) _) | (refine Ext.trans ?_ (Ext.alloc _ _)) | (refine Ext.drop ?_ (by first | exact Nat.le_refl _ | (simp only [alloc_n, set_n, drop_n]; omega)))))).set (.inl (by simp [RK.ids])) _)).set (.inl (by simp [RK.ids])) _⟩, fun _ => ⟨RK2, cutAt_zero _⟩, g0, rfl, Nat.zero_le _⟩
                    all_goals rw [set_set]
                    all_goals exact hR (by repeat' (first | exact Ext.refl _ | (refine Ext.set ?_ (by first | exact Nat.le_refl _ | (simp only [alloc_n, set_n]; omega) | (simp only [alloc_n, set_n, drop_n]; omega)) _) | (refine Ext.trans ?_ (Ext.alloc _ _)) | (refine Ext.drop ?_ (by first | exact Nat.le_refl _ | (simp only [alloc_n, set_n, drop_n]; omega)))))
                | false =>
                  rw [if_neg (by simp)] at K2
                  obtain ⟨s3, hs3⟩ : ∃ s3 : CS, s3 = { s2 with code := 0, nls := 0 } := ⟨_, rfl⟩
                  rw [← hs3] at K2
                  have q3' : s3.over = false ∧ s3.Sz ∧ s3.Ok2 ∧ s3.out.length ≤ 999999999 ∧ s3.wait = r ∧ rstep s3 = k1 ∧ s3.body = stuffGo body ∧ s3.code = 0 ∧ s3.nls = 0 := by
                    rw [hs3]
                    exact ⟨q1, ⟨q2.host, q2.sndr, q2.tgs, q2.tgl⟩, ⟨q3.st, q3.p2, q3.p3, q3.tg⟩, by show s2.out.length ≤ _; rw [q4]; omega, q7, q8, q9, rfl, rfl⟩
                  obtain ⟨u1, u2, u3, u4, u5, u6, u7, u8, u9⟩ := q3'
                  have hR := fun {h2 : AH} (e : Ext hh h2) => (hA 0 e).as (s' := s3) (by rw [hs3]) (by rw [hs3]) (by rw [hs3]) (by rw [hs3]) (by rw [hs3]) (by rw [hs3])
                  have hta := fun {h2 : AH} (H : RcO h2 y s3 body tt tb tw1 ts1 r 0 k1) T => rctake_call (w0 := w0) y s3 body tt tb tw1 ts1 r 0 (tw1 :: R) n h2 (u6.symm ▸ H) T u2 hbd u7 u4 u3
                  have kt := take_kept s3 n u3
                  have kb := take_cb s3 n
                  have hRK : ∀ k', (s3.take n).over = false → k' = rstep (s3.take n) → RcK (s3.take n) body r 0 k' := fun k' ho hk => ⟨by rw [kt.wait, u5], by rw [kb.1, u8], hk, by rw [kt.nls, kb.1, u8, u9]; simp, hbd, by rw [kb.2, u7]⟩
                  rcases hcd with hcd | hcd
                  all_goals
                    clear hnl KK q6' hA kt kb
                    rw [hcd] at gob
                    repeat' (first
| ((with_reducible apply opsF.op rfl); (case hs => exact is_iaL tEV tEV (by omega) (by first | exact hg0 | (rw [hti]; exact hg1))))
| ((with_reducible apply opsF.op rfl); (case hs => exact is_slDrop (i + 2) tEV tEV (by omega) (by rw [bl]; omega) e2))
| ((with_reducible apply opsF.op rfl); (case hs => exact is_slTake i tEV tEV (by omega) (by rw [bl]; omega) e1))
| ((with_reducible apply opsF.op rfl); case hs => first | exact tHT | exact tHS)
| (with_reducible first | apply opsF.nil | apply seqF.nn | apply vcF.seq | apply vcF.region | apply vcF.skip | apply vcF.block | apply vcF.exit | apply vcF.ret | apply vcF.loop | apply seqF.e | apply seqF.r | apply blkF.nn | apply blkF.e | apply blkF.r | apply blkF.o rfl)
| ((with_reducible apply opsF.call); case hx => exact tAG)
| ((with_reducible apply opsF.want); (case hg => exact tEV); case hb => exact tNB)
| ((with_reducible apply opsF.skip); (case hg => exact tEV); case hb => exact tNB)
| (first | ((with_reducible apply opsF.case); case hg => exact tEV) | ((with_reducible apply vcF.cond); case hx => exact tEV)) <;> ((intro hc; try simp only [Int.reduceLT, Int.reduceLE, Int.reduceEq, Int.reduceNe, Int.cast_ofNat_Int, Int.reduceNeg, reduceCtorEq, ne_eq, ge_iff_le, gt_iff_lt, beq_iff_eq, beq_eq_false_iff_ne, bne_iff_ne, bne_eq_false_iff_eq, nrm, *] at hc) <;> try (exfalso; omega))
| ((with_reducible apply opsF.und); case hg => rfl)
| ((with_reducible first | apply retF.r | apply retF.nn); case hv => exact tRS)
| ((refine Call.use (hlp _ _) ?_))
| ((refine Call.use (hon _) ?_))
| ((refine (hta (by (try rw [set_set]); (try rw [set_set]); exact hR (by repeat' (first | exact Ext.refl _ | (refine Ext.set ?_ (by first | exact Nat.le_refl _ | (simp only [alloc_n, set_n]; omega) | (simp only [alloc_n, set_n, drop_n]; omega)) _) | (refine Ext.trans ?_ (Ext.alloc _ _)) | (refine Ext.drop ?_ (by first | exact Nat.le_refl _ | (simp only [alloc_n, set_n, drop_n]; omega)))))) ((GT.ext (by repeat' (first | exact Ext.refl _ | (refine Ext.set ?_ (by first | exact Nat.le_refl _ | (simp only [alloc_n, set_n]; omega) | (simp only [alloc_n, set_n, drop_n]; omega)) _) | (refine Ext.trans ?_ (Ext.alloc _ _)) | (refine Ext.drop ?_ (by first | exact Nat.le_refl _ | (simp only [alloc_n, set_n, drop_n]; omega)))))).swap.set.set.set)).mono fun v h5 hp => ?_); obtain ⟨ts5, k5, G5, T5, U5⟩ := hp.o; have F5 := hp.f))
                    all_goals exact ⟨(m2, 0), by dsimp only; omega, _, tw1, ts5, _, _, k5, K2, ⟨G5, T5.swap, (((GF.trans ((Fr.ext (by repeat' (first | exact Ext.refl _ | (refine Ext.set ?_ (by first | exact Nat.le_refl _ | (simp only [alloc_n, set_n]; omega) | (simp only [alloc_n, set_n, drop_n]; omega)) _) | (refine Ext.trans ?_ (Ext.alloc _ _)) | (refine Ext.drop ?_ (by first | exact Nat.le_refl _ | (simp only [alloc_n, set_n, drop_n]; omega)))))).set (.inl (by simp [RK.ids])) _)).set (.inl (by simp [RK.ids])) _).set (.inl (by simp [RK.ids])) _).trans F5⟩, fun ho => ⟨hRK k5 ho (U5 ho), cutAt_zero _⟩, g0, rfl, Nat.zero_le _⟩
          · have hn : ¬ ((x1.toNat : Nat) : Int) = 10 := fun e => h10 (u8_is (y := 10) e)
            have hnx : cutAt s1.wait (i + 1) = cutL s1.wait := by rw [← cutAt_miss hx0 hx1 (fun h => h10 h.2)]; exact hcut
            subst h13
            have h13 : (((13 : UInt8).toNat : Nat) : Int) = 13 := rfl
            have hg1 : (brows s1.wait)[i + 1]? = some [.v (.int .u8 (x1.toNat : Int))] := by rw [bg, hx1]; rfl
            clear hcut hK
            have K' := K
            clear K b2
            repeat' (first
| ((with_reducible apply opsF.op rfl); (case hs => exact is_iaL tEV tEV (by omega) (by rw [hti]; exact hg1)))
| ((with_reducible apply opsF.op rfl); case hs => first | exact tHT | exact tHS)
| (with_reducible first | apply opsF.nil | apply seqF.nn | apply vcF.seq | apply vcF.region | apply vcF.skip | apply vcF.block | apply vcF.exit | apply vcF.ret | apply vcF.loop | apply seqF.e | apply seqF.r | apply blkF.nn | apply blkF.e | apply blkF.r | apply blkF.o rfl)
| ((with_reducible apply opsF.call); case hx => exact tAG)
| ((with_reducible apply opsF.want); (case hg => exact tEV); case hb => exact tNB)
| ((with_reducible apply opsF.skip); (case hg => exact tEV); case hb => exact tNB)
| (first | ((with_reducible apply opsF.case); case hg => exact tEV) | ((with_reducible apply vcF.cond); case hx => exact tEV)) <;> ((intro hc; try simp only [Int.reduceLT, Int.reduceLE, Int.reduceEq, Int.reduceNe, Int.cast_ofNat_Int, Int.reduceNeg, reduceCtorEq, ne_eq, ge_iff_le, gt_iff_lt, beq_iff_eq, beq_eq_false_iff_ne, bne_iff_ne, bne_eq_false_iff_eq, nrm, *] at hc) <;> try (exfalso; omega))
| ((with_reducible apply opsF.und); case hg => rfl)
| ((with_reducible first | apply retF.r | apply retF.nn); case hv => exact tRS))
            all_goals exact ⟨(m, i + 1), by dsimp only; omega, s1, tw1, ts1, _, _, k1, K', ⟨G, GT, GF⟩, fun _ => ⟨KK, hnx⟩, g0, rfl, by dsimp only; omega⟩
        · have hn : ¬ ((x0.toNat : Nat) : Int) = 13 := fun e => h13 (u8_is (y := 13) e)
          have hnx : cutAt s1.wait (i + 1) = cutL s1.wait := by rw [← cutAt_miss hx0 hx1 (fun h => h13 h.1)]; exact hcut
          clear hcut hK
          have K' := K
          clear K b2
          repeat' (first
| ((with_reducible apply opsF.op rfl); case hs => first | exact tHT | exact tHS)
| (with_reducible first | apply opsF.nil | apply seqF.nn | apply vcF.seq | apply vcF.region | apply vcF.skip | apply vcF.block | apply vcF.exit | apply vcF.ret | apply vcF.loop | apply seqF.e | apply seqF.r | apply blkF.nn | apply blkF.e | apply blkF.r | apply blkF.o rfl)
| ((with_reducible apply opsF.call); case hx => exact tAG)
| ((with_reducible apply opsF.want); (case hg => exact tEV); case hb => exact tNB)
| ((with_reducible apply opsF.skip); (case hg => exact tEV); case hb => exact tNB)
| (first | ((with_reducible apply opsF.case); case hg => exact tEV) | ((with_reducible apply vcF.cond); case hx => exact tEV)) <;> ((intro hc; try simp only [Int.reduceLT, Int.reduceLE, Int.reduceEq, Int.reduceNe, Int.cast_ofNat_Int, Int.reduceNeg, reduceCtorEq, ne_eq, ge_iff_le, gt_iff_lt, beq_iff_eq, beq_eq_false_iff_ne, bne_iff_ne, bne_eq_false_iff_eq, nrm, *] at hc) <;> try (exfalso; omega))
| ((with_reducible apply opsF.und); case hg => rfl)
| ((with_reducible first | apply retF.r | apply retF.nn); case hv => exact tRS))
          all_goals exact ⟨(m, i + 1), by dsimp only; omega, s1, tw1, ts1, _, _, k1, K', ⟨G, GT, GF⟩, fun _ => ⟨KK, hnx⟩, g0, rfl, by dsimp only; omega⟩
      · have hno : cutL s1.wait = none := by rw [← hcut]; exact cutAt_end (by omega)
        have hfin : F = s1 := by
          rw [b2, crlfS_cut, hno]
          rfl
        have hres : ∃ tw' ts', RcL hh y F body tt tb tw' ts' ∧ Toks hh (tw' :: ts' :: R) ∧ Fr y.ids h hh := by
          rw [hfin]
          exact ⟨tw1, ts1, ⟨⟨_, _, k1, G, fun _ => KK⟩⟩, GT, GF⟩
        clear K hK hcut b2 hfin
        repeat' (first
| ((with_reducible apply opsF.op rfl); case hs => first | exact tHT | exact tHS)
| (with_reducible first | apply opsF.nil | apply seqF.nn | apply vcF.seq | apply vcF.region | apply vcF.skip | apply vcF.block | apply vcF.exit | apply vcF.ret | apply vcF.loop | apply seqF.e | apply seqF.r | apply blkF.nn | apply blkF.e | apply blkF.r | apply blkF.o rfl)
| ((with_reducible apply opsF.call); case hx => exact tAG)
| ((with_reducible apply opsF.want); (case hg => exact tEV); case hb => exact tNB)
| ((with_reducible apply opsF.skip); (case hg => exact tEV); case hb => exact tNB)
| (first | ((with_reducible apply opsF.case); case hg => exact tEV) | ((with_reducible apply vcF.cond); case hx => exact tEV)) <;> ((intro hc; try simp only [Int.reduceLT, Int.reduceLE, Int.reduceEq, Int.reduceNe, Int.cast_ofNat_Int, Int.reduceNeg, reduceCtorEq, ne_eq, ge_iff_le, gt_iff_lt, beq_iff_eq, beq_eq_false_iff_ne, bne_iff_ne, bne_eq_false_iff_eq, nrm, *] at hc) <;> try (exfalso; omega))
| ((with_reducible apply opsF.und); case hg => rfl)
| ((with_reducible first | apply retF.r | apply retF.nn); case hv => exact tRS))
        all_goals exact hres
end Go.Abs.F
