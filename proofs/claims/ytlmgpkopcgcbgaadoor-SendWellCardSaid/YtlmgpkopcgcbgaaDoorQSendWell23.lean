/- What the proof needs, part 23: Layer 7: SendStops; Layer 7: SendWell. -/
import Derived.Test.YtlmgpkopcgcbgaaDoorQSendWell21
import Derived.Test.YtlmgpkopcgcbgaaDoorQSendWell22
/- Layer 7: SendStops. -/
namespace Go.Abs.F
open Go Go.Abs
set_option maxRecDepth 10000
set_option maxHeartbeats 20000000
set_option linter.unusedSimpArgs false
set_option linter.unusedVariables false
variable {w0 : World}
theorem nrow_at (l : List Int) (i : Nat) : (nrow l)[i]? = (l[i]?).map fun n => [.v (.int .i64 n)] := by simp [nrow]
/-- A session in the heap, other lists beside it. -/
structure PX (x : CK) (s : CS) (R : List Tok) (hh : AH) : Prop where
  k : ∃ tt to tl tr, ClO hh x s tt to tl tr ∧ Toks hh (to :: tl :: tr :: R)
theorem PX.ext {x : CK} {s : CS} {R : List Tok} {h h' : AH} (H : PX x s R h) (e : Ext h h') : PX x s R h' := by
  obtain ⟨tt, to, tl, tr, C, T⟩ := H.k
  exact ⟨⟨tt, to, tl, tr, C.ext e, T.ext e⟩⟩
theorem px_new (host sndr : L8) (tg body : List L8) (tt tb : Tok) (R : List Tok) (h : AH) (hT : Toks h R) (hz : tg.length ≤ 1000000) (hbl : body.length ≤ 140737488351232) (hbs : ∀ s ∈ body, s.length ≤ 140737488351232) :
    Call P w0 send_New [.v (.string (bs host)), .v (.string (bs sndr)), .list 1 (srows tg) tt, .list 1 (srows body) tb] h (fun v h' => ∃ x : CK, v = .ptr x.id 0 ∧ PX x (newC host sndr tg body) R h' ∧ Fr [] h h') := by
  refine (cnew_call host sndr tg body tt tb R h hT hz hbl hbs).mono fun v h' hp => ?_
  obtain ⟨x, rfl, N⟩ := hp
  exact ⟨x, rfl, ⟨N.o⟩, N.e⟩
theorem px_feed (hM : MaxLen w0) (x : CK) (s : CS) (R : List Tok) (n : Nat) (b : L8) (tb : Tok) (h : AH) (H : PX x s R h) (hi : s.In n) (hn : n + b.length ≤ 900000000) :
    Call P w0 send_Client_Feed [.ptr x.id 0, .list 1 (brows b) tb] h (fun v h' => PX x (s.feed b) R h' ∧ Fr x.ids h h') := by
  obtain ⟨tt, to, tl, tr, C, T⟩ := H.k
  refine (cfeed_call hM x s tt to tl tr R b tb h C T hi.sz (fun e => (hi.ok e).1) (fun e => by have := (hi.ok e).2.2; omega) (fun e => by have := (hi.ok e).2.1; omega)).mono fun v h' hp => ?_
  obtain ⟨to1, tl1, tr1, C1, T1, F1⟩ := hp
  exact ⟨⟨⟨tt, to1, tl1, tr1, C1, T1⟩⟩, F1⟩
theorem px_some (x : CK) (s : CS) (R : List Tok) (t : L8) (o : List L8) (h : AH) (H : PX x s R h) (ho : s.out = t :: o) : Call P w0 send_Client_Next [.ptr x.id 0] h (fun v h' => v = .tup [.v (.string (bs t)), .v (.bool true)] ∧ PX x s.pop R h' ∧ Fr x.ids h h') := by
  obtain ⟨tt, to, tl, tr, C, T⟩ := H.k
  refine (cNext_some x s tt to tl tr t o h C ho).mono fun v h' hp => ?_
  obtain ⟨rfl, C1, T1, F1⟩ := hp
  exact ⟨rfl, ⟨⟨tt, to, tl, tr, C1, T1 _ T⟩⟩, F1⟩
theorem px_none (x : CK) (s : CS) (R : List Tok) (h : AH) (H : PX x s R h) (ho : s.out = []) : Call P w0 send_Client_Next [.ptr x.id 0] h (fun v h' => v = .tup [.v (.string (bs [])), .v (.bool false)] ∧ h' = h) := by
  obtain ⟨tt, to, tl, tr, C, T⟩ := H.k
  exact cNext_none x s tt to tl tr h C ho
theorem px_over (x : CK) (s : CS) (R : List Tok) (h : AH) (H : PX x s R h) : Call P w0 send_Client_Over [.ptr x.id 0] h (fun v h' => v = .v (.bool s.over) ∧ h' = h) := by
  obtain ⟨tt, to, tl, tr, C, T⟩ := H.k
  exact cover_call x s tt to tl tr h C
theorem px_codes (x : CK) (s : CS) (R : List Tok) (h : AH) (H : PX x s R h) (hl : s.tg.length ≤ 1000000000000) : Call P w0 send_Client_Codes [.ptr x.id 0] h (fun v h' => v = .list 1 (nrow s.codes) .no ∧ h' = h) := by
  obtain ⟨tt, to, tl, tr, C, T⟩ := H.k
  exact ccodes_call x s tt to tl tr h C hl
/-- An append to a list beside it. -/
theorem PX.app {x : CK} {s : CS} {tk : Tok} {h : AH} (H : PX x s [tk] h) : ∃ t' h', appTok h tk = some (t', h') ∧ PX x s [t'] h' := by
  obtain ⟨tt, to, tl, tr, C, T⟩ := H.k
  obtain ⟨t', h', h1, h2, h3, h4, h5⟩ := (T.perm (List.perm_append_comm (l₁ := [to, tl, tr]) (l₂ := [tk]))).app
  exact ⟨t', h', h1, ⟨⟨tt, to, tl, tr, C.fr ((Fr.refl [] h).app h3 h4 h5) (by simp), h2.perm (List.perm_append_comm (l₁ := [t']) (l₂ := [to, tl, tr]))⟩⟩⟩
end Go.Abs.F
/- Layer 7: SendWell. -/
namespace Go.Abs.F
open Go Go.Abs
set_option maxRecDepth 10000
set_option maxHeartbeats 20000000
set_option linter.unusedSimpArgs false
set_option linter.unusedVariables false
variable {w0 : World}
theorem wellL_len (n k : Nat) : (wellL n k).length = n + 5 := by simp [wellL]
theorem wellL_le (n k : Nat) : ∀ b ∈ wellL n k, b.length ≤ 14 := by
  intro b hb
  simp only [wellL, List.mem_append, List.mem_cons, List.not_mem_nil, or_false, List.mem_map] at hb
  rcases hb with ((rfl | rfl | rfl) | ⟨i, _, rfl⟩) | (rfl | rfl)
  · decide
  · decide
  · decide
  · unfold rep; split <;> decide
  · decide
  · decide
theorem rcpts_len {tg : List L8} {K : Nat} (h : ∀ t ∈ tg, t.length ≤ K) : ((tg.map rcptL).flatten).length ≤ tg.length * (K + 12) := by
  induction tg with
  | nil => simp
  | cons a l ih =>
    have h1 := h a (by simp)
    have h2 := ih fun t ht => h t (by simp [ht])
    simp only [List.map_cons, List.flatten_cons, List.length_append, List.length_cons, Nat.add_mul]
    have : (rcptL a).length = a.length + 12 := by simp [rcptL, tRCPT]
    omega
theorem wantT_len (tg body : List L8) (k : Nat) (hb : bodyS body = true) (h2 : tg.length ≤ 50) (h3 : ∀ t ∈ tg, t.length ≤ 140737488351232) : (wantT tg body k).length ≤ 10000000000000000 := by
  have q1 := rcpts_len h3
  have q2 : tg.length * (140737488351232 + 12) ≤ 50 * (140737488351232 + 12) := Nat.mul_le_mul_right _ h2
  have q3 := stuff_len body
  have q4 := body_size hb
  have q5 : wantH.length = 22 := rfl
  have q6 : tQUIT.length = 4 := rfl
  have q7 : tDATA.length = 4 := rfl
  unfold wantT
  simp only [List.length_append, List.length_cons, List.length_nil]
  split
  · simp only [List.length_append, List.length_cons, List.length_nil]; omega
  · simp only [List.length_nil]; omega
theorem feed_tg' (s : CS) (b : L8) {n : Nat} (h : s.In n) : (s.feed b).tg = s.tg := by
  rcases Bool.eq_false_or_eq_true s.over with ho | ho
  · unfold CS.feed; rw [if_pos ho]
  · exact (feed_fk s b ho (h.ok ho).1).tg
theorem sendWell_main (W : World) (hM : MaxLen W) (tg body : List L8) (bad : Nat) (h1 : bad ≤ 255) (h2 : tg.length ≤ 140737488351232) (h3 : ∀ t ∈ tg, t.length ≤ 140737488351232) (h4 : body.length ≤ 140737488351232) (h5 : ∀ t ∈ body, t.length ≤ 140737488351232) :
    Call P W law07_SendWell [.list 1 (srows tg) .no, .list 1 (srows body) .no, .v (.int .u8 (bad : Nat))] AH.start fun v _ => v = .v (.bool true) := by
  have ha := fun h => answers07_call hM h
  have xl := srows_len
  have xg := srows_get
  have hgo := fun h => rgood_call (w0 := W) body .no h h4 h5
  refine Call.bodyF b_law07_SendWell rfl rfl ?_
  unfold c_law07_SendWell
  by_cases hg : 1 ≤ tg.length ∧ tg.length ≤ 50
  · cases hb : bodyS body with
    | false =>
      rw [hb] at hgo
      repeat' (first
| ((with_reducible apply opsF.op rfl); case hs => first | exact tHT | exact tHS)
| (with_reducible first | apply opsF.nil | apply seqF.nn | apply vcF.seq | apply vcF.region | apply vcF.skip | apply vcF.block | apply vcF.exit | apply vcF.ret | apply vcF.loop | apply seqF.e | apply seqF.r | apply blkF.nn | apply blkF.e | apply blkF.r | apply blkF.o rfl)
| ((with_reducible apply opsF.call); case hx => exact tAG)
| ((with_reducible apply opsF.want); (case hg => exact tEV); case hb => exact tNB)
| ((with_reducible apply opsF.skip); (case hg => exact tEV); case hb => exact tNB)
| (first | ((with_reducible apply opsF.case); case hg => exact tEV) | ((with_reducible apply vcF.cond); case hx => exact tEV)) <;> ((intro hc; try simp only [Int.reduceLT, Int.reduceLE, Int.reduceEq, Int.reduceNe, Int.cast_ofNat_Int, Int.reduceNeg, reduceCtorEq, ne_eq, ge_iff_le, gt_iff_lt, beq_iff_eq, beq_eq_false_iff_ne, bne_iff_ne, bne_eq_false_iff_eq, nrm, *] at hc) <;> try (exfalso; omega))
| ((with_reducible apply opsF.und); case hg => rfl)
| ((with_reducible first | apply retF.r | apply retF.nn); case hv => exact tRS)
| ((refine Call.use (hgo _) ?_))
| ((refine Call.use (ha _) ?_))
| fail)
      all_goals rfl
    | true =>
      rw [hb] at hgo
      obtain ⟨g1, g2⟩ := hg
      have hnew := px_new (w0 := W) [104] [] tg body .no .no [] AH.start (Toks.nil _) (by omega) h4 h5
      obtain ⟨k, hk⟩ : ∃ k : Nat, k = bad % (2 * tg.length) := ⟨_, rfl⟩
      have e10 : (bad : Int).tmod (2 * (tg.length : Int)) = (k : Nat) := by
        rw [Int.tmod_eq_emod_of_nonneg (by omega), hk]
        rw [show (2 * (tg.length : Int)) = ((2 * tg.length : Nat) : Int) by omega]
        exact (Int.natCast_emod bad (2 * tg.length)).symm
      have hkl : k < 2 * tg.length := by rw [hk]; exact Nat.mod_lt _ (by omega)
      clear hk
      repeat' (first
| ((with_reducible apply opsF.op rfl); case hs => first | exact tHT | exact tHS)
| (with_reducible first | apply opsF.nil | apply seqF.nn | apply vcF.seq | apply vcF.region | apply vcF.skip | apply vcF.block | apply vcF.exit | apply vcF.ret | apply vcF.loop | apply seqF.e | apply seqF.r | apply blkF.nn | apply blkF.e | apply blkF.r | apply blkF.o rfl)
| ((with_reducible apply opsF.call); case hx => exact tAG)
| ((with_reducible apply opsF.want); (case hg => exact tEV); case hb => exact tNB)
| ((with_reducible apply opsF.skip); (case hg => exact tEV); case hb => exact tNB)
| (first | ((with_reducible apply opsF.case); case hg => exact tEV) | ((with_reducible apply vcF.cond); case hx => exact tEV)) <;> ((intro hc; try simp only [Int.reduceLT, Int.reduceLE, Int.reduceEq, Int.reduceNe, Int.cast_ofNat_Int, Int.reduceNeg, reduceCtorEq, ne_eq, ge_iff_le, gt_iff_lt, beq_iff_eq, beq_eq_false_iff_ne, bne_iff_ne, bne_eq_false_iff_eq, nrm, *] at hc) <;> try (exfalso; omega))
| ((with_reducible apply opsF.und); case hg => rfl)
| ((with_reducible first | apply retF.r | apply retF.nn); case hv => exact tRS)
| ((refine Call.use (hgo _) ?_))
| ((refine hnew.mono fun v h2' hp => ?_); obtain ⟨x, rfl, PX0, F0⟩ := hp)
| fail)
      have PX1 : PX x (newC [104] [] tg body) [.full] h2' := by
        obtain ⟨tt, to, tl, tr, C, T1⟩ := PX0.k
        exact ⟨⟨tt, to, tl, tr, C, T1.full.perm (List.perm_append_comm (l₁ := [Tok.full]) (l₂ := [to, tl, tr]))⟩⟩
      have hin0 := newC_in [104] [] tg body (by simp) (by simp) h3 h2
      have hwr := well_runs tg body k hb g1 g2
      have hout0 := newC_out' [104] [] tg body
      have htg0 : (newC [104] [] tg body).tg = tg := by rw [newC_eq]; split <;> rfl
      have hTl := wantT_len tg body k hb g2 h3
      generalize newC [104] [] tg body = s0 at *
      clear hnew hgo PX0 F0 e10
      refine LpF.ind rfl (fun i : Nat => tg.length - i) (fun i σ hh => ∃ tk, PX x s0 [tk] hh ∧ σ 0 = .list 1 (srows tg) .no ∧ σ 1 = .list 1 (srows body) .no ∧ σ 7 = .ptr x.id 0 ∧ σ 8 = .v (.string (bs [])) ∧ σ 9 = .list 1 (srows ([r220, r2a, r250k] ++ (List.range i).map (rep k))) tk ∧ σ 10 = .v (.int .i64 (k : Nat)) ∧ σ 11 = .v (.int .i64 (i : Nat)) ∧ i ≤ tg.length) ?_ (i := 0) ⟨_, PX1, rfl, rfl, rfl, rfl, rfl, rfl, rfl, Nat.zero_le _⟩
      clear PX1
      rintro i σ hh ⟨tk, PXi, q0, q1, q7, q8, q9, q10, q11, hi⟩
      obtain ⟨t', h', hap, PX'⟩ := PXi.app
      have hrl : ([r220, r2a, r250k] ++ (List.range i).map (rep k)).length = 3 + i := by simp; omega
      rcases Nat.lt_or_ge i tg.length with hlt | hge
      · have e : ∀ b, rep k i = b → srows ([r220, r2a, r250k] ++ (List.range (i + 1)).map (rep k)) = srows ([r220, r2a, r250k] ++ (List.range i).map (rep k)) ++ [[.v (.string (bs b))]] := fun b hb => by
          rw [List.range_succ, List.map_append, ← List.append_assoc, srows_app]
          show _ ++ [[AV.v (.string (bs (rep k i)))]] = _
          rw [hb]
        by_cases hik : i = k
        · have e2 := e [53, 53, 48, 32, 110, 111, 13, 10] (by unfold rep; rw [if_pos hik]; rfl)
          generalize [r220, r2a, r250k] ++ (List.range i).map (rep k) = Lj at *
          clear hwr
          repeat' (first
| ((with_reducible apply opsF.op rfl); case hs => first | exact tHT | exact tHS)
| (with_reducible first | apply opsF.nil | apply seqF.nn | apply vcF.seq | apply vcF.region | apply vcF.skip | apply vcF.block | apply vcF.exit | apply vcF.ret | apply vcF.loop | apply seqF.e | apply seqF.r | apply blkF.nn | apply blkF.e | apply blkF.r | apply blkF.o rfl)
| ((with_reducible apply opsF.call); case hx => exact tAG)
| ((with_reducible apply opsF.want); (case hg => exact tEV); case hb => exact tNB)
| ((with_reducible apply opsF.skip); (case hg => exact tEV); case hb => exact tNB)
| (first | ((with_reducible apply opsF.case); case hg => exact tEV) | ((with_reducible apply vcF.cond); case hx => exact tEV)) <;> ((intro hc; try simp only [Int.reduceLT, Int.reduceLE, Int.reduceEq, Int.reduceNe, Int.cast_ofNat_Int, Int.reduceNeg, reduceCtorEq, ne_eq, ge_iff_le, gt_iff_lt, beq_iff_eq, beq_eq_false_iff_ne, bne_iff_ne, bne_eq_false_iff_eq, nrm, *] at hc) <;> try (exfalso; omega))
| ((with_reducible apply opsF.und); case hg => rfl)
| ((with_reducible first | apply retF.r | apply retF.nn); case hv => exact tRS))
          all_goals exact ⟨i + 1, by omega, t', PX', q0, q1, q7, q8, by rw [e2]; rfl, q10, by first | rfl | (rw [hik]; rfl), by omega⟩
        · have e2 := e [50, 53, 48, 32, 111, 107, 13, 10] (by unfold rep; rw [if_neg hik]; rfl)
          generalize [r220, r2a, r250k] ++ (List.range i).map (rep k) = Lj at *
          clear hwr
          repeat' (first
| ((with_reducible apply opsF.op rfl); case hs => first | exact tHT | exact tHS)
| (with_reducible first | apply opsF.nil | apply seqF.nn | apply vcF.seq | apply vcF.region | apply vcF.skip | apply vcF.block | apply vcF.exit | apply vcF.ret | apply vcF.loop | apply seqF.e | apply seqF.r | apply blkF.nn | apply blkF.e | apply blkF.r | apply blkF.o rfl)
| ((with_reducible apply opsF.call); case hx => exact tAG)
| ((with_reducible apply opsF.want); (case hg => exact tEV); case hb => exact tNB)
| ((with_reducible apply opsF.skip); (case hg => exact tEV); case hb => exact tNB)
| (first | ((with_reducible apply opsF.case); case hg => exact tEV) | ((with_reducible apply vcF.cond); case hx => exact tEV)) <;> ((intro hc; try simp only [Int.reduceLT, Int.reduceLE, Int.reduceEq, Int.reduceNe, Int.cast_ofNat_Int, Int.reduceNeg, reduceCtorEq, ne_eq, ge_iff_le, gt_iff_lt, beq_iff_eq, beq_eq_false_iff_ne, bne_iff_ne, bne_eq_false_iff_eq, nrm, *] at hc) <;> try (exfalso; omega))
| ((with_reducible apply opsF.und); case hg => rfl)
| ((with_reducible first | apply retF.r | apply retF.nn); case hv => exact tRS))
          all_goals exact ⟨i + 1, by omega, t', PX', q0, q1, q7, q8, by rw [e2]; rfl, q10, by first | rfl | (rw [hik]; rfl), by omega⟩
      · obtain rfl : i = tg.length := by omega
        have e : srows (wellL tg.length k) = srows ([r220, r2a, r250k] ++ (List.range tg.length).map (rep k)) ++ [[.v (.string (bs [51, 53, 52, 32, 103, 111, 13, 10]))], [.v (.string (bs [50, 53, 48, 32, 111, 107, 13, 10]))]] := by
          unfold wellL
          rw [srows_app]; rfl
        have hLl := wellL_len tg.length k
        have hLb := wellL_le tg.length k
        have PX2 : PX x s0 [] h' := by
          obtain ⟨tt, to, tl, tr, C, T1⟩ := PX'.k
          exact ⟨⟨tt, to, tl, tr, C, (T1.perm (List.perm_append_comm (l₁ := [to, tl, tr]) (l₂ := [t']))).tail⟩⟩
        have hT2 : (runs (s0, []) (wellL tg.length k)).2.length ≤ 10000000000000000 := by rw [hwr.2.2]; exact hTl
        generalize [r220, r2a, r250k] ++ (List.range tg.length).map (rep k) = Lj at *
        generalize wellL tg.length k = L at *
        generalize hWT : wantT tg body k = WT at *
        have hs0 : ∀ j, (runs (s0, []) (L.take j)).1.tg = tg ∧ (runs (s0, []) (L.take j)).1.out = [] ∧ (runs (s0, []) (L.take j)).1.In (j * 14) := by
          intro j
          induction j with
          | zero => exact ⟨htg0, hout0, hin0.mono (Nat.zero_le _)⟩
          | succ j ih =>
            cases hj : L[j]? with
            | none =>
              have e9 : L.take (j + 1) = L.take j := by rw [List.take_add_one, hj]; simp
              rw [e9]
              exact ⟨ih.1, ih.2.1, ih.2.2.mono (by omega)⟩
            | some b =>
              have hb14 := hLb b (List.mem_of_getElem? hj)
              rw [runs_take hj]
              exact ⟨(feed_tg' _ b ih.2.2).trans ih.1, rfl, ((ih.2.2.feed b).mono (by omega)).outs [] (Nat.zero_le _)⟩
        clear hTl
        obtain ⟨w1, w2, w3⟩ := hwr
        repeat' (first
| ((with_reducible apply opsF.op rfl); case hs => first | exact tHT | exact tHS)
| (with_reducible first | apply opsF.nil | apply seqF.nn | apply vcF.seq | apply vcF.region | apply vcF.skip | apply vcF.block | apply vcF.exit | apply vcF.ret | apply vcF.loop | apply seqF.e | apply seqF.r | apply blkF.nn | apply blkF.e | apply blkF.r | apply blkF.o rfl)
| ((with_reducible apply opsF.call); case hx => exact tAG)
| ((with_reducible apply opsF.want); (case hg => exact tEV); case hb => exact tNB)
| ((with_reducible apply opsF.skip); (case hg => exact tEV); case hb => exact tNB)
| (first | ((with_reducible apply opsF.case); case hg => exact tEV) | ((with_reducible apply vcF.cond); case hx => exact tEV)) <;> ((intro hc; try simp only [Int.reduceLT, Int.reduceLE, Int.reduceEq, Int.reduceNe, Int.cast_ofNat_Int, Int.reduceNeg, reduceCtorEq, ne_eq, ge_iff_le, gt_iff_lt, beq_iff_eq, beq_eq_false_iff_ne, bne_iff_ne, bne_eq_false_iff_eq, nrm, *] at hc) <;> try (exfalso; omega))
| ((with_reducible apply opsF.und); case hg => rfl)
| ((with_reducible first | apply retF.r | apply retF.nn); case hv => exact tRS))
        refine LpF.ind rfl (fun j : Nat => L.length - j) (fun j σ hh => PX x (runs (s0, []) (L.take j)).1 [] hh ∧ σ 0 = .list 1 (srows tg) .no ∧ σ 1 = .list 1 (srows body) .no ∧ σ 7 = .ptr x.id 0 ∧ σ 8 = .v (.string (bs (runs (s0, []) (L.take j)).2)) ∧ σ 9 = .list 1 (srows L) t' ∧ σ 10 = .v (.int .i64 (k : Nat)) ∧ σ 12 = .v (.int .i64 (j : Nat)) ∧ j ≤ L.length) ?_ (i := 0) ⟨PX2, q0, q1, q7, q8, by rw [e]; rfl, q10, rfl, Nat.zero_le _⟩
        clear q0 q1 q7 q8 q9 q10 q11 PX2 PX' hap PXi e
        rintro j σ hh ⟨PXj, q0, q1, q7, q8, q9, q10, q12, hj⟩
        rcases Nat.lt_or_ge j L.length with hlt | hgeL
        · obtain ⟨b, hb⟩ : ∃ b, L[j]? = some b := ⟨_, List.getElem?_eq_getElem hlt⟩
          have hb14 := hLb b (List.mem_of_getElem? hb)
          have hgb : (srows L)[j]? = some [.v (.string (bs b))] := by rw [xg, hb]; rfl
          have hbd := runs_bound (s0, []) L (j + 1)
          have hrt := runs_take (p := (s0, [])) hb
          obtain ⟨z1, z2, z3⟩ := hs0 j
          have hfd := fun tb => px_feed hM x _ [] (j * 14) b tb hh PXj z3 (by omega)
          have hin1 := z3.feed b
          rw [hrt] at hbd
          generalize hrj : runs (s0, []) (L.take j) = rj at *
          obtain ⟨S, t⟩ := rj
          unfold runS at hbd hrt
          dsimp only at hbd hrt hfd hin1 q8 z1 z2 z3
          generalize hS2 : S.feed b = S2 at *
          have hol := hin1.out
          rw [List.length_append] at hbd
          clear PXj hrj hS2 z1 z2 z3 hs0
          repeat' (first
| ((with_reducible apply opsF.op rfl); case hs => first | exact tHT | exact tHS)
| (with_reducible first | apply opsF.nil | apply seqF.nn | apply vcF.seq | apply vcF.region | apply vcF.skip | apply vcF.block | apply vcF.exit | apply vcF.ret | apply vcF.loop | apply seqF.e | apply seqF.r | apply blkF.nn | apply blkF.e | apply blkF.r | apply blkF.o rfl)
| ((with_reducible apply opsF.call); case hx => exact tAG)
| ((with_reducible apply opsF.want); (case hg => exact tEV); case hb => exact tNB)
| ((with_reducible apply opsF.skip); (case hg => exact tEV); case hb => exact tNB)
| (first | ((with_reducible apply opsF.case); case hg => exact tEV) | ((with_reducible apply vcF.cond); case hx => exact tEV)) <;> ((intro hc; try simp only [Int.reduceLT, Int.reduceLE, Int.reduceEq, Int.reduceNe, Int.cast_ofNat_Int, Int.reduceNeg, reduceCtorEq, ne_eq, ge_iff_le, gt_iff_lt, beq_iff_eq, beq_eq_false_iff_ne, bne_iff_ne, bne_eq_false_iff_eq, nrm, *] at hc) <;> try (exfalso; omega))
| ((with_reducible apply opsF.und); case hg => rfl)
| ((with_reducible first | apply retF.r | apply retF.nn); case hv => exact tRS)
| ((refine (hfd _).mono fun v h3' hp => ?_); obtain ⟨PX3, F3⟩ := hp)
| fail)
          have PX4 : PX x ({ S2 with out := S2.out.drop 0 } : CS) [] h3' := PX3
          have q8b : ∀ {u : AV}, u = .v (.string (bs t)) → u = .v (.string (bs (t ++ (S2.out.take 0).flatten))) := fun {u} hu => by rw [hu]; simp
          refine LpF.ind rfl (fun q : Nat => S2.out.length - q) (fun q σ hh => PX x ({ S2 with out := S2.out.drop q } : CS) [] hh ∧ σ 0 = .list 1 (srows tg) .no ∧ σ 1 = .list 1 (srows body) .no ∧ σ 7 = .ptr x.id 0 ∧ σ 8 = .v (.string (bs (t ++ (S2.out.take q).flatten))) ∧ σ 9 = .list 1 (srows L) t' ∧ σ 10 = .v (.int .i64 (k : Nat)) ∧ σ 12 = .v (.int .i64 (j : Nat)) ∧ q ≤ S2.out.length) ?_ (i := 0) ⟨PX4, q0, q1, q7, q8b q8, q9, q10, q12, Nat.zero_le _⟩
          clear q0 q1 q7 q8 q9 q10 q12 PX4 PX3 q8b hfd
          rintro q σ hh4 ⟨PXq, q0, q1, q7, q8, q9, q10, q12, hq⟩
          rcases Nat.lt_or_ge q S2.out.length with hlt2 | hge2
          · obtain ⟨u, hu⟩ : ∃ u, S2.out[q]? = some u := ⟨_, List.getElem?_eq_getElem hlt2⟩
            have hps := px_some (w0 := W) x _ [] u (S2.out.drop (q + 1)) hh4 PXq (drop_step hu)
            have e : ({ S2 with out := S2.out.drop q } : CS).pop = { S2 with out := S2.out.drop (q + 1) } := by unfold CS.pop; dsimp only; rw [List.tail_drop]
            rw [e] at hps
            have e8 : t ++ (S2.out.take (q + 1)).flatten = t ++ (S2.out.take q).flatten ++ u := by rw [List.take_add_one, hu]; simp
            have hle : (t ++ (S2.out.take q).flatten).length + u.length ≤ 10000000000000000 := by
              have e9 : S2.out.flatten = (S2.out.take (q + 1)).flatten ++ (S2.out.drop (q + 1)).flatten := by rw [← List.flatten_append, List.take_append_drop]
              have := congrArg List.length e8
              have := congrArg List.length e9
              simp only [List.length_append] at *
              omega
            clear PXq e hbd hrt
            generalize t ++ (S2.out.take q).flatten = t1 at *
            repeat' (first
| ((with_reducible apply opsF.op rfl); case hs => first | exact tHT | exact tHS)
| (with_reducible first | apply opsF.nil | apply seqF.nn | apply vcF.seq | apply vcF.region | apply vcF.skip | apply vcF.block | apply vcF.exit | apply vcF.ret | apply vcF.loop | apply seqF.e | apply seqF.r | apply blkF.nn | apply blkF.e | apply blkF.r | apply blkF.o rfl)
| ((with_reducible apply opsF.call); case hx => exact tAG)
| ((with_reducible apply opsF.want); (case hg => exact tEV); case hb => exact tNB)
| ((with_reducible apply opsF.skip); (case hg => exact tEV); case hb => exact tNB)
| (first | ((with_reducible apply opsF.case); case hg => exact tEV) | ((with_reducible apply vcF.cond); case hx => exact tEV)) <;> ((intro hc; try simp only [Int.reduceLT, Int.reduceLE, Int.reduceEq, Int.reduceNe, Int.cast_ofNat_Int, Int.reduceNeg, reduceCtorEq, ne_eq, ge_iff_le, gt_iff_lt, beq_iff_eq, beq_eq_false_iff_ne, bne_iff_ne, bne_eq_false_iff_eq, nrm, *] at hc) <;> try (exfalso; omega))
| ((with_reducible apply opsF.und); case hg => rfl)
| ((with_reducible first | apply retF.r | apply retF.nn); case hv => exact tRS)
| ((refine hps.mono fun v h3' hp => ?_); obtain ⟨rfl, PX3, F3⟩ := hp)
| fail)
            all_goals exact ⟨q + 1, by omega, PX3, q0, q1, q7, by rw [e8]; rfl, q9, q10, q12, by omega⟩
          · have e : ({ S2 with out := S2.out.drop q } : CS) = { S2 with out := [] } := by rw [List.drop_eq_nil_of_le hge2]
            rw [e] at PXq
            rw [List.take_of_length_le hge2] at q8
            have hn1 := px_none (w0 := W) x _ [] hh4 PXq rfl
            have hfin : PX x (runs (s0, []) (L.take (j + 1))).1 [] hh4 := by rw [hrt]; exact PXq
            have hfin2 : AV.v (.string (bs (t ++ S2.out.flatten))) = .v (.string (bs (runs (s0, []) (L.take (j + 1))).2)) := by rw [hrt]
            clear hrt PXq e hbd
            generalize t ++ S2.out.flatten = t2 at *
            repeat' (first
| ((with_reducible apply opsF.op rfl); case hs => first | exact tHT | exact tHS)
| (with_reducible first | apply opsF.nil | apply seqF.nn | apply vcF.seq | apply vcF.region | apply vcF.skip | apply vcF.block | apply vcF.exit | apply vcF.ret | apply vcF.loop | apply seqF.e | apply seqF.r | apply blkF.nn | apply blkF.e | apply blkF.r | apply blkF.o rfl)
| ((with_reducible apply opsF.call); case hx => exact tAG)
| ((with_reducible apply opsF.want); (case hg => exact tEV); case hb => exact tNB)
| ((with_reducible apply opsF.skip); (case hg => exact tEV); case hb => exact tNB)
| (first | ((with_reducible apply opsF.case); case hg => exact tEV) | ((with_reducible apply vcF.cond); case hx => exact tEV)) <;> ((intro hc; try simp only [Int.reduceLT, Int.reduceLE, Int.reduceEq, Int.reduceNe, Int.cast_ofNat_Int, Int.reduceNeg, reduceCtorEq, ne_eq, ge_iff_le, gt_iff_lt, beq_iff_eq, beq_eq_false_iff_ne, bne_iff_ne, bne_eq_false_iff_eq, nrm, *] at hc) <;> try (exfalso; omega))
| ((with_reducible apply opsF.und); case hg => rfl)
| ((with_reducible first | apply retF.r | apply retF.nn); case hv => exact tRS)
| ((refine Call.use hn1 ?_))
| fail)
            all_goals exact ⟨j + 1, by omega, hfin, q0, q1, q7, q8.trans hfin2, q9, q10, rfl, by omega⟩
        · rw [List.take_of_length_le hgeL] at PXj q8
          rw [w3] at q8
          have hco := px_codes (w0 := W) x _ [] hh PXj (by rw [← List.take_of_length_le hgeL, (hs0 j).1]; omega)
          have hov := px_over (w0 := W) x _ [] hh PXj
          rw [w1] at hov
          rw [w2] at hco
          clear hs0 w1 w2 w3 PXj hin0 hout0 htg0 hLb hT2
          have hF : ∀ i, (((tg.take i).map rcptL).flatten).length ≤ 10000000000000000 := fun i => by
            have q1 := rcpts_len (tg := tg.take i) (K := 140737488351232) fun t ht => h3 t (List.mem_of_mem_take ht)
            have q2 : (tg.take i).length * (140737488351232 + 12) ≤ 50 * (140737488351232 + 12) := Nat.mul_le_mul_right _ (by rw [List.length_take]; omega)
            omega
          have hst := fun h => rstuff_call (w0 := W) body .no h hb
          have hstl : (stuffGo body).length ≤ 200000 := by have := stuff_len body; have := body_size hb; omega
          have hwH : wantH = [69, 72, 76, 79, 32, 104, 13, 10, 77, 65, 73, 76, 32, 70, 82, 79, 77, 58, 60, 62, 13, 10] := rfl
          have hwHl : wantH.length = 22 := rfl
          repeat' (first
| ((with_reducible apply opsF.op rfl); case hs => first | exact tHT | exact tHS)
| (with_reducible first | apply opsF.nil | apply seqF.nn | apply vcF.seq | apply vcF.region | apply vcF.skip | apply vcF.block | apply vcF.exit | apply vcF.ret | apply vcF.loop | apply seqF.e | apply seqF.r | apply blkF.nn | apply blkF.e | apply blkF.r | apply blkF.o rfl)
| ((with_reducible apply opsF.call); case hx => exact tAG)
| ((with_reducible apply opsF.want); (case hg => exact tEV); case hb => exact tNB)
| ((with_reducible apply opsF.skip); (case hg => exact tEV); case hb => exact tNB)
| (first | ((with_reducible apply opsF.case); case hg => exact tEV) | ((with_reducible apply vcF.cond); case hx => exact tEV)) <;> ((intro hc; try simp only [Int.reduceLT, Int.reduceLE, Int.reduceEq, Int.reduceNe, Int.cast_ofNat_Int, Int.reduceNeg, reduceCtorEq, ne_eq, ge_iff_le, gt_iff_lt, beq_iff_eq, beq_eq_false_iff_ne, bne_iff_ne, bne_eq_false_iff_eq, nrm, *] at hc) <;> try (exfalso; omega))
| ((with_reducible apply opsF.und); case hg => rfl)
| ((with_reducible first | apply retF.r | apply retF.nn); case hv => exact tRS))
          refine LpF.ind rfl (fun i : Nat => tg.length - i) (fun i σ h6 => h6 = hh ∧ σ 0 = .list 1 (srows tg) .no ∧ σ 1 = .list 1 (srows body) .no ∧ σ 7 = .ptr x.id 0 ∧ σ 8 = .v (.string (bs WT)) ∧ σ 10 = .v (.int .i64 (k : Nat)) ∧ σ 15 = .v (.string (bs (wantH ++ ((tg.take i).map rcptL).flatten))) ∧ σ 16 = .v (.int .i64 (i : Nat)) ∧ i ≤ tg.length) ?_ (i := 0) ⟨rfl, q0, q1, q7, q8, q10, rfl, rfl, Nat.zero_le _⟩
          clear q0 q1 q7 q8 q9 q10 q12
          rintro i σ h6 ⟨rfl, q0, q1, q7, q8, q10, q15, q16, hi⟩
          have hFi := hF i
          clear hF
          rcases Nat.lt_or_ge i tg.length with hlt | hge3
          · obtain ⟨u, hu⟩ : ∃ u, tg[i]? = some u := ⟨_, List.getElem?_eq_getElem hlt⟩
            have hul := h3 u (List.mem_of_getElem? hu)
            have hgu : (srows tg)[i]? = some [.v (.string (bs u))] := by rw [xg, hu]; rfl
            have e : wantH ++ ((tg.take (i + 1)).map rcptL).flatten = wantH ++ ((tg.take i).map rcptL).flatten ++ [82, 67, 80, 84, 32, 84, 79, 58, 60] ++ u ++ [62, 13, 10] := by
              rw [List.take_add_one, hu]
              simp [rcptL, tRCPT]
            generalize ((tg.take i).map rcptL).flatten = F at *
            clear hwH hco hov hst
            generalize wantH = WH at *
            repeat' (first
| ((with_reducible apply opsF.op rfl); case hs => first | exact tHT | exact tHS)
| (with_reducible first | apply opsF.nil | apply seqF.nn | apply vcF.seq | apply vcF.region | apply vcF.skip | apply vcF.block | apply vcF.exit | apply vcF.ret | apply vcF.loop | apply seqF.e | apply seqF.r | apply blkF.nn | apply blkF.e | apply blkF.r | apply blkF.o rfl)
| ((with_reducible apply opsF.call); case hx => exact tAG)
| ((with_reducible apply opsF.want); (case hg => exact tEV); case hb => exact tNB)
| ((with_reducible apply opsF.skip); (case hg => exact tEV); case hb => exact tNB)
| (first | ((with_reducible apply opsF.case); case hg => exact tEV) | ((with_reducible apply vcF.cond); case hx => exact tEV)) <;> ((intro hc; try simp only [Int.reduceLT, Int.reduceLE, Int.reduceEq, Int.reduceNe, Int.cast_ofNat_Int, Int.reduceNeg, reduceCtorEq, ne_eq, ge_iff_le, gt_iff_lt, beq_iff_eq, beq_eq_false_iff_ne, bne_iff_ne, bne_eq_false_iff_eq, nrm, *] at hc) <;> try (exfalso; omega))
| ((with_reducible apply opsF.und); case hg => rfl)
| ((with_reducible first | apply retF.r | apply retF.nn); case hv => exact tRS))
            all_goals exact ⟨i + 1, by omega, rfl, q0, q1, q7, q8, q10, by rw [e]; rfl, rfl, by omega⟩
          · obtain rfl : i = tg.length := by omega
            rw [List.take_length] at q15 hFi
            have nl := nrow_len ((List.range tg.length).map (fun i => if i = k then (550 : Int) else 250))
            have hcg : ∀ u, u < tg.length → (nrow ((List.range tg.length).map (fun i => if i = k then (550 : Int) else 250)))[u]? = some [.v (.int .i64 (if u = k then 550 else 250))] := fun u hu => by
              rw [nrow_at]; simp [hu]
            rw [List.length_map, List.length_range] at nl
            unfold wantT at hWT
            clear hwH
            generalize (tg.map rcptL).flatten = F at *
            generalize wantH = WH at *
            generalize hNR : nrow ((List.range tg.length).map (fun i => if i = k then (550 : Int) else 250)) = NR at *
            generalize stuffGo body = SB at *
            clear hNR
            by_cases hw : 1 < tg.length ∨ k ≠ 0
            · rw [if_pos hw] at hWT
              have hWT2 : WH ++ F ++ [68, 65, 84, 65, 13, 10] ++ SB ++ [81, 85, 73, 84, 13, 10] = WT := by rw [← hWT]; simp [tDATA, tQUIT]
              clear hWT
              repeat' (first
| ((with_reducible apply opsF.op rfl); case hs => first | exact tHT | exact tHS)
| (with_reducible first | apply opsF.nil | apply seqF.nn | apply vcF.seq | apply vcF.region | apply vcF.skip | apply vcF.block | apply vcF.exit | apply vcF.ret | apply vcF.loop | apply seqF.e | apply seqF.r | apply blkF.nn | apply blkF.e | apply blkF.r | apply blkF.o rfl)
| ((with_reducible apply opsF.call); case hx => exact tAG)
| ((with_reducible apply opsF.want); (case hg => exact tEV); case hb => exact tNB)
| ((with_reducible apply opsF.skip); (case hg => exact tEV); case hb => exact tNB)
| (first | ((with_reducible apply opsF.case); case hg => exact tEV) | ((with_reducible apply vcF.cond); case hx => exact tEV)) <;> ((intro hc; try simp only [Int.reduceLT, Int.reduceLE, Int.reduceEq, Int.reduceNe, Int.cast_ofNat_Int, Int.reduceNeg, reduceCtorEq, ne_eq, ge_iff_le, gt_iff_lt, beq_iff_eq, beq_eq_false_iff_ne, bne_iff_ne, bne_eq_false_iff_eq, nrm, *] at hc) <;> try (exfalso; omega))
| ((with_reducible apply opsF.und); case hg => rfl)
| ((with_reducible first | apply retF.r | apply retF.nn); case hv => exact tRS)
| ((refine Call.use (hst _) ?_))
| ((refine Call.use hco ?_))
| fail)
              all_goals
                refine LpF.ind rfl (fun u : Nat => tg.length - u) (fun u σ h7 => h7 = h6 ∧ σ 0 = .list 1 (srows tg) .no ∧ σ 7 = .ptr x.id 0 ∧ σ 8 = .v (.string (bs WT)) ∧ σ 10 = .v (.int .i64 (k : Nat)) ∧ σ 15 = .v (.string (bs WT)) ∧ σ 17 = .list 1 NR .no ∧ σ 18 = .v (.int .i64 (u : Nat)) ∧ u ≤ tg.length) ?_ (i := 0) ⟨rfl, q0, q7, q8, q10, by first | rfl | exact congrArg (fun z => AV.v (.string (bs z))) hWT2, rfl, rfl, Nat.zero_le _⟩
                clear q0 q1 q7 q8 q10 q15 q16 hWT2 hst hco hw
                rintro u σ h7 ⟨rfl, q0, q7, q8, q10, q15, q17, q18, hu⟩
                rcases Nat.lt_or_ge u tg.length with hlt9 | hge9
                · have hcu := hcg u hlt9
                  clear hcg hov
                  by_cases huk : u = k
                  · rw [if_pos huk] at hcu
                    subst huk
                    repeat' (first
| ((with_reducible apply opsF.op rfl); (case hs => exact is_iaL tEV tEV (by omega) (by first | exact hcu | (have hk0 : k = 0 := (by omega); subst hk0; exact hcu) | (have hk0 : u = 0 := (by omega); subst hk0; exact hcu))))
| ((with_reducible apply opsF.op rfl); case hs => first | exact tHT | exact tHS)
| (with_reducible first | apply opsF.nil | apply seqF.nn | apply vcF.seq | apply vcF.region | apply vcF.skip | apply vcF.block | apply vcF.exit | apply vcF.ret | apply vcF.loop | apply seqF.e | apply seqF.r | apply blkF.nn | apply blkF.e | apply blkF.r | apply blkF.o rfl)
| ((with_reducible apply opsF.call); case hx => exact tAG)
| ((with_reducible apply opsF.want); (case hg => exact tEV); case hb => exact tNB)
| ((with_reducible apply opsF.skip); (case hg => exact tEV); case hb => exact tNB)
| (first | ((with_reducible apply opsF.case); case hg => exact tEV) | ((with_reducible apply vcF.cond); case hx => exact tEV)) <;> ((intro hc; try simp only [Int.reduceLT, Int.reduceLE, Int.reduceEq, Int.reduceNe, Int.cast_ofNat_Int, Int.reduceNeg, reduceCtorEq, ne_eq, ge_iff_le, gt_iff_lt, beq_iff_eq, beq_eq_false_iff_ne, bne_iff_ne, bne_eq_false_iff_eq, nrm, *] at hc) <;> try (exfalso; omega))
| ((with_reducible apply opsF.und); case hg => rfl)
| ((with_reducible first | apply retF.r | apply retF.nn); case hv => exact tRS)
| fail)
                    all_goals exact ⟨u + 1, by omega, rfl, q0, q7, q8, q10, q15, q17, by first | rfl | (congr 2; omega) | (have hk0 : k = 0 := (by omega); subst hk0; rfl) | (have hk0 : u = 0 := (by omega); subst hk0; rfl), by omega⟩
                  · rw [if_neg huk] at hcu
                    have huk' : ¬ (u : Int) = (k : Int) := by omega
                    clear huk
                    repeat' (first
| ((with_reducible apply opsF.op rfl); case hs => first | exact tHT | exact tHS)
| (with_reducible first | apply opsF.nil | apply seqF.nn | apply vcF.seq | apply vcF.region | apply vcF.skip | apply vcF.block | apply vcF.exit | apply vcF.ret | apply vcF.loop | apply seqF.e | apply seqF.r | apply blkF.nn | apply blkF.e | apply blkF.r | apply blkF.o rfl)
| ((with_reducible apply opsF.call); case hx => exact tAG)
| ((with_reducible apply opsF.want); (case hg => exact tEV); case hb => exact tNB)
| ((with_reducible apply opsF.skip); (case hg => exact tEV); case hb => exact tNB)
| (first | ((with_reducible apply opsF.case); case hg => exact tEV) | ((with_reducible apply vcF.cond); case hx => exact tEV)) <;> ((intro hc; try simp only [Int.reduceLT, Int.reduceLE, Int.reduceEq, Int.reduceNe, Int.cast_ofNat_Int, Int.reduceNeg, reduceCtorEq, ne_eq, ge_iff_le, gt_iff_lt, beq_iff_eq, beq_eq_false_iff_ne, bne_iff_ne, bne_eq_false_iff_eq, nrm, *] at hc) <;> try (exfalso; omega))
| ((with_reducible apply opsF.und); case hg => rfl)
| ((with_reducible first | apply retF.r | apply retF.nn); case hv => exact tRS))
                    all_goals exact ⟨u + 1, by omega, rfl, q0, q7, q8, q10, q15, q17, by first | rfl | (congr 2; omega) | (have hk0 : k = 0 := (by omega); subst hk0; rfl) | (have hk0 : u = 0 := (by omega); subst hk0; rfl), by omega⟩
                · clear hcg
                  repeat' (first
| ((with_reducible apply opsF.op rfl); case hs => first | exact tHT | exact tHS)
| (with_reducible first | apply opsF.nil | apply seqF.nn | apply vcF.seq | apply vcF.region | apply vcF.skip | apply vcF.block | apply vcF.exit | apply vcF.ret | apply vcF.loop | apply seqF.e | apply seqF.r | apply blkF.nn | apply blkF.e | apply blkF.r | apply blkF.o rfl)
| ((with_reducible apply opsF.call); case hx => exact tAG)
| ((with_reducible apply opsF.want); (case hg => exact tEV); case hb => exact tNB)
| ((with_reducible apply opsF.skip); (case hg => exact tEV); case hb => exact tNB)
| (first | ((with_reducible apply opsF.case); case hg => exact tEV) | ((with_reducible apply vcF.cond); case hx => exact tEV)) <;> ((intro hc; try simp only [Int.reduceLT, Int.reduceLE, Int.reduceEq, Int.reduceNe, Int.cast_ofNat_Int, Int.reduceNeg, reduceCtorEq, ne_eq, ge_iff_le, gt_iff_lt, beq_iff_eq, beq_eq_false_iff_ne, bne_iff_ne, bne_eq_false_iff_eq, nrm, *] at hc) <;> try (exfalso; omega))
| ((with_reducible apply opsF.und); case hg => rfl)
| ((with_reducible first | apply retF.r | apply retF.nn); case hv => exact tRS)
| ((refine Call.use hov ?_))
| ((refine Call.use (ha _) ?_))
| fail)
                  all_goals simp
            · rw [if_neg hw] at hWT
              have hWT2 : WH ++ F ++ [81, 85, 73, 84, 13, 10] = WT := by rw [← hWT]; simp [tQUIT]
              clear hWT
              repeat' (first
| ((with_reducible apply opsF.op rfl); case hs => first | exact tHT | exact tHS)
| (with_reducible first | apply opsF.nil | apply seqF.nn | apply vcF.seq | apply vcF.region | apply vcF.skip | apply vcF.block | apply vcF.exit | apply vcF.ret | apply vcF.loop | apply seqF.e | apply seqF.r | apply blkF.nn | apply blkF.e | apply blkF.r | apply blkF.o rfl)
| ((with_reducible apply opsF.call); case hx => exact tAG)
| ((with_reducible apply opsF.want); (case hg => exact tEV); case hb => exact tNB)
| ((with_reducible apply opsF.skip); (case hg => exact tEV); case hb => exact tNB)
| (first | ((with_reducible apply opsF.case); case hg => exact tEV) | ((with_reducible apply vcF.cond); case hx => exact tEV)) <;> ((intro hc; try simp only [Int.reduceLT, Int.reduceLE, Int.reduceEq, Int.reduceNe, Int.cast_ofNat_Int, Int.reduceNeg, reduceCtorEq, ne_eq, ge_iff_le, gt_iff_lt, beq_iff_eq, beq_eq_false_iff_ne, bne_iff_ne, bne_eq_false_iff_eq, nrm, *] at hc) <;> try (exfalso; omega))
| ((with_reducible apply opsF.und); case hg => rfl)
| ((with_reducible first | apply retF.r | apply retF.nn); case hv => exact tRS)
| ((refine Call.use (hst _) ?_))
| ((refine Call.use hco ?_))
| fail)
              all_goals
                refine LpF.ind rfl (fun u : Nat => tg.length - u) (fun u σ h7 => h7 = h6 ∧ σ 0 = .list 1 (srows tg) .no ∧ σ 7 = .ptr x.id 0 ∧ σ 8 = .v (.string (bs WT)) ∧ σ 10 = .v (.int .i64 (k : Nat)) ∧ σ 15 = .v (.string (bs WT)) ∧ σ 17 = .list 1 NR .no ∧ σ 18 = .v (.int .i64 (u : Nat)) ∧ u ≤ tg.length) ?_ (i := 0) ⟨rfl, q0, q7, q8, q10, by first | rfl | exact congrArg (fun z => AV.v (.string (bs z))) hWT2, rfl, rfl, Nat.zero_le _⟩
                clear q0 q1 q7 q8 q10 q15 q16 hWT2 hst hco hw
                rintro u σ h7 ⟨rfl, q0, q7, q8, q10, q15, q17, q18, hu⟩
                rcases Nat.lt_or_ge u tg.length with hlt9 | hge9
                · have hcu := hcg u hlt9
                  clear hcg hov
                  by_cases huk : u = k
                  · rw [if_pos huk] at hcu
                    subst huk
                    repeat' (first
| ((with_reducible apply opsF.op rfl); (case hs => exact is_iaL tEV tEV (by omega) (by first | exact hcu | (have hk0 : k = 0 := (by omega); subst hk0; exact hcu) | (have hk0 : u = 0 := (by omega); subst hk0; exact hcu))))
| ((with_reducible apply opsF.op rfl); case hs => first | exact tHT | exact tHS)
| (with_reducible first | apply opsF.nil | apply seqF.nn | apply vcF.seq | apply vcF.region | apply vcF.skip | apply vcF.block | apply vcF.exit | apply vcF.ret | apply vcF.loop | apply seqF.e | apply seqF.r | apply blkF.nn | apply blkF.e | apply blkF.r | apply blkF.o rfl)
| ((with_reducible apply opsF.call); case hx => exact tAG)
| ((with_reducible apply opsF.want); (case hg => exact tEV); case hb => exact tNB)
| ((with_reducible apply opsF.skip); (case hg => exact tEV); case hb => exact tNB)
| (first | ((with_reducible apply opsF.case); case hg => exact tEV) | ((with_reducible apply vcF.cond); case hx => exact tEV)) <;> ((intro hc; try simp only [Int.reduceLT, Int.reduceLE, Int.reduceEq, Int.reduceNe, Int.cast_ofNat_Int, Int.reduceNeg, reduceCtorEq, ne_eq, ge_iff_le, gt_iff_lt, beq_iff_eq, beq_eq_false_iff_ne, bne_iff_ne, bne_eq_false_iff_eq, nrm, *] at hc) <;> try (exfalso; omega))
| ((with_reducible apply opsF.und); case hg => rfl)
| ((with_reducible first | apply retF.r | apply retF.nn); case hv => exact tRS)
| fail)
                    all_goals exact ⟨u + 1, by omega, rfl, q0, q7, q8, q10, q15, q17, by first | rfl | (congr 2; omega) | (have hk0 : k = 0 := (by omega); subst hk0; rfl) | (have hk0 : u = 0 := (by omega); subst hk0; rfl), by omega⟩
                  · rw [if_neg huk] at hcu
                    have huk' : ¬ (u : Int) = (k : Int) := by omega
                    clear huk
                    repeat' (first
| ((with_reducible apply opsF.op rfl); case hs => first | exact tHT | exact tHS)
| (with_reducible first | apply opsF.nil | apply seqF.nn | apply vcF.seq | apply vcF.region | apply vcF.skip | apply vcF.block | apply vcF.exit | apply vcF.ret | apply vcF.loop | apply seqF.e | apply seqF.r | apply blkF.nn | apply blkF.e | apply blkF.r | apply blkF.o rfl)
| ((with_reducible apply opsF.call); case hx => exact tAG)
| ((with_reducible apply opsF.want); (case hg => exact tEV); case hb => exact tNB)
| ((with_reducible apply opsF.skip); (case hg => exact tEV); case hb => exact tNB)
| (first | ((with_reducible apply opsF.case); case hg => exact tEV) | ((with_reducible apply vcF.cond); case hx => exact tEV)) <;> ((intro hc; try simp only [Int.reduceLT, Int.reduceLE, Int.reduceEq, Int.reduceNe, Int.cast_ofNat_Int, Int.reduceNeg, reduceCtorEq, ne_eq, ge_iff_le, gt_iff_lt, beq_iff_eq, beq_eq_false_iff_ne, bne_iff_ne, bne_eq_false_iff_eq, nrm, *] at hc) <;> try (exfalso; omega))
| ((with_reducible apply opsF.und); case hg => rfl)
| ((with_reducible first | apply retF.r | apply retF.nn); case hv => exact tRS))
                    all_goals exact ⟨u + 1, by omega, rfl, q0, q7, q8, q10, q15, q17, by first | rfl | (congr 2; omega) | (have hk0 : k = 0 := (by omega); subst hk0; rfl) | (have hk0 : u = 0 := (by omega); subst hk0; rfl), by omega⟩
                · clear hcg
                  repeat' (first
| ((with_reducible apply opsF.op rfl); case hs => first | exact tHT | exact tHS)
| (with_reducible first | apply opsF.nil | apply seqF.nn | apply vcF.seq | apply vcF.region | apply vcF.skip | apply vcF.block | apply vcF.exit | apply vcF.ret | apply vcF.loop | apply seqF.e | apply seqF.r | apply blkF.nn | apply blkF.e | apply blkF.r | apply blkF.o rfl)
| ((with_reducible apply opsF.call); case hx => exact tAG)
| ((with_reducible apply opsF.want); (case hg => exact tEV); case hb => exact tNB)
| ((with_reducible apply opsF.skip); (case hg => exact tEV); case hb => exact tNB)
| (first | ((with_reducible apply opsF.case); case hg => exact tEV) | ((with_reducible apply vcF.cond); case hx => exact tEV)) <;> ((intro hc; try simp only [Int.reduceLT, Int.reduceLE, Int.reduceEq, Int.reduceNe, Int.cast_ofNat_Int, Int.reduceNeg, reduceCtorEq, ne_eq, ge_iff_le, gt_iff_lt, beq_iff_eq, beq_eq_false_iff_ne, bne_iff_ne, bne_eq_false_iff_eq, nrm, *] at hc) <;> try (exfalso; omega))
| ((with_reducible apply opsF.und); case hg => rfl)
| ((with_reducible first | apply retF.r | apply retF.nn); case hv => exact tRS)
| ((refine Call.use hov ?_))
| ((refine Call.use (ha _) ?_))
| fail)
                  all_goals simp
  · repeat' (first
| ((with_reducible apply opsF.op rfl); case hs => first | exact tHT | exact tHS)
| (with_reducible first | apply opsF.nil | apply seqF.nn | apply vcF.seq | apply vcF.region | apply vcF.skip | apply vcF.block | apply vcF.exit | apply vcF.ret | apply vcF.loop | apply seqF.e | apply seqF.r | apply blkF.nn | apply blkF.e | apply blkF.r | apply blkF.o rfl)
| ((with_reducible apply opsF.call); case hx => exact tAG)
| ((with_reducible apply opsF.want); (case hg => exact tEV); case hb => exact tNB)
| ((with_reducible apply opsF.skip); (case hg => exact tEV); case hb => exact tNB)
| (first | ((with_reducible apply opsF.case); case hg => exact tEV) | ((with_reducible apply vcF.cond); case hx => exact tEV)) <;> ((intro hc; try simp only [Int.reduceLT, Int.reduceLE, Int.reduceEq, Int.reduceNe, Int.cast_ofNat_Int, Int.reduceNeg, reduceCtorEq, ne_eq, ge_iff_le, gt_iff_lt, beq_iff_eq, beq_eq_false_iff_ne, bne_iff_ne, bne_eq_false_iff_eq, nrm, *] at hc) <;> try (exfalso; omega))
| ((with_reducible apply opsF.und); case hg => rfl)
| ((with_reducible first | apply retF.r | apply retF.nn); case hv => exact tRS)
| ((refine Call.use (hgo _) ?_))
| ((refine Call.use (ha _) ?_))
| fail)
    all_goals rfl
theorem sendWell_int (W : World) (hM : MaxLen W) (tg body : List L8) (bad : Int) (h1 : 0 ≤ bad ∧ bad ≤ 255) (h2 : tg.length ≤ 140737488351232) (h3 : ∀ t ∈ tg, t.length ≤ 140737488351232) (h4 : body.length ≤ 140737488351232) (h5 : ∀ t ∈ body, t.length ≤ 140737488351232) :
    Call P W law07_SendWell [.list 1 (srows tg) .no, .list 1 (srows body) .no, .v (.int .u8 bad)] AH.start fun v _ => v = .v (.bool true) := by
  obtain ⟨bad, rfl⟩ := Int.eq_ofNat_of_zero_le h1.1
  exact sendWell_main W hM tg body bad (by omega) h2 h3 h4 h5
theorem strsW_mem (l : (Ty.slice .str).D) (hf : (Ty.slice .str).fit 140737488351232 l) : ∃ t : List L8, (Ty.slice .str).val l = .list 1 (srows t) .no ∧ t.length ≤ 140737488351232 ∧ ∀ x ∈ t, x.length ≤ 140737488351232 :=
  ⟨l, rfl, hf.1, hf.2⟩
theorem law_SendWell (W : World) (hs : W.ShapedOpen P) (hL : laidMetH P Go.Proofs.YtlmgpkopcgcbgaaDoor.Rows.sendWellRow.laid W)
    (x0 : (Ty.slice .str).D) (h0 : (Ty.slice .str).wf x0) (g0 : (Ty.slice .str).fit 140737488351232 x0) (x1 : (Ty.slice .str).D) (h1 : (Ty.slice .str).wf x1) (g1 : (Ty.slice .str).fit 140737488351232 x1) (x2 : (Ty.int .u8).D) (h2 : (Ty.int .u8).wf x2) (g2 : (Ty.int .u8).fit 140737488351232 x2) :
    Call P W law07_SendWell [(Ty.slice .str).val x0, (Ty.slice .str).val x1, (Ty.int .u8).val x2] AH.start fun v _ => v = .v (.bool true) := by
  obtain ⟨t0, e0, l0, m0⟩ := strsW_mem x0 g0
  obtain ⟨t1, e1, l1, m1⟩ := strsW_mem x1 g1
  rw [e0, e1]
  exact sendWell_int W (maxLen_of hs) t0 t1 x2 (u8_wf h2) l0 m0 l1 m1
end Go.Abs.F
