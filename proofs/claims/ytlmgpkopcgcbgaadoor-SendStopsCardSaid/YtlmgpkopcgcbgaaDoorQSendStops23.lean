/- What the proof needs, part 23: Layer 7: SendStops. -/
import Derived.Test.YtlmgpkopcgcbgaaDoorQSendStops21
import Derived.Test.YtlmgpkopcgcbgaaDoorQSendStops22
/- Layer 7: SendStops. -/
namespace Go.Abs.F
open Go Go.Abs
set_option maxRecDepth 10000
set_option maxHeartbeats 20000000
set_option linter.unusedSimpArgs false
set_option linter.unusedVariables false
variable {w0 : World}
theorem is_slT {σ : Fm} {h : AH} {x hi : Opd} {rows rows' : List (List AV)} {tok : Tok} {k : IntKind} {j : Int} (n : Nat) (hx : evF σ x = .list 1 rows tok) (hy : evF σ hi = .v (.int k j)) (hj : j = (n : Nat)) (hn : n < rows.length) (e : rows.take n = rows') : istep (.slL 1 x none (some hi) none) (evF σ) h = some (.list 1 rows' .no, h) := by
  refine is_slL hx (bnd_some (n := n) hy (by omega) (by omega)) bnd_none ?_ (if_neg (by omega))
  rw [List.drop_zero, Nat.sub_zero, e]
theorem stopL_lt {k a : Nat} (h : a < 3) : (srows [r220, r250, r250]).take a = srows (stopL k a) := by
  match a, h with
  | 0, _ => rfl
  | 1, _ => rfl
  | 2, _ => rfl
theorem feeds_take {s : CS} {L : List L8} {j : Nat} {b : L8} (h : L[j]? = some b) : feeds s (L.take (j + 1)) = (feeds s (L.take j)).feed b := by
  rw [List.take_add_one, h, feeds_app]
  rfl
theorem nrow_at (l : List Int) (i : Nat) : (nrow l)[i]? = (l[i]?).map fun n => [.v (.int .i64 n)] := by simp [nrow]
/-- A goal that the run leaves as it is. -/
structure Held (p : Prop) : Prop where
  h : p
theorem Held.out {p : Prop} (k : Held p) : p := k.h
/-- What holds behind three parts. -/
theorem vcF.cut3 {n : Nat} {a b c d : IC} {Q : AExit → Fm → AH → Prop} {σ : Fm} {h : AH} (I : Fm → AH → Prop) (k1 : Held (vcF P w0 n (.seq a (.seq b c)) (seqF I Q) σ h)) (k2 : ∀ σ h, I σ h → vcF P w0 n d Q σ h) : vcF P w0 n (.seq a (.seq b (.seq c d))) Q σ h :=
  vcF_mono (ic := a) (fun e σ h hh => by
    cases e with
    | normal =>
      exact vcF_mono (ic := b) (fun e σ h hh => by
        cases e with
        | normal =>
          exact vcF_mono (ic := c) (fun e σ h hh => by
            cases e with
            | normal => exact k2 _ _ hh
            | exit i => exact hh
            | ret => exact hh) hh
        | exit i => exact hh
        | ret => exact hh) hh
    | exit i => exact hh
    | ret => exact hh) k1.h
/-- A session in the heap, other lists beside it. -/
structure PX (x : CK) (s : CS) (R : List Tok) (hh : AH) : Prop where
  k : ∃ tt to tl tr, ClO hh x s tt to tl tr ∧ Toks hh (to :: tl :: tr :: R)
theorem PX.ext {x : CK} {s : CS} {R : List Tok} {h h' : AH} (H : PX x s R h) (e : Ext h h') : PX x s R h' := by
  obtain ⟨tt, to, tl, tr, C, T⟩ := H.k
  exact ⟨⟨tt, to, tl, tr, C.ext e, T.ext e⟩⟩
theorem px_new (host sndr : L8) (tg body : List L8) (tt tb : Tok) (R : List Tok) (h : AH) (hT : Toks h R) (hz : tg.length ≤ 1000000) (hbl : body.length ≤ 140737488351232) (hbs : ∀ s ∈ body, s.length ≤ 140737488351232) :
    Call P w0 send_New [.v (.string (bs host)), .v (.string (bs sndr)), .list 1 (srows tg) tt, .list 1 (srows body) tb] h (fun v h' => ∃ x : CK, v = .ptr x.id 0 ∧ PX x (newC host sndr tg body) R h' ∧ Fr [] h h') := by
  refine (cnew_call host sndr tg body tt tb R h hT hz hbl hbs).mono fun v h' hp => ?_
  obtain ⟨x, rfl, N⟩ := hp
  exact ⟨x, rfl, ⟨N.o⟩, N.e⟩
theorem px_feed (hM : MaxLen w0) (x : CK) (s : CS) (R : List Tok) (n : Nat) (b : L8) (tb : Tok) (h : AH) (H : PX x s R h) (hi : s.In n) (hn : n + b.length ≤ 900000000) :
    Call P w0 send_Client_Feed [.ptr x.id 0, .list 1 (brows b) tb] h (fun v h' => PX x (s.feed b) R h' ∧ Fr x.ids h h') := by
  obtain ⟨tt, to, tl, tr, C, T⟩ := H.k
  refine (cfeed_call hM x s tt to tl tr R b tb h C T hi.sz (fun e => (hi.ok e).1) (fun e => by have := (hi.ok e).2.2; omega) (fun e => by have := (hi.ok e).2.1; omega)).mono fun v h' hp => ?_
  obtain ⟨to1, tl1, tr1, C1, T1, F1⟩ := hp
  exact ⟨⟨⟨tt, to1, tl1, tr1, C1, T1⟩⟩, F1⟩
theorem px_some (x : CK) (s : CS) (R : List Tok) (t : L8) (o : List L8) (h : AH) (H : PX x s R h) (ho : s.out = t :: o) : Call P w0 send_Client_Next [.ptr x.id 0] h (fun v h' => v = .tup [.v (.string (bs t)), .v (.bool true)] ∧ PX x s.pop R h' ∧ Fr x.ids h h') := by
  obtain ⟨tt, to, tl, tr, C, T⟩ := H.k
  refine (cNext_some x s tt to tl tr t o h C ho).mono fun v h' hp => ?_
  obtain ⟨rfl, C1, T1, F1⟩ := hp
  exact ⟨rfl, ⟨⟨tt, to, tl, tr, C1, T1 _ T⟩⟩, F1⟩
theorem px_none (x : CK) (s : CS) (R : List Tok) (h : AH) (H : PX x s R h) (ho : s.out = []) : Call P w0 send_Client_Next [.ptr x.id 0] h (fun v h' => v = .tup [.v (.string (bs [])), .v (.bool false)] ∧ h' = h) := by
  obtain ⟨tt, to, tl, tr, C, T⟩ := H.k
  exact cNext_none x s tt to tl tr h C ho
theorem px_over (x : CK) (s : CS) (R : List Tok) (h : AH) (H : PX x s R h) : Call P w0 send_Client_Over [.ptr x.id 0] h (fun v h' => v = .v (.bool s.over) ∧ h' = h) := by
  obtain ⟨tt, to, tl, tr, C, T⟩ := H.k
  exact cover_call x s tt to tl tr h C
theorem px_codes (x : CK) (s : CS) (R : List Tok) (h : AH) (H : PX x s R h) (hl : s.tg.length ≤ 1000000000000) : Call P w0 send_Client_Codes [.ptr x.id 0] h (fun v h' => v = .list 1 (nrow s.codes) .no ∧ h' = h) := by
  obtain ⟨tt, to, tl, tr, C, T⟩ := H.k
  exact ccodes_call x s tt to tl tr h C hl
/-- An append to a list beside it. -/
theorem PX.app {x : CK} {s : CS} {tk : Tok} {h : AH} (H : PX x s [tk] h) : ∃ t' h', appTok h tk = some (t', h') ∧ PX x s [t'] h' := by
  obtain ⟨tt, to, tl, tr, C, T⟩ := H.k
  obtain ⟨t', h', h1, h2, h3, h4, h5⟩ := (T.perm (List.perm_append_comm (l₁ := [to, tl, tr]) (l₂ := [tk]))).app
  exact ⟨t', h', h1, ⟨⟨tt, to, tl, tr, C.fr ((Fr.refl [] h).app h3 h4 h5) (by simp), h2.perm (List.perm_append_comm (l₁ := [t']) (l₂ := [to, tl, tr]))⟩⟩⟩
theorem stopL_len (k a : Nat) : (stopL k a).length ≤ k + 4 ∧ ∀ b ∈ stopL k a, b.length = 7 := by
  have h0 : r220.length = 7 ∧ r250.length = 7 ∧ r354.length = 7 := ⟨rfl, rfl, rfl⟩
  match a with
  | 0 => exact ⟨by simp [stopL], by simp [stopL]⟩
  | 1 => exact ⟨by simp [stopL], by simp [stopL, h0]⟩
  | 2 => exact ⟨by simp [stopL], by simp [stopL, h0]⟩
  | 3 => exact ⟨by simp [stopL] <;> omega, by simp [stopL, h0]⟩
  | n + 4 => exact ⟨by simp [stopL] <;> omega, by
      intro b hb
      simp [stopL] at hb
      rcases hb with rfl | rfl | ⟨_, rfl⟩ | rfl <;> rfl⟩
def wantN (a : Nat) : Int := match a with
  | 0 => 220
  | 1 => 250
  | 2 => 250
  | 3 => 354
  | _ => 250
theorem wantN_eq (a : Nat) : wantN a = wantC (stopSt a) := by
  match a with
  | 0 => rfl
  | 1 => rfl
  | 2 => rfl
  | 3 => rfl
  | n + 4 => rfl
/-- Where the law's variables stand. -/
structure RegT (x : CK) (k c a : Nat) (σ : Fm) : Prop where
  g7 : σ 7 = .v (.int .i64 (k : Nat))
  g8 : σ 8 = .v (.int .i64 (c : Nat))
  g11 : σ 11 = .v (.int .i64 (a : Nat))
  g13 : σ 13 = .ptr x.id 0
theorem sendStops_main (W : World) (hM : MaxLen W) (n code place : Nat) (h1 : n ≤ 255) (h2 : code ≤ 65535) (h3 : place ≤ 255) :
    Call P W law07_SendStops [.v (.int .u8 (n : Nat)), .v (.int .u16 (code : Nat)), .v (.int .u8 (place : Nat))] AH.start fun v _ => v = .v (.bool true) := by
  have ha := fun h => answers07_call hM h
  have xl := srows_len
  have xg := srows_get
  obtain ⟨k, hk⟩ : ∃ k : Nat, k = n % 5 + 1 := ⟨_, rfl⟩
  obtain ⟨c, hc⟩ : ∃ c : Nat, c = 200 + code % 400 := ⟨_, rfl⟩
  obtain ⟨a, hpl⟩ : ∃ a : Nat, a = place % 5 := ⟨_, rfl⟩
  have hkb : 1 ≤ k ∧ k ≤ 5 := by omega
  have hcb : 200 ≤ c ∧ c ≤ 599 := by omega
  have hab : a < 5 := by omega
  have e7 : IntKind.i64.wrap (IntKind.i64.wrap ((n : Int).tmod 5) + 1) = (k : Nat) := by
    rw [Int.tmod_eq_emod_of_nonneg (by omega), w64 (x := (n : Int) % 5) (by omega) (by omega), w64 (by omega) (by omega)]; omega
  have e8 : IntKind.i64.wrap (200 + IntKind.i64.wrap ((code : Int).tmod 400)) = (c : Nat) := by
    rw [Int.tmod_eq_emod_of_nonneg (by omega), w64 (x := (code : Int) % 400) (by omega) (by omega), w64 (by omega) (by omega)]; omega
  have e11 : IntKind.i64.wrap ((place : Int).tmod 5) = (a : Nat) := by
    rw [Int.tmod_eq_emod_of_nonneg (by omega), w64 (by omega) (by omega)]; omega
  have hwr : ([[.v (.int .i64 220)], [.v (.int .i64 250)], [.v (.int .i64 250)], [.v (.int .i64 354)], [.v (.int .i64 250)]] : List (List AV))[((a : Nat) : Int).toNat]? = some [.v (.int .i64 (wantN a))] := by
    rw [Int.toNat_natCast]
    match a, hab with
    | 0, _ => rfl
    | 1, _ => rfl
    | 2, _ => rfl
    | 3, _ => rfl
    | 4, _ => rfl
  clear hk hc hpl
  refine Call.bodyF b_law07_SendStops rfl rfl ?_
  unfold c_law07_SendStops
  repeat' (first
| ((with_reducible apply opsF.op rfl); case hs => first | exact tHT | exact tHS)
| (with_reducible first | apply opsF.nil | apply seqF.nn | apply vcF.seq | apply vcF.region | apply vcF.skip | apply vcF.block | apply vcF.exit | apply vcF.ret | apply vcF.loop | apply seqF.e | apply seqF.r | apply blkF.nn | apply blkF.e | apply blkF.r | apply blkF.o rfl)
| ((with_reducible apply opsF.call); case hx => exact tAG)
| ((with_reducible apply opsF.want); (case hg => exact tEV); case hb => exact tNB)
| ((with_reducible apply opsF.skip); (case hg => exact tEV); case hb => exact tNB)
| (first | ((with_reducible apply opsF.case); case hg => exact tEV) | ((with_reducible apply vcF.cond); case hx => exact tEV)) <;> ((intro hc; try simp only [Int.reduceLT, Int.reduceLE, Int.reduceEq, Int.reduceNe, Int.cast_ofNat_Int, Int.reduceNeg, reduceCtorEq, ne_eq, ge_iff_le, gt_iff_lt, beq_iff_eq, beq_eq_false_iff_ne, bne_iff_ne, bne_eq_false_iff_eq, nrm, *] at hc) <;> try (exfalso; omega))
| ((with_reducible apply opsF.und); case hg => rfl)
| ((with_reducible first | apply retF.r | apply retF.nn); case hv => exact tRS))
  refine LpF.ind rfl (fun i : Nat => k - i) (fun i σ hh => ∃ tk, Toks hh [tk] ∧ σ 2 = .v (.int .u8 (place : Nat)) ∧ σ 9 = .list 1 (srows (List.replicate i ab)) tk ∧ σ 7 = .v (.int .i64 (k : Nat)) ∧ σ 8 = .v (.int .i64 (c : Nat)) ∧ σ 10 = .v (.int .i64 (i : Nat)) ∧ i ≤ k) ?_ (i := 0) ⟨.full, (Toks.nil _).full, rfl, rfl, by first | rfl | exact congrArg (fun z => AV.v (.int .i64 z)) e7, by first | rfl | exact congrArg (fun z => AV.v (.int .i64 z)) e8, rfl, Nat.zero_le _⟩
  rintro i σ hh ⟨tk, T, q2, q9, q7, q8, q10, hi⟩
  rcases Nat.lt_or_ge i k with hlt | hge
  · obtain ⟨t', h', hap, T', o', n', v'⟩ := T.app
    have e : srows (List.replicate (i + 1) ab) = srows (List.replicate i ab) ++ [[.v (.string (bs [97, 64, 98]))]] := by rw [List.replicate_succ', srows_app]; rfl
    have hrl : (List.replicate i ab).length = i := List.length_replicate
    clear hwr
    repeat' (first
| ((with_reducible apply opsF.op rfl); case hs => first | exact tHT | exact tHS)
| (with_reducible first | apply opsF.nil | apply seqF.nn | apply vcF.seq | apply vcF.region | apply vcF.skip | apply vcF.block | apply vcF.exit | apply vcF.ret | apply vcF.loop | apply seqF.e | apply seqF.r | apply blkF.nn | apply blkF.e | apply blkF.r | apply blkF.o rfl)
| ((with_reducible apply opsF.call); case hx => exact tAG)
| ((with_reducible apply opsF.want); (case hg => exact tEV); case hb => exact tNB)
| ((with_reducible apply opsF.skip); (case hg => exact tEV); case hb => exact tNB)
| (first | ((with_reducible apply opsF.case); case hg => exact tEV) | ((with_reducible apply vcF.cond); case hx => exact tEV)) <;> ((intro hc; try simp only [Int.reduceLT, Int.reduceLE, Int.reduceEq, Int.reduceNe, Int.cast_ofNat_Int, Int.reduceNeg, reduceCtorEq, ne_eq, ge_iff_le, gt_iff_lt, beq_iff_eq, beq_eq_false_iff_ne, bne_iff_ne, bne_eq_false_iff_eq, nrm, *] at hc) <;> try (exfalso; omega))
| ((with_reducible apply opsF.und); case hg => rfl)
| ((with_reducible first | apply retF.r | apply retF.nn); case hv => exact tRS))
    all_goals exact ⟨i + 1, by omega, t', T', q2, by rw [e]; rfl, q7, q8, rfl, by omega⟩
  · obtain rfl : i = k := by omega
    have hnew := px_new (w0 := W) [104] [] (List.replicate i ab) [] tk .full [] hh (Toks.nil hh) (by simp; omega) (by simp) (by simp)
    clear e7 e8
    by_cases hcw : (c : Int) = wantN a
    · generalize wantN a = wn at *
      repeat' (first
| ((with_reducible apply opsF.op rfl); (case hs => exact is_iaL tEV tEV (by omega) hwr))
| ((with_reducible apply opsF.op rfl); case hs => first | exact tHT | exact tHS)
| (with_reducible first | apply opsF.nil | apply seqF.nn | apply vcF.seq | apply vcF.region | apply vcF.skip | apply vcF.block | apply vcF.exit | apply vcF.ret | apply vcF.loop | apply seqF.e | apply seqF.r | apply blkF.nn | apply blkF.e | apply blkF.r | apply blkF.o rfl)
| ((with_reducible apply opsF.call); case hx => exact tAG)
| ((with_reducible apply opsF.want); (case hg => exact tEV); case hb => exact tNB)
| ((with_reducible apply opsF.skip); (case hg => exact tEV); case hb => exact tNB)
| (first | ((with_reducible apply opsF.case); case hg => exact tEV) | ((with_reducible apply vcF.cond); case hx => exact tEV)) <;> ((intro hc; try simp only [Int.reduceLT, Int.reduceLE, Int.reduceEq, Int.reduceNe, Int.cast_ofNat_Int, Int.reduceNeg, reduceCtorEq, ne_eq, ge_iff_le, gt_iff_lt, beq_iff_eq, beq_eq_false_iff_ne, bne_iff_ne, bne_eq_false_iff_eq, nrm, *] at hc) <;> try (exfalso; omega))
| ((with_reducible apply opsF.und); case hg => rfl)
| ((with_reducible first | apply retF.r | apply retF.nn); case hv => exact tRS)
| ((refine Call.use (ha _) ?_))
| fail)
      all_goals rfl
    · have hcw2 := hcw
      rw [wantN_eq] at hcw2
      generalize wantN a = wn at *
      repeat' (first
| ((with_reducible apply opsF.op rfl); (case hs => exact is_iaL tEV tEV (by omega) hwr))
| (refine vcF.cut3 (a := .seq (.region _) (.cond (.tmp 56) _ .skip)) (fun σ h' => ∃ x : CK, ∃ tk, RegT x i c a σ ∧ σ 14 = .list 1 (srows (stopL i a)) tk ∧ PX x (newC [104] [] (List.replicate i ab) []) [] h') ?_ ?_)
| ((with_reducible apply opsF.op rfl); case hs => first | exact tHT | exact tHS)
| (with_reducible first | apply opsF.nil | apply seqF.nn | apply vcF.seq | apply vcF.region | apply vcF.skip | apply vcF.block | apply vcF.exit | apply vcF.ret | apply vcF.loop | apply seqF.e | apply seqF.r | apply blkF.nn | apply blkF.e | apply blkF.r | apply blkF.o rfl)
| ((with_reducible apply opsF.call); case hx => exact tAG)
| ((with_reducible apply opsF.want); (case hg => exact tEV); case hb => exact tNB)
| ((with_reducible apply opsF.skip); (case hg => exact tEV); case hb => exact tNB)
| (first | ((with_reducible apply opsF.case); case hg => exact tEV) | ((with_reducible apply vcF.cond); case hx => exact tEV)) <;> ((intro hc; try simp only [Int.reduceLT, Int.reduceLE, Int.reduceEq, Int.reduceNe, Int.cast_ofNat_Int, Int.reduceNeg, reduceCtorEq, ne_eq, ge_iff_le, gt_iff_lt, beq_iff_eq, beq_eq_false_iff_ne, bne_iff_ne, bne_eq_false_iff_eq, nrm, *] at hc) <;> try (exfalso; omega))
| ((with_reducible apply opsF.und); case hg => rfl)
| ((with_reducible first | apply retF.r | apply retF.nn); case hv => exact tRS)
| ((refine hnew.mono fun v h2' hp => ?_); obtain ⟨x, rfl, PX0, F0⟩ := hp)
| fail)
      rotate_right
      · clear hnew hwr
        rintro σ h1' ⟨x, tk, ⟨q7, q8, q11, q13⟩, q14, PX0⟩
        obtain ⟨p, hid⟩ := stop_idle i a hkb.1 hkb.2
        obtain ⟨hLl, hL7⟩ := stopL_len i a
        have hin0 := newC_in [104] [] (List.replicate i ab) [] (by simp) (by simp) (by intro t ht; rw [(List.mem_replicate.1 ht).2]; decide) (by simp; omega)
        generalize newC [104] [] (List.replicate i ab) [] = s0 at *
        generalize stopL i a = L at *
        repeat' (first
| ((with_reducible apply opsF.op rfl); case hs => first | exact tHT | exact tHS)
| (with_reducible first | apply opsF.nil | apply seqF.nn | apply vcF.seq | apply vcF.region | apply vcF.skip | apply vcF.block | apply vcF.exit | apply vcF.ret | apply vcF.loop | apply seqF.e | apply seqF.r | apply blkF.nn | apply blkF.e | apply blkF.r | apply blkF.o rfl)
| ((with_reducible apply opsF.call); case hx => exact tAG)
| ((with_reducible apply opsF.want); (case hg => exact tEV); case hb => exact tNB)
| ((with_reducible apply opsF.skip); (case hg => exact tEV); case hb => exact tNB)
| (first | ((with_reducible apply opsF.case); case hg => exact tEV) | ((with_reducible apply vcF.cond); case hx => exact tEV)) <;> ((intro hc; try simp only [Int.reduceLT, Int.reduceLE, Int.reduceEq, Int.reduceNe, Int.cast_ofNat_Int, Int.reduceNeg, reduceCtorEq, ne_eq, ge_iff_le, gt_iff_lt, beq_iff_eq, beq_eq_false_iff_ne, bne_iff_ne, bne_eq_false_iff_eq, nrm, *] at hc) <;> try (exfalso; omega))
| ((with_reducible apply opsF.und); case hg => rfl)
| ((with_reducible first | apply retF.r | apply retF.nn); case hv => exact tRS))
        refine LpF.ind rfl (fun j : Nat => L.length - j) (fun j σ hh => PX x (feeds s0 (L.take j)) [] hh ∧ (feeds s0 (L.take j)).In (j * 7) ∧ RegT x i c a σ ∧ σ 14 = .list 1 (srows L) tk ∧ σ 16 = .v (.int .i64 (j : Nat)) ∧ j ≤ L.length) ?_ (i := 0) ⟨PX0, hin0, ⟨q7, q8, q11, q13⟩, q14, rfl, Nat.zero_le _⟩
        clear q7 q8 q11 q13 q14 PX0 hin0 q2 q9 q10
        rintro j σ hh ⟨PXj, hinj, ⟨q7, q8, q11, q13⟩, q14, q16, hj⟩
        rcases Nat.lt_or_ge j L.length with hlt | hge
        · obtain ⟨b, hb⟩ : ∃ b, L[j]? = some b := ⟨_, List.getElem?_eq_getElem hlt⟩
          have hb7 := hL7 b (List.mem_of_getElem? hb)
          have hfd := fun tb => px_feed hM x _ [] (j * 7) b tb hh PXj hinj (by omega)
          have hin1 := hinj.feed b
          rw [← feeds_take hb] at hfd hin1
          rw [hb7, show j * 7 + 7 = (j + 1) * 7 by omega] at hin1
          have hgb : (srows L)[j]? = some [.v (.string (bs b))] := by rw [xg, hb]; rfl
          clear PXj hinj hid
          repeat' (first
| ((with_reducible apply opsF.op rfl); case hs => first | exact tHT | exact tHS)
| (with_reducible first | apply opsF.nil | apply seqF.nn | apply vcF.seq | apply vcF.region | apply vcF.skip | apply vcF.block | apply vcF.exit | apply vcF.ret | apply vcF.loop | apply seqF.e | apply seqF.r | apply blkF.nn | apply blkF.e | apply blkF.r | apply blkF.o rfl)
| ((with_reducible apply opsF.call); case hx => exact tAG)
| ((with_reducible apply opsF.want); (case hg => exact tEV); case hb => exact tNB)
| ((with_reducible apply opsF.skip); (case hg => exact tEV); case hb => exact tNB)
| (first | ((with_reducible apply opsF.case); case hg => exact tEV) | ((with_reducible apply vcF.cond); case hx => exact tEV)) <;> ((intro hc; try simp only [Int.reduceLT, Int.reduceLE, Int.reduceEq, Int.reduceNe, Int.cast_ofNat_Int, Int.reduceNeg, reduceCtorEq, ne_eq, ge_iff_le, gt_iff_lt, beq_iff_eq, beq_eq_false_iff_ne, bne_iff_ne, bne_eq_false_iff_eq, nrm, *] at hc) <;> try (exfalso; omega))
| ((with_reducible apply opsF.und); case hg => rfl)
| ((with_reducible first | apply retF.r | apply retF.nn); case hv => exact tRS)
| ((refine (hfd _).mono fun v h3' hp => ?_); obtain ⟨PX2, F2⟩ := hp)
| fail)
          all_goals exact ⟨j + 1, by omega, PX2, hin1, ⟨q7, q8, q11, q13⟩, q14, rfl, by omega⟩
        · rw [List.take_of_length_le hge] at PXj hinj
          generalize feeds s0 L = S at *
          have PX2 : PX x ({ S with out := S.out.drop 0 } : CS) [] hh := PXj
          have hol := hinj.out
          clear PXj
          repeat' (first
| ((with_reducible apply opsF.op rfl); case hs => first | exact tHT | exact tHS)
| (with_reducible first | apply opsF.nil | apply seqF.nn | apply vcF.seq | apply vcF.region | apply vcF.skip | apply vcF.block | apply vcF.exit | apply vcF.ret | apply vcF.loop | apply seqF.e | apply seqF.r | apply blkF.nn | apply blkF.e | apply blkF.r | apply blkF.o rfl)
| ((with_reducible apply opsF.call); case hx => exact tAG)
| ((with_reducible apply opsF.want); (case hg => exact tEV); case hb => exact tNB)
| ((with_reducible apply opsF.skip); (case hg => exact tEV); case hb => exact tNB)
| (first | ((with_reducible apply opsF.case); case hg => exact tEV) | ((with_reducible apply vcF.cond); case hx => exact tEV)) <;> ((intro hc; try simp only [Int.reduceLT, Int.reduceLE, Int.reduceEq, Int.reduceNe, Int.cast_ofNat_Int, Int.reduceNeg, reduceCtorEq, ne_eq, ge_iff_le, gt_iff_lt, beq_iff_eq, beq_eq_false_iff_ne, bne_iff_ne, bne_eq_false_iff_eq, nrm, *] at hc) <;> try (exfalso; omega))
| ((with_reducible apply opsF.und); case hg => rfl)
| ((with_reducible first | apply retF.r | apply retF.nn); case hv => exact tRS))
          refine LpF.ind rfl (fun q : Nat => S.out.length - q) (fun q σ hh => PX x ({ S with out := S.out.drop q } : CS) [] hh ∧ RegT x i c a σ ∧ q ≤ S.out.length) ?_ (i := 0) ⟨PX2, ⟨q7, q8, q11, q13⟩, Nat.zero_le _⟩
          clear q7 q8 q11 q13 q14 q16 PX2
          rintro q σ hh ⟨PXq, ⟨q7, q8, q11, q13⟩, hq⟩
          rcases Nat.lt_or_ge q S.out.length with hlt | hge2
          · obtain ⟨t, ht⟩ : ∃ t, S.out[q]? = some t := ⟨_, List.getElem?_eq_getElem hlt⟩
            have hps := px_some (w0 := W) x _ [] t (S.out.drop (q + 1)) hh PXq (drop_step ht)
            have e : ({ S with out := S.out.drop q } : CS).pop = { S with out := S.out.drop (q + 1) } := by unfold CS.pop; dsimp only; rw [List.tail_drop]
            rw [e] at hps
            clear PXq e hid
            repeat' (first
| ((with_reducible apply opsF.op rfl); case hs => first | exact tHT | exact tHS)
| (with_reducible first | apply opsF.nil | apply seqF.nn | apply vcF.seq | apply vcF.region | apply vcF.skip | apply vcF.block | apply vcF.exit | apply vcF.ret | apply vcF.loop | apply seqF.e | apply seqF.r | apply blkF.nn | apply blkF.e | apply blkF.r | apply blkF.o rfl)
| ((with_reducible apply opsF.call); case hx => exact tAG)
| ((with_reducible apply opsF.want); (case hg => exact tEV); case hb => exact tNB)
| ((with_reducible apply opsF.skip); (case hg => exact tEV); case hb => exact tNB)
| (first | ((with_reducible apply opsF.case); case hg => exact tEV) | ((with_reducible apply vcF.cond); case hx => exact tEV)) <;> ((intro hc; try simp only [Int.reduceLT, Int.reduceLE, Int.reduceEq, Int.reduceNe, Int.cast_ofNat_Int, Int.reduceNeg, reduceCtorEq, ne_eq, ge_iff_le, gt_iff_lt, beq_iff_eq, beq_eq_false_iff_ne, bne_iff_ne, bne_eq_false_iff_eq, nrm, *] at hc) <;> try (exfalso; omega))
| ((with_reducible apply opsF.und); case hg => rfl)
| ((with_reducible first | apply retF.r | apply retF.nn); case hv => exact tRS)
| ((refine hps.mono fun v h3' hp => ?_); obtain ⟨rfl, PX3, F3⟩ := hp)
| fail)
            all_goals exact ⟨q + 1, by omega, PX3, ⟨q7, q8, q11, q13⟩, by omega⟩
          · have e : ({ S with out := S.out.drop q } : CS) = { S with out := [] } := by rw [List.drop_eq_nil_of_le hge2]
            rw [e] at PXq
            have hid2 : Idle ({ S with out := [] } : CS) (stopSt a) p (List.replicate i ab) (List.replicate i 0) := ⟨hid.ov, hid.w, hid.c, hid.n, hid.st, hid.p, hid.tg, hid.cs⟩
            have hin2 := hinj.outs [] (Nat.zero_le _)
            have hout2 : ({ S with out := [] } : CS).out = [] := rfl
            clear hid e
            generalize ({ S with out := [] } : CS) = S2 at *
            have hn1 := px_none (w0 := W) x S2 [] hh PXq hout2
            have ho1 := px_over (w0 := W) x S2 [] hh PXq
            rw [hid2.ov] at ho1
            obtain ⟨f1, f2, f3⟩ := stop_fed hid2 (by match a with | 0 => decide | 1 => decide | 2 => decide | 3 => decide | n + 4 => exact (by decide : (5 : Nat) ≠ 3)) c hcb.1 hcb.2 hcw2
            rw [hout2, List.nil_append] at f2
            have hdc := fun h => dec_call (w0 := W) c h (by omega)
            have hbl : (badL c).length ≤ 40 := by
              have := udecS_20 c (by omega)
              simp only [badL, List.length_append, List.length_cons, List.length_nil]; omega
            have hudl := udecS_20 c (by omega)
            have hfd := fun tb => px_feed hM x S2 [] _ (badL c) tb hh PXq hin2 (by omega)
            have f4 : (S2.feed (badL c)).tg.length = i := by
              rw [(feed_fk S2 (badL c) hid2.ov (hin2.ok hid2.ov).1).tg, hid2.tg, List.length_replicate]
            generalize S2.feed (badL c) = S3 at *
            unfold badL at hfd
            clear hid2 hin2 hcw2 hbl
            generalize udecS c = D at *
            repeat' (first
| ((with_reducible apply opsF.op rfl); case hs => first | exact tHT | exact tHS)
| (with_reducible first | apply opsF.nil | apply seqF.nn | apply vcF.seq | apply vcF.region | apply vcF.skip | apply vcF.block | apply vcF.exit | apply vcF.ret | apply vcF.loop | apply seqF.e | apply seqF.r | apply blkF.nn | apply blkF.e | apply blkF.r | apply blkF.o rfl)
| ((with_reducible apply opsF.call); case hx => exact tAG)
| ((with_reducible apply opsF.want); (case hg => exact tEV); case hb => exact tNB)
| ((with_reducible apply opsF.skip); (case hg => exact tEV); case hb => exact tNB)
| (first | ((with_reducible apply opsF.case); case hg => exact tEV) | ((with_reducible apply vcF.cond); case hx => exact tEV)) <;> ((intro hc; try simp only [Int.reduceLT, Int.reduceLE, Int.reduceEq, Int.reduceNe, Int.cast_ofNat_Int, Int.reduceNeg, reduceCtorEq, ne_eq, ge_iff_le, gt_iff_lt, beq_iff_eq, beq_eq_false_iff_ne, bne_iff_ne, bne_eq_false_iff_eq, nrm, *] at hc) <;> try (exfalso; omega))
| ((with_reducible apply opsF.und); case hg => rfl)
| ((with_reducible first | apply retF.r | apply retF.nn); case hv => exact tRS)
| ((refine Call.use hn1 ?_))
| ((refine Call.use ho1 ?_))
| ((refine Call.use (hdc _) ?_))
| ((refine (hfd _).mono fun v h3' hp => ?_); obtain ⟨PX3, F3⟩ := hp; have hps := px_some (w0 := W) x S3 [] [81, 85, 73, 84, 13, 10] [] h3' PX3 f2)
| ((refine hps.mono fun v h4' hp => ?_); obtain ⟨rfl, PX4, F4⟩ := hp; have hcd := px_codes (w0 := W) x S3.pop [] h4' PX4 (by show S3.tg.length ≤ _; omega); rw [show S3.pop.codes = S3.codes from rfl, f3] at hcd)
| ((refine Call.use hcd ?_))
| fail)
            have hn4 := px_none (w0 := W) x S3.pop [] h4' PX4 (by show S3.out.tail = []; rw [f2]; rfl)
            have ho4 := px_over (w0 := W) x S3.pop [] h4' PX4
            rw [show S3.pop.over = true from f1] at ho4
            have nl := nrow_len (List.replicate i (c : Int))
            rw [List.length_replicate] at nl
            clear hn1 ho1 hdc hfd hps hcd PX3 PX4 PXq
            refine LpF.ind rfl (fun u : Nat => i - u) (fun u σ h5 => h5 = h4' ∧ RegT x i c a σ ∧ σ 19 = .v (.string (bs [81, 85, 73, 84, 13, 10])) ∧ σ 20 = .v (.bool true) ∧ σ 21 = .list 1 (nrow (List.replicate i (c : Int))) .no ∧ σ 22 = .v (.int .i64 (u : Nat)) ∧ u ≤ i) ?_ (i := 0) ⟨rfl, ⟨q7, q8, q11, q13⟩, rfl, rfl, rfl, rfl, Nat.zero_le _⟩
            clear q7 q8 q11 q13
            rintro u σ h5 ⟨rfl, ⟨q7, q8, q11, q13⟩, q19, q20, q21, q22, hu⟩
            rcases Nat.lt_or_ge u i with hlt3 | hge3
            · have hr : (nrow (List.replicate i (c : Int)))[u]? = some [.v (.int .i64 c)] := by
                rw [nrow_at, List.getElem?_replicate, if_pos hlt3]; rfl
              clear hn4 ho4
              generalize nrow (List.replicate i (c : Int)) = NR at *
              repeat' (first
| ((with_reducible apply opsF.op rfl); case hs => first | exact tHT | exact tHS)
| (with_reducible first | apply opsF.nil | apply seqF.nn | apply vcF.seq | apply vcF.region | apply vcF.skip | apply vcF.block | apply vcF.exit | apply vcF.ret | apply vcF.loop | apply seqF.e | apply seqF.r | apply blkF.nn | apply blkF.e | apply blkF.r | apply blkF.o rfl)
| ((with_reducible apply opsF.call); case hx => exact tAG)
| ((with_reducible apply opsF.want); (case hg => exact tEV); case hb => exact tNB)
| ((with_reducible apply opsF.skip); (case hg => exact tEV); case hb => exact tNB)
| (first | ((with_reducible apply opsF.case); case hg => exact tEV) | ((with_reducible apply vcF.cond); case hx => exact tEV)) <;> ((intro hc; try simp only [Int.reduceLT, Int.reduceLE, Int.reduceEq, Int.reduceNe, Int.cast_ofNat_Int, Int.reduceNeg, reduceCtorEq, ne_eq, ge_iff_le, gt_iff_lt, beq_iff_eq, beq_eq_false_iff_ne, bne_iff_ne, bne_eq_false_iff_eq, nrm, *] at hc) <;> try (exfalso; omega))
| ((with_reducible apply opsF.und); case hg => rfl)
| ((with_reducible first | apply retF.r | apply retF.nn); case hv => exact tRS))
              all_goals exact ⟨u + 1, by omega, rfl, ⟨q7, q8, q11, q13⟩, q19, q20, q21, rfl, by omega⟩
            · generalize nrow (List.replicate i (c : Int)) = NR at *
              repeat' (first
| ((with_reducible apply opsF.op rfl); case hs => first | exact tHT | exact tHS)
| (with_reducible first | apply opsF.nil | apply seqF.nn | apply vcF.seq | apply vcF.region | apply vcF.skip | apply vcF.block | apply vcF.exit | apply vcF.ret | apply vcF.loop | apply seqF.e | apply seqF.r | apply blkF.nn | apply blkF.e | apply blkF.r | apply blkF.o rfl)
| ((with_reducible apply opsF.call); case hx => exact tAG)
| ((with_reducible apply opsF.want); (case hg => exact tEV); case hb => exact tNB)
| ((with_reducible apply opsF.skip); (case hg => exact tEV); case hb => exact tNB)
| (first | ((with_reducible apply opsF.case); case hg => exact tEV) | ((with_reducible apply vcF.cond); case hx => exact tEV)) <;> ((intro hc; try simp only [Int.reduceLT, Int.reduceLE, Int.reduceEq, Int.reduceNe, Int.cast_ofNat_Int, Int.reduceNeg, reduceCtorEq, ne_eq, ge_iff_le, gt_iff_lt, beq_iff_eq, beq_eq_false_iff_ne, bne_iff_ne, bne_eq_false_iff_eq, nrm, *] at hc) <;> try (exfalso; omega))
| ((with_reducible apply opsF.und); case hg => rfl)
| ((with_reducible first | apply retF.r | apply retF.nn); case hv => exact tRS)
| ((refine Call.use hn4 ?_))
| ((refine Call.use ho4 ?_))
| ((refine Call.use (ha _) ?_))
| fail)
              all_goals simp
      · refine ⟨?_⟩
        by_cases ha3 : a < 3
        · have hst := stopL_lt (k := i) ha3
          clear hnew hwr
          repeat' (first
| ((with_reducible apply opsF.op rfl); (case hs => exact is_slT (rows := srows [r220, r250, r250]) a tEV tEV rfl (by rw [srows_len]; exact ha3) hst))
| ((with_reducible apply opsF.op rfl); case hs => first | exact tHT | exact tHS)
| (with_reducible first | apply opsF.nil | apply seqF.nn | apply vcF.seq | apply vcF.region | apply vcF.skip | apply vcF.block | apply vcF.exit | apply vcF.ret | apply vcF.loop | apply seqF.e | apply seqF.r | apply blkF.nn | apply blkF.e | apply blkF.r | apply blkF.o rfl)
| ((with_reducible apply opsF.call); case hx => exact tAG)
| ((with_reducible apply opsF.want); (case hg => exact tEV); case hb => exact tNB)
| ((with_reducible apply opsF.skip); (case hg => exact tEV); case hb => exact tNB)
| (first | ((with_reducible apply opsF.case); case hg => exact tEV) | ((with_reducible apply vcF.cond); case hx => exact tEV)) <;> ((intro hc; try simp only [Int.reduceLT, Int.reduceLE, Int.reduceEq, Int.reduceNe, Int.cast_ofNat_Int, Int.reduceNeg, reduceCtorEq, ne_eq, ge_iff_le, gt_iff_lt, beq_iff_eq, beq_eq_false_iff_ne, bne_iff_ne, bne_eq_false_iff_eq, nrm, *] at hc) <;> try (exfalso; omega))
| ((with_reducible apply opsF.und); case hg => rfl)
| ((with_reducible first | apply retF.r | apply retF.nn); case hv => exact tRS)
| (with_reducible apply LpF.unfold rfl)
| fail)
          all_goals exact ⟨x, .no, ⟨q7, q8, rfl, rfl⟩, rfl, PX0⟩
        · have PX1 : PX x (newC [104] [] (List.replicate i ab) []) [.full] h2' := by
            obtain ⟨tt, to, tl, tr, C, T1⟩ := PX0.k
            exact ⟨⟨tt, to, tl, tr, C, T1.full.perm (List.perm_append_comm (l₁ := [Tok.full]) (l₂ := [to, tl, tr]))⟩⟩
          generalize newC [104] [] (List.replicate i ab) [] = s0 at *
          have ha4 : a = 3 ∨ a = 4 := by omega
          clear hnew hwr PX0
          repeat' (first
| ((with_reducible apply opsF.op rfl); case hs => first | exact tHT | exact tHS)
| (with_reducible first | apply opsF.nil | apply seqF.nn | apply vcF.seq | apply vcF.region | apply vcF.skip | apply vcF.block | apply vcF.exit | apply vcF.ret | apply vcF.loop | apply seqF.e | apply seqF.r | apply blkF.nn | apply blkF.e | apply blkF.r | apply blkF.o rfl)
| ((with_reducible apply opsF.call); case hx => exact tAG)
| ((with_reducible apply opsF.want); (case hg => exact tEV); case hb => exact tNB)
| ((with_reducible apply opsF.skip); (case hg => exact tEV); case hb => exact tNB)
| (first | ((with_reducible apply opsF.case); case hg => exact tEV) | ((with_reducible apply vcF.cond); case hx => exact tEV)) <;> ((intro hc; try simp only [Int.reduceLT, Int.reduceLE, Int.reduceEq, Int.reduceNe, Int.cast_ofNat_Int, Int.reduceNeg, reduceCtorEq, ne_eq, ge_iff_le, gt_iff_lt, beq_iff_eq, beq_eq_false_iff_ne, bne_iff_ne, bne_eq_false_iff_eq, nrm, *] at hc) <;> try (exfalso; omega))
| ((with_reducible apply opsF.und); case hg => rfl)
| ((with_reducible first | apply retF.r | apply retF.nn); case hv => exact tRS))
          refine LpF.ind rfl (fun j : Nat => i - j) (fun j σ hh => ∃ tk, PX x s0 [tk] hh ∧ RegT x i c a σ ∧ σ 14 = .list 1 (srows ([r220, r250, r250] ++ List.replicate j r250)) tk ∧ σ 15 = .v (.int .i64 (j : Nat)) ∧ j ≤ i) ?_ (i := 0) ⟨_, PX1, ⟨q7, q8, rfl, rfl⟩, rfl, rfl, Nat.zero_le _⟩
          clear q2 q7 q8 q9 q10 T PX1
          rintro j σ hh ⟨tk, PXj, ⟨q7, q8, q11, q13⟩, q14, q15, hj⟩
          obtain ⟨t', h', hap, PX'⟩ := PXj.app
          have hrl : ([r220, r250, r250] ++ List.replicate j r250).length = 3 + j := by simp; omega
          rcases Nat.lt_or_ge j i with hlt | hge
          · have e : srows ([r220, r250, r250] ++ List.replicate (j + 1) r250) = srows ([r220, r250, r250] ++ List.replicate j r250) ++ [[.v (.string (bs [50, 53, 48, 32, 120, 13, 10]))]] := by rw [List.replicate_succ', ← List.append_assoc, srows_app]; rfl
            generalize [r220, r250, r250] ++ List.replicate j r250 = Lj at *
            repeat' (first
| ((with_reducible apply opsF.op rfl); case hs => first | exact tHT | exact tHS)
| (with_reducible first | apply opsF.nil | apply seqF.nn | apply vcF.seq | apply vcF.region | apply vcF.skip | apply vcF.block | apply vcF.exit | apply vcF.ret | apply vcF.loop | apply seqF.e | apply seqF.r | apply blkF.nn | apply blkF.e | apply blkF.r | apply blkF.o rfl)
| ((with_reducible apply opsF.call); case hx => exact tAG)
| ((with_reducible apply opsF.want); (case hg => exact tEV); case hb => exact tNB)
| ((with_reducible apply opsF.skip); (case hg => exact tEV); case hb => exact tNB)
| (first | ((with_reducible apply opsF.case); case hg => exact tEV) | ((with_reducible apply vcF.cond); case hx => exact tEV)) <;> ((intro hc; try simp only [Int.reduceLT, Int.reduceLE, Int.reduceEq, Int.reduceNe, Int.cast_ofNat_Int, Int.reduceNeg, reduceCtorEq, ne_eq, ge_iff_le, gt_iff_lt, beq_iff_eq, beq_eq_false_iff_ne, bne_iff_ne, bne_eq_false_iff_eq, nrm, *] at hc) <;> try (exfalso; omega))
| ((with_reducible apply opsF.und); case hg => rfl)
| ((with_reducible first | apply retF.r | apply retF.nn); case hv => exact tRS))
            all_goals exact ⟨j + 1, by omega, t', PX', ⟨q7, q8, q11, q13⟩, by rw [e]; rfl, rfl, by omega⟩
          · obtain rfl : j = i := by omega
            have e3 : a = 3 → srows (stopL j a) = srows ([r220, r250, r250] ++ List.replicate j r250) := fun e => by subst e; rfl
            have e4 : a = 4 → srows (stopL j a) = srows ([r220, r250, r250] ++ List.replicate j r250) ++ [[.v (.string (bs [51, 53, 52, 32, 120, 13, 10]))]] := fun e => by
              subst e
              show srows ([r220, r250, r250] ++ List.replicate j r250 ++ [r354]) = _
              rw [srows_app]; rfl
            have PX0 : ∀ {tk : Tok} {h : AH}, PX x s0 [tk] h → PX x s0 [] h := fun {tk h} H => by
              obtain ⟨tt, to, tl, tr, C, T1⟩ := H.k
              exact ⟨⟨tt, to, tl, tr, C, (T1.perm (List.perm_append_comm (l₁ := [to, tl, tr]) (l₂ := [tk]))).tail⟩⟩
            generalize [r220, r250, r250] ++ List.replicate j r250 = Lj at *
            repeat' (first
| ((with_reducible apply opsF.op rfl); case hs => first | exact tHT | exact tHS)
| (with_reducible first | apply opsF.nil | apply seqF.nn | apply vcF.seq | apply vcF.region | apply vcF.skip | apply vcF.block | apply vcF.exit | apply vcF.ret | apply vcF.loop | apply seqF.e | apply seqF.r | apply blkF.nn | apply blkF.e | apply blkF.r | apply blkF.o rfl)
| ((with_reducible apply opsF.call); case hx => exact tAG)
| ((with_reducible apply opsF.want); (case hg => exact tEV); case hb => exact tNB)
| ((with_reducible apply opsF.skip); (case hg => exact tEV); case hb => exact tNB)
| (first | ((with_reducible apply opsF.case); case hg => exact tEV) | ((with_reducible apply vcF.cond); case hx => exact tEV)) <;> ((intro hc; try simp only [Int.reduceLT, Int.reduceLE, Int.reduceEq, Int.reduceNe, Int.cast_ofNat_Int, Int.reduceNeg, reduceCtorEq, ne_eq, ge_iff_le, gt_iff_lt, beq_iff_eq, beq_eq_false_iff_ne, bne_iff_ne, bne_eq_false_iff_eq, nrm, *] at hc) <;> try (exfalso; omega))
| ((with_reducible apply opsF.und); case hg => rfl)
| ((with_reducible first | apply retF.r | apply retF.nn); case hv => exact tRS))
            all_goals first
              | exact ⟨x, _, ⟨q7, q8, q11, q13⟩, by rw [e4 (by omega)]; rfl, PX0 PX'⟩
              | exact ⟨x, _, ⟨q7, q8, q11, q13⟩, by rw [e3 (by omega)]; exact q14, PX0 PXj⟩
theorem u16_wf {n : Int} (h : (Lit.int .u16 n).wf = true) : 0 ≤ n ∧ n ≤ 65535 := by
  simp [Lit.wf, IntKind.min, IntKind.max, IntKind.signed, IntKind.bits] at h
  exact ⟨by omega, by omega⟩
theorem sendStops_int (W : World) (hM : MaxLen W) (n code place : Int) (h1 : 0 ≤ n ∧ n ≤ 255) (h2 : 0 ≤ code ∧ code ≤ 65535) (h3 : 0 ≤ place ∧ place ≤ 255) :
    Call P W law07_SendStops [.v (.int .u8 n), .v (.int .u16 code), .v (.int .u8 place)] AH.start fun v _ => v = .v (.bool true) := by
  obtain ⟨n, rfl⟩ := Int.eq_ofNat_of_zero_le h1.1
  obtain ⟨code, rfl⟩ := Int.eq_ofNat_of_zero_le h2.1
  obtain ⟨place, rfl⟩ := Int.eq_ofNat_of_zero_le h3.1
  exact sendStops_main W hM n code place (by omega) (by omega) (by omega)
theorem law_SendStops (W : World) (hs : W.ShapedOpen P) (hL : laidMetH P Go.Proofs.YtlmgpkopcgcbgaaDoor.Rows.sendStopsRow.laid W)
    (x0 : (Ty.int .u8).D) (h0 : (Ty.int .u8).wf x0) (g0 : (Ty.int .u8).fit 140737488351232 x0) (x1 : (Ty.int .u16).D) (h1 : (Ty.int .u16).wf x1) (g1 : (Ty.int .u16).fit 140737488351232 x1) (x2 : (Ty.int .u8).D) (h2 : (Ty.int .u8).wf x2) (g2 : (Ty.int .u8).fit 140737488351232 x2) :
    Call P W law07_SendStops [(Ty.int .u8).val x0, (Ty.int .u16).val x1, (Ty.int .u8).val x2] AH.start fun v _ => v = .v (.bool true) := by
  exact sendStops_int W (maxLen_of hs) x0 x1 x2 (u8_wf h0) (u16_wf h1) (u8_wf h2)
end Go.Abs.F
