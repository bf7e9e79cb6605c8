/- What the proof needs, part 20: Layer 11: Decode; Layer 11: the same messages. -/
import Derived.Test.YtnpdmkbfphcioaaGreatDoorQTurn19
import Derived.Test.YtnpdmkbfphcioaaGreatDoorQTurn15
import Derived.Test.YtnpdmkbfphcioaaGreatDoorQTurn11
/- Layer 11: Decode. -/
namespace Go.Abs.F
open Go Go.Abs
set_option maxRecDepth 10000
set_option maxHeartbeats 20000000
set_option linter.unusedSimpArgs false
set_option linter.unusedVariables false
variable {w0 : World}
structure Stp {α : Type} (s : L8) (bad : Bool) (o : Option α) (r : L8) (bad' : Bool) : Prop where
  len : r.length ≤ s.length
  on : bad = true → bad' = true
  no : bad' = true → bad = true ∨ o = none
  yes : bad' = false → bad = false ∧ o.isSome = true
structure IsP {α : Type} (o : Option (α × L8)) (n : α) (r : L8) : Prop where
  is : ∀ x, o = some x → x = (n, r)
theorem stp_of {α : Type} {s : L8} {bad : Bool} {o : Option α} : Stp s bad o (cutB 10 s).2.1 (bad || !o.isSome) :=
  ⟨(cutB_le 10 s).2, fun h => by rw [h]; rfl, fun h => by cases o <;> simp_all, fun h => by simp_all⟩
theorem num_step (hP : PowTab w0) (hE : ErrVars w0) (id : Nat) (k s : L8) (bad : Bool) (hl : s.length ≤ 1000000000) (hk : k.length ≤ 1000) : ∃ r bad', Stp s bad (numF k s) r bad' ∧ ∀ (h : AH), h.objs id = some (rdC s bad) → id < h.n →
    Call P w0 env_reader_num [.ptr id 0, .v (.string (bs k))] h (fun v h' => ∃ n : Int, v = .v (.int .i64 n) ∧ h' = h.set id (rdC r bad') ∧ IsP (numF k s) n r) :=
  ⟨_, _, stp_of, fun h ho hlt => (rnum_call hP hE id k s bad h ho hlt hl hk).mono fun v h' ⟨n, e1, e2, e3⟩ => ⟨n, e1, e2, ⟨e3⟩⟩⟩
theorem val_step (id : Nat) (k s : L8) (bad : Bool) (hl : s.length ≤ 1000000000) (hk : k.length ≤ 1000) : ∃ r bad' v, Stp s bad (fldO k s) r bad' ∧ IsP (fldO k s) v r ∧ v.length ≤ s.length ∧ (s ≠ [] → r.length < s.length) ∧ ∀ (h : AH), h.objs id = some (rdC s bad) → id < h.n →
    Call P w0 env_reader_value [.ptr id 0, .v (.string (bs k))] h (fun u h' => u = .v (.string (bs v)) ∧ h' = h.set id (rdC r bad')) :=
  ⟨_, _, valR k s, stp_of, ⟨fun x hx => fldO_val hx⟩, valR_len k s, fun hs => cutB_len 10 s hs, fun h ho hlt => rvalue_call id k s bad h ho hlt (by omega) hk⟩
/-- How far a text is read. -/
def Got (b : L8) (bad : Bool) (o : Option Msg) : Prop := (bad = true ∧ decM b = none) ∨ (bad = false ∧ decM b = o)
theorem Got.step {α : Type} {b s r : L8} {bad bad' : Bool} {o : Option (α × L8)} {f : α × L8 → Option Msg} {n : α} (g : Got b bad (o.bind f)) (st : Stp s bad o r bad') (ip : IsP o n r) : Got b bad' (f (n, r)) := by
  rcases g with ⟨h1, h2⟩ | ⟨h1, h2⟩
  · exact .inl ⟨st.on h1, h2⟩
  · cases hb : bad' with
    | true =>
      rcases st.no hb with h | h
      · rw [h] at h1; cases h1
      · rw [h] at h2; exact .inl ⟨rfl, h2⟩
    | false =>
      have := (st.yes hb).2
      cases o with
      | none => cases this
      | some x =>
        have hx := ip.is x rfl
        subst hx
        exact .inr ⟨rfl, h2⟩
structure HGot (b : L8) (bad : Bool) (o : Option Msg) : Prop where
  g : Got b bad o
def contR (n1 n2 n3 n4 n5 : Int) (f : L8) (rc : List L8) (s : L8) : Option Msg :=
  (fldO K8 s).bind fun x8 => (endO x8.2).bind fun x9 => (bdO x9).bind fun x10 => finM (n1, n2, n3, n4, n5, f, rc, mkO x8.1, x10)
theorem got_head {b s1 s2 s3 s4 s5 s6 : L8} {b1 b2 b3 b4 b5 b6 : Bool} {n1 n2 n3 n4 n5 : Int} {f : L8}
    (S1 : Stp b false (numF K1 b) s1 b1) (S2 : Stp s1 b1 (numF K2 s1) s2 b2) (S3 : Stp s2 b2 (numF K3 s2) s3 b3) (S4 : Stp s3 b3 (numF K4 s3) s4 b4) (S5 : Stp s4 b4 (numF K5 s4) s5 b5) (S6 : Stp s5 b5 (fldO K6 s5) s6 b6)
    (P1 : IsP (numF K1 b) n1 s1) (P2 : IsP (numF K2 s1) n2 s2) (P3 : IsP (numF K3 s2) n3 s3) (P4 : IsP (numF K4 s3) n4 s4) (P5 : IsP (numF K5 s4) n5 s5) (P6 : IsP (fldO K6 s5) f s6) :
    HGot b b6 ((rcsO s6).bind fun x7 => contR n1 n2 n3 n4 n5 f x7.1 x7.2) := by
  have g0 : Got b false (decM b) := .inr ⟨rfl, rfl⟩
  have g1 := Got.step (f := fun x1 => (numF K2 x1.2).bind fun x2 => (numF K3 x2.2).bind fun x3 => (numF K4 x3.2).bind fun x4 => (numF K5 x4.2).bind fun x5 => (fldO K6 x5.2).bind fun x6 => (rcsO x6.2).bind fun x7 => contR x1.1 x2.1 x3.1 x4.1 x5.1 x6.1 x7.1 x7.2) g0 S1 P1
  have g2 := Got.step (f := fun x2 => (numF K3 x2.2).bind fun x3 => (numF K4 x3.2).bind fun x4 => (numF K5 x4.2).bind fun x5 => (fldO K6 x5.2).bind fun x6 => (rcsO x6.2).bind fun x7 => contR n1 x2.1 x3.1 x4.1 x5.1 x6.1 x7.1 x7.2) g1 S2 P2
  have g3 := Got.step (f := fun x3 => (numF K4 x3.2).bind fun x4 => (numF K5 x4.2).bind fun x5 => (fldO K6 x5.2).bind fun x6 => (rcsO x6.2).bind fun x7 => contR n1 n2 x3.1 x4.1 x5.1 x6.1 x7.1 x7.2) g2 S3 P3
  have g4 := Got.step (f := fun x4 => (numF K5 x4.2).bind fun x5 => (fldO K6 x5.2).bind fun x6 => (rcsO x6.2).bind fun x7 => contR n1 n2 n3 x4.1 x5.1 x6.1 x7.1 x7.2) g3 S4 P4
  have g5 := Got.step (f := fun x5 => (fldO K6 x5.2).bind fun x6 => (rcsO x6.2).bind fun x7 => contR n1 n2 n3 n4 x5.1 x6.1 x7.1 x7.2) g4 S5 P5
  exact ⟨Got.step (f := fun x6 => (rcsO x6.2).bind fun x7 => contR n1 n2 n3 n4 n5 x6.1 x7.1 x7.2) g5 S6 P6⟩
/-- A round of the targets. -/
theorem got_rcpt {b s r v : L8} {bad bad' : Bool} {acc : List L8} {K : List L8 → L8 → Option Msg} (g : HGot b bad ((rcsO s).bind fun x => K (acc ++ x.1) x.2)) (hb : bad = false) (hp : preB (K7 ++ [32]) s = true) (st : Stp s bad (fldO K7 s) r bad') (ip : IsP (fldO K7 s) v r) : HGot b bad' ((rcsO r).bind fun x => K ((acc ++ [v]) ++ x.1) x.2) := by
  refine ⟨?_⟩
  have e : ((rcsO s).bind fun x => K (acc ++ x.1) x.2) = (fldO K7 s).bind fun y => (rcsO y.2).bind fun x => K ((acc ++ [y.1]) ++ x.1) x.2 := by
    cases hf : fldO K7 s with
    | none => rw [rcsO_bad hp hf]; rfl
    | some y =>
      rw [rcsO_step (v := y.1) (r := y.2) hp hf]
      simp only [Option.bind_some]
      generalize rcsO y.2 = q
      cases q with
      | none => rfl
      | some z => simp
  have g := g.g
  rw [e] at g
  exact Got.step (f := fun y => (rcsO y.2).bind fun x => K ((acc ++ [y.1]) ++ x.1) x.2) g st ip
theorem got_rend {b s : L8} {bad : Bool} {acc : List L8} {K : List L8 → L8 → Option Msg} (g : HGot b bad ((rcsO s).bind fun x => K (acc ++ x.1) x.2)) (hp : bad = true ∨ preB (K7 ++ [32]) s = false) : HGot b bad (K acc s) := by
  rcases g.g with h | ⟨h1, h2⟩
  · exact ⟨.inl h⟩
  · rcases hp with h | h
    · rw [h] at h1; cases h1
    · rw [rcsO_stop h] at h2
      refine ⟨.inr ⟨h1, ?_⟩⟩
      rw [h2]
      simp
theorem mark_step (id : Nat) (s : L8) (bad : Bool) (hl : s.length ≤ 1000000000) : ∃ r bad' v, Stp s bad (fldO K8 s) r bad' ∧ IsP (fldO K8 s) v r ∧ v.length ≤ s.length ∧ ∀ (h : AH), h.objs id = some (rdC s bad) → id < h.n →
    Call P w0 env_reader_marks [.ptr id 0] h (fun u h' => (∃ tk, u = .list 1 (irows (mkO v)) tk) ∧ Ext (h.set id (rdC r bad')) h') :=
  ⟨_, _, valR K8 s, stp_of, ⟨fun x hx => fldO_val hx⟩, valR_len K8 s, fun h ho hlt => rmarks_call id s bad h ho hlt hl⟩
structure LinP (s : L8) (bad : Bool) (v r : L8) (b9 : Bool) : Prop where
  len : r.length ≤ s.length
  vlen : v.length ≤ s.length
  lt : s ≠ [] → r.length + 1 ≤ s.length
  on : bad = true → b9 = true
  no : b9 = true → bad = true ∨ (endO s = none ∧ (s ≠ [] → bdO s = none))
  yes : b9 = false → bad = false ∧ (v = [] → endO s = some r) ∧ (v ≠ [] → endO s = none) ∧ bdO s = (bdO r).map fun l => v :: l
theorem linP_of (s : L8) (bad : Bool) : LinP s bad (cutB 10 s).1 (cutB 10 s).2.1 (bad || !(cutB 10 s).2.2) := by
  have hl := cutB_le 10 s
  refine ⟨hl.2, hl.1, fun hs => cutB_len 10 s hs, fun h => by rw [h]; rfl, fun h => ?_, fun h => ?_⟩
  · cases bad with
    | true => exact .inl rfl
    | false =>
      refine .inr ?_
      rcases cutB_cases 10 s with ⟨h1, h2⟩ | ⟨a, r, h1, h3, h2⟩
      · refine ⟨?_, fun hs => bdO_miss hs h1⟩
        rw [endO, h2, if_neg (by simp)]
      · rw [h2] at h; simp at h
  · cases bad with
    | true => cases h
    | false =>
      rcases cutB_cases 10 s with ⟨h1, h2⟩ | ⟨a, r, h1, h3, h2⟩
      · rw [h2] at h; simp at h
      · rw [h2]
        refine ⟨rfl, fun hv => ?_, fun hv => ?_, ?_⟩
        · rw [endO, h2, if_pos ⟨rfl, hv⟩]
        · rw [endO, h2, if_neg (fun hh => hv hh.2)]
        · rw [h1, bdO_hit h3]
theorem line_step (id : Nat) (s : L8) (bad : Bool) (hl : s.length ≤ 1000000000) : ∃ r b9 v, LinP s bad v r b9 ∧ ∀ (h : AH), h.objs id = some (rdC s bad) → id < h.n →
    Call P w0 env_reader_line [.ptr id 0] h (fun u h' => u = .v (.string (bs v)) ∧ h' = h.set id (rdC r b9)) :=
  ⟨_, _, _, linP_of s bad, fun h ho hlt => rline_call id s bad h ho hlt (by omega)⟩
theorem got_end {b s v r : L8} {bad b9 bad' : Bool} {f : L8 → Option Msg} (g : HGot b bad ((endO s).bind f)) (p : LinP s bad v r b9) (h1 : b9 = true → bad' = true) (h2 : v ≠ [] → bad' = true) (h3 : b9 = false → v = [] → bad' = false) : HGot b bad' (f r) := by
  rcases g.g with ⟨k1, k2⟩ | ⟨k1, k2⟩
  · exact ⟨.inl ⟨h1 (p.on k1), k2⟩⟩
  · cases hb : b9 with
    | true =>
      rcases p.no hb with h | h
      · rw [h] at k1; cases k1
      · rw [h.1] at k2; exact ⟨.inl ⟨h1 hb, k2⟩⟩
    | false =>
      obtain ⟨_, y1, y2, _⟩ := p.yes hb
      by_cases hv : v = []
      · rw [y1 hv] at k2; exact ⟨.inr ⟨h3 hb hv, k2⟩⟩
      · rw [y2 hv] at k2; exact ⟨.inl ⟨h2 hv, k2⟩⟩
theorem got_body {b s v r : L8} {bad b9 : Bool} {acc : List L8} {K : List L8 → Option Msg} (g : HGot b bad ((bdO s).bind fun x => K (acc ++ x))) (hs : s ≠ []) (p : LinP s bad v r b9) : HGot b b9 ((bdO r).bind fun x => K ((acc ++ [v]) ++ x)) := by
  rcases g.g with ⟨k1, k2⟩ | ⟨k1, k2⟩
  · exact ⟨.inl ⟨p.on k1, k2⟩⟩
  · cases hb : b9 with
    | true =>
      rcases p.no hb with h | h
      · rw [h] at k1; cases k1
      · rw [h.2 hs] at k2; exact ⟨.inl ⟨rfl, k2⟩⟩
    | false =>
      obtain ⟨_, _, _, y⟩ := p.yes hb
      refine ⟨.inr ⟨rfl, ?_⟩⟩
      rw [k2, y]
      cases bdO r with
      | none => rfl
      | some z => simp
theorem got_bend {b s : L8} {bad : Bool} {acc : List L8} {K : List L8 → Option Msg} (g : HGot b bad ((bdO s).bind fun x => K (acc ++ x))) (hp : bad = true ∨ s = []) : HGot b bad (K acc) := by
  rcases g.g with h | ⟨h1, h2⟩
  · exact ⟨.inl h⟩
  · rcases hp with h | h
    · rw [h] at h1; cases h1
    · rw [h, bdO_nil] at h2
      refine ⟨.inr ⟨h1, ?_⟩⟩
      rw [h2]
      simp
theorem got_bad {b : L8} {o : Option Msg} (g : HGot b true o) : decM b = none := by
  rcases g.g with h | h
  · exact h.2
  · cases h.1
theorem got_ok {b : L8} {o : Option Msg} (g : HGot b false o) : decM b = o := by
  rcases g.g with h | h
  · cases h.1
  · exact h.2
def zeroM : Msg := (0, 0, 0, 0, 0, [], [], [], [])
def decV (o : Option Msg) (t1 t2 t3 : Tok) : AV := match o with
  | some m => .tup [.agg (msgC m t1 t2 t3), .v (.int .i64 0)]
  | none => .tup [.agg (msgC zeroM t1 t2 t3), .v (.int .i64 2)]
structure RcB (b : L8) (acc : List L8) (s : L8) : Prop where
  len : acc.length + s.length ≤ b.length
  mem : ∀ x ∈ acc, x.length ≤ b.length
theorem RcB.add {b : L8} {acc : List L8} {s r v : L8} (h : RcB b acc s) (hr : r.length + 1 ≤ s.length) (hv : v.length ≤ s.length) : RcB b (acc ++ [v]) r := by
  have := h.len
  refine ⟨by simp; omega, fun x hx => ?_⟩
  rcases List.mem_append.1 hx with hx | hx
  · exact h.mem x hx
  · rw [List.mem_singleton.1 hx]; omega
theorem after8 {h hh h8 : AH} {nr oz om : AObj} (hE8 : Ext (hh.set (h.n + 1) nr) h8) (hn : h.n + 2 < hh.n) (hz : hh.objs h.n = some oz) (hm : hh.objs (h.n + 2) = some om) : h8.objs h.n = some oz ∧ h8.objs (h.n + 1) = some nr ∧ h8.objs (h.n + 2) = some om ∧ h.n + 2 < h8.n := by
  have hN := hE8.n
  have hO := hE8.objs
  simp only [set_n] at hN hO
  refine ⟨?_, ?_, ?_, by omega⟩
  · rw [hO _ (by omega), set_at, if_neg (by omega)]; exact hz
  · rw [hO _ (by omega), set_at, if_pos rfl]
  · rw [hO _ (by omega), set_at, if_neg (by omega)]; exact hm
theorem decode_raw (hP : PowTab w0) (hE : ErrVars w0) (b : L8) (tok : Tok) (h : AH) (hl : b.length ≤ 1000000) : Call P w0 env_Decode [.list 1 (brows b) tok] h (fun v h' => (∃ t1 t2 t3, v = decV (decM b) t1 t2 t3) ∧ Ext h h') := by
  obtain ⟨s1, b1, S1, c1⟩ := num_step (w0 := w0) hP hE (h.n + 1) K1 b false (by omega) (by decide)
  have l1 := S1.len
  obtain ⟨s2, b2, S2, c2⟩ := num_step (w0 := w0) hP hE (h.n + 1) K2 s1 b1 (by omega) (by decide)
  have l2 := S2.len
  obtain ⟨s3, b3, S3, c3⟩ := num_step (w0 := w0) hP hE (h.n + 1) K3 s2 b2 (by omega) (by decide)
  have l3 := S3.len
  obtain ⟨s4, b4, S4, c4⟩ := num_step (w0 := w0) hP hE (h.n + 1) K4 s3 b3 (by omega) (by decide)
  have l4 := S4.len
  obtain ⟨s5, b5, S5, c5⟩ := num_step (w0 := w0) hP hE (h.n + 1) K5 s4 b4 (by omega) (by decide)
  have l5 := S5.len
  obtain ⟨s6, b6, f, S6, P6, fl, _, c6⟩ := val_step (w0 := w0) (h.n + 1) K6 s5 b5 (by omega) (by decide)
  have l6 := S6.len
  have gh := fun (n1 n2 n3 n4 n5 : Int) => got_head (f := f) (n1 := n1) (n2 := n2) (n3 := n3) (n4 := n4) (n5 := n5) S1 S2 S3 S4 S5 S6
  clear S1 S2 S3 S4 S5 S6
  rw [show K1 = [105, 100] from rfl] at c1
  rw [show K2 = [103, 101, 110] from rfl] at c2
  rw [show K3 = [98, 111, 114, 110] from rfl] at c3
  rw [show K4 = [116, 114, 105, 101, 115] from rfl] at c4
  rw [show K5 = [100, 117, 101] from rfl] at c5
  rw [show K6 = [102, 114, 111, 109] from rfl] at c6
  have xl := srows_len
  refine Call.bodyF b_env_Decode rfl rfl ?_
  unfold c_env_Decode
  repeat' (first
| ((with_reducible first | apply opsF.op rfl | apply dopsF.op rfl); case hs => first | exact tHT | exact tHS)
| (with_reducible first | apply opsF.nil | apply seqF.nn | apply vcF.seq | apply vcF.region | apply vcF.dregion | apply vcF.skip | apply vcF.block | apply vcF.exit | apply vcF.ret | apply vcF.loop | apply seqF.e | apply seqF.r | apply blkF.nn | apply blkF.e | apply blkF.r | apply blkF.o rfl | apply dopsF.nil | apply stabsF.nil | apply stabsF.cons | apply dopsF.cont)
| ((with_reducible first | apply opsF.call | apply dopsF.call); case hx => exact tAG)
| ((with_reducible first | apply opsF.want | apply dopsF.want | apply stabF.want); (case hg => exact tEV); case hb => exact tNB)
| ((with_reducible first | apply opsF.skip | apply dopsF.skip | apply stabF.skip); (case hg => exact tEV); case hb => exact tNB)
| (first | ((with_reducible first | apply opsF.case | apply dopsF.case); case hg => exact tEV) | ((with_reducible apply vcF.cond); case hx => exact tEV)) <;> ((intro hc; try simp only [Int.reduceLT, Int.reduceLE, Int.reduceEq, Int.reduceNe, Int.cast_ofNat_Int, Int.reduceNeg, reduceCtorEq, ne_eq, ge_iff_le, gt_iff_lt, beq_iff_eq, beq_eq_false_iff_ne, bne_iff_ne, bne_eq_false_iff_eq, nrm, *] at hc) <;> try (exfalso; omega))
| ((with_reducible first | apply opsF.und | apply dopsF.und); case hg => rfl)
| ((with_reducible apply stabF.und); rfl)
| ((with_reducible apply stabF.op); (case hs => first | exact tHT | exact tHS); case hv => exact tSV)
| ((with_reducible first | apply retF.r | apply retF.nn); case hv => exact tRS)
| ((refine (c1 _ (by simp [set_at, alloc_at, alloc_n, set_n, rdC]) (by simp [set_at, alloc_at, alloc_n, set_n])).mono fun v h2 hp => ?_); obtain ⟨n1, rfl, rfl, P1⟩ := hp)
| ((refine (c2 _ (by simp [set_at, alloc_at, alloc_n, set_n, rdC]) (by simp [set_at, alloc_at, alloc_n, set_n])).mono fun v h2 hp => ?_); obtain ⟨n2, rfl, rfl, P2⟩ := hp)
| ((refine (c3 _ (by simp [set_at, alloc_at, alloc_n, set_n, rdC]) (by simp [set_at, alloc_at, alloc_n, set_n])).mono fun v h2 hp => ?_); obtain ⟨n3, rfl, rfl, P3⟩ := hp)
| ((refine (c4 _ (by simp [set_at, alloc_at, alloc_n, set_n, rdC]) (by simp [set_at, alloc_at, alloc_n, set_n])).mono fun v h2 hp => ?_); obtain ⟨n4, rfl, rfl, P4⟩ := hp)
| ((refine (c5 _ (by simp [set_at, alloc_at, alloc_n, set_n, rdC]) (by simp [set_at, alloc_at, alloc_n, set_n])).mono fun v h2 hp => ?_); obtain ⟨n5, rfl, rfl, P5⟩ := hp)
| ((refine (c6 _ (by simp [set_at, alloc_at, alloc_n, set_n, rdC]) (by simp [set_at, alloc_at, alloc_n, set_n])).mono fun v h2 hp => ?_); obtain ⟨rfl, rfl⟩ := hp))
  have g6 := gh n1 n2 n3 n4 n5 P1 P2 P3 P4 P5 P6
  have hRB : RcB b [] s6 := ⟨by simp; omega, fun x hx => by cases hx⟩
  clear gh P1 P2 P3 P4 P5 P6 c1 c2 c3 c4 c5 c6
  refine LpF.ind rfl (fun i : Nat => i) (fun i σ hh => ∃ (acc : List L8) (s : L8) (bad : Bool) (tk : Tok), (bad = false → s.length < i) ∧ Ext h hh ∧ h.n + 2 < hh.n ∧ hh.objs h.n = some (.cells [.v (.int .i64 0), .v (.int .i64 0), .v (.int .i64 0), .v (.int .i64 0), .v (.int .i64 0), .v (.string (bs [])), .list 1 [] .full, .list 1 [] .full, .list 1 [] .full]) ∧ hh.objs (h.n + 1) = some (rdC s bad) ∧ hh.objs (h.n + 2) = some (.cells [.v (.int .i64 n1), .v (.int .i64 n2), .v (.int .i64 n3), .v (.int .i64 n4), .v (.int .i64 n5), .v (.string (bs f)), .list 1 (srows acc) tk, .list 1 [] .full, .list 1 [] .full]) ∧ TokU hh tk ∧ (∀ t, tk.owner = some t → h.nt ≤ t) ∧ σ 2 = .ptr h.n 0 ∧ σ 4 = .ptr (h.n + 1) 0 ∧ σ 5 = .ptr (h.n + 2) 0 ∧ HGot b bad ((rcsO s).bind fun x => contR n1 n2 n3 n4 n5 f (acc ++ x.1) x.2) ∧ RcB b acc s) ?_ (i := s6.length + 1)
    ⟨[], s6, b6, .full, fun _ => Nat.lt_succ_self _, ?_, ?_, ?_, ?_, ?_, trivial, (fun t ht => by cases ht), rfl, rfl, rfl, g6, hRB⟩
  rotate_left
  · refine Ext.set (Ext.trans ?_ (Ext.alloc _ _)) (by simp only [alloc_n, set_n]; omega) _
    exact (((((((Ext.alloc _ _).trans (Ext.alloc _ _)).set (by omega) _).set (by omega) _).set (by omega) _).set (by omega) _).set (by omega) _).set (by omega) _
  · simp [set_at, alloc_at, alloc_n, set_n]
  · simp [set_at, alloc_at, alloc_n, set_n]
    first | done | (intro e; omega)
  · simp [set_at, alloc_at, alloc_n, set_n]
  · simp [set_at, alloc_at, alloc_n, set_n, srows]
  clear g6 hRB
  rintro i σ hh ⟨acc, s, bad, tk0, hlt, hEx, hn, hz, ho, hm, hT, hF, g2, g4, g5, hg, hRB⟩
  have hsl := hRB.len
  have fin : ∀ (bad : Bool) (hh : AH) (σ : Fm), True := fun _ _ _ => trivial
  clear fin
  by_cases hex : bad = true ∨ preB (K7 ++ [32]) s = false
  · have gK := got_rend hg hex
    obtain ⟨r8, b8, v8, S8, P8, v8l, c8⟩ := mark_step (w0 := w0) (h.n + 1) s bad (by omega)
    have r8l := S8.len
    obtain ⟨r9, b9, v9, L9, c9⟩ := line_step (w0 := w0) (h.n + 1) r8 b8 (by omega)
    have r9l := L9.len
    have g8 : HGot b b8 ((endO r8).bind fun x9 => (bdO x9).bind fun x10 => finM (n1, n2, n3, n4, n5, f, acc, mkO v8, x10)) := ⟨Got.step (f := fun x8 => (endO x8.2).bind fun x9 => (bdO x9).bind fun x10 => finM (n1, n2, n3, n4, n5, f, acc, mkO x8.1, x10)) gK.g S8 P8⟩
    have hpre := fun h => shasPG (w0 := w0) s (K7 ++ [32]) h
    rw [show K7 ++ [32] = [114, 99, 112, 116, 32] from rfl] at hpre hex
    have g9 : ∀ bad', (b9 = true → bad' = true) → (v9 ≠ [] → bad' = true) → (b9 = false → v9 = [] → bad' = false) → HGot b bad' ((bdO r9).bind fun x10 => finM (n1, n2, n3, n4, n5, f, acc, mkO v8, x10)) := fun bad' k1 k2 k3 => got_end g8 L9 k1 k2 k3
    have hon8 := S8.on
    have hon9 := L9.on
    clear g8 gK hg P8 S8 L9 hlt
    have hRB2 : RcB b [] r9 := ⟨by simp; omega, fun x hx => by cases hx⟩
    have hmk : (mkO v8).length ≤ 1000000 := by simp [mkO]; omega
    have hRB0 := hRB
    have hsl0 := hRB0.len
    cases bad with
    | true =>
      obtain rfl := hon8 rfl
      obtain rfl := hon9 rfl
      have g10 := g9 true (fun _ => rfl) (fun _ => rfl) (fun h _ => by cases h)
      clear g9 hex hpre hon8 hon9
      repeat' (first
| ((with_reducible first | apply opsF.op rfl | apply dopsF.op rfl); case hs => first | exact tHT | exact tHS)
| (with_reducible first | apply opsF.nil | apply seqF.nn | apply vcF.seq | apply vcF.region | apply vcF.dregion | apply vcF.skip | apply vcF.block | apply vcF.exit | apply vcF.ret | apply vcF.loop | apply seqF.e | apply seqF.r | apply blkF.nn | apply blkF.e | apply blkF.r | apply blkF.o rfl | apply dopsF.nil | apply stabsF.nil | apply stabsF.cons | apply dopsF.cont)
| ((with_reducible first | apply opsF.call | apply dopsF.call); case hx => exact tAG)
| ((with_reducible first | apply opsF.want | apply dopsF.want | apply stabF.want); (case hg => exact tEV); case hb => exact tNB)
| ((with_reducible first | apply opsF.skip | apply dopsF.skip | apply stabF.skip); (case hg => exact tEV); case hb => exact tNB)
| (first | ((with_reducible first | apply opsF.case | apply dopsF.case); case hg => exact tEV) | ((with_reducible apply vcF.cond); case hx => exact tEV)) <;> ((intro hc; try simp only [Int.reduceLT, Int.reduceLE, Int.reduceEq, Int.reduceNe, Int.cast_ofNat_Int, Int.reduceNeg, reduceCtorEq, ne_eq, ge_iff_le, gt_iff_lt, beq_iff_eq, beq_eq_false_iff_ne, bne_iff_ne, bne_eq_false_iff_eq, nrm, *] at hc) <;> try (exfalso; omega))
| ((with_reducible first | apply opsF.und | apply dopsF.und); case hg => rfl)
| ((with_reducible apply stabF.und); rfl)
| ((with_reducible apply stabF.op); (case hs => first | exact tHT | exact tHS); case hv => exact tSV)
| ((with_reducible first | apply retF.r | apply retF.nn); case hv => exact tRS)
| ((refine (c8 _ (by first | assumption | exact tHE) (by omega)).mono fun v h8 hp => ?_); obtain ⟨⟨tk8, rfl⟩, hE8⟩ := hp; obtain ⟨q0, q1, q2, qn⟩ := after8 hE8 hn hz hm)
| ((refine (c9 _ (by rw [set_at, if_neg (by omega)]; exact q1) (by simp only [set_n]; omega)).mono fun v h9 hp => ?_); obtain ⟨rfl, rfl⟩ := hp))
      all_goals (
        refine LpF.ind rfl (fun i : Nat => i) (fun i σ hh => ∃ (ac2 : List L8) (s : L8) (bad : Bool) (tk : Tok), (bad = false → s.length < i) ∧ Ext h hh ∧ h.n + 2 < hh.n ∧ hh.objs h.n = some (.cells [.v (.int .i64 0), .v (.int .i64 0), .v (.int .i64 0), .v (.int .i64 0), .v (.int .i64 0), .v (.string (bs [])), .list 1 [] .full, .list 1 [] .full, .list 1 [] .full]) ∧ hh.objs (h.n + 1) = some (rdC s bad) ∧ hh.objs (h.n + 2) = some (.cells [.v (.int .i64 n1), .v (.int .i64 n2), .v (.int .i64 n3), .v (.int .i64 n4), .v (.int .i64 n5), .v (.string (bs f)), .list 1 (srows acc) tk0, .list 1 (irows (mkO v8)) tk8, .list 1 (srows ac2) tk]) ∧ TokU hh tk ∧ (∀ t, tk.owner = some t → h.nt ≤ t) ∧ σ 2 = .ptr h.n 0 ∧ σ 4 = .ptr (h.n + 1) 0 ∧ σ 5 = .ptr (h.n + 2) 0 ∧ HGot b bad ((bdO s).bind fun x => finM (n1, n2, n3, n4, n5, f, acc, mkO v8, ac2 ++ x)) ∧ RcB b ac2 s) ?_ (i := r9.length + 1)
          ⟨[], r9, _, .full, fun _ => Nat.lt_succ_self _, ?_, ?_, ?_, ?_, ?_, trivial, (fun t ht => by cases ht), g2, g4, g5, g10, hRB2⟩
        rotate_left
        · first
            | exact (((hEx.set (by omega) _).trans hE8).set (by omega) _).set (by omega) _
            | exact ((((hEx.set (by omega) _).trans hE8).set (by omega) _).set (by omega) _).set (by omega) _
        · simp only [set_n]; omega
        · simp (disch := omega) [set_at, q0, if_neg]
        · simp [set_at, rdC]
        · simp (disch := omega) [set_at, q2, if_neg, srows]
        clear g10 hRB2 hE8 q0 q1 q2 qn c8 c9 hEx hn hz ho hm hT hF g2 g4 g5 hRB hsl
        rintro i σ hh ⟨ac2, s, bad, tk, hlt, hEx, hn, hz, ho, hm, hT, hF, g2, g4, g5, hg, hRB⟩
        have hsl := hRB.len
        cases bad with
        | true =>
          have hD := got_bad hg
          clear hg hlt
          rw [hD]
          repeat' (first
| ((with_reducible first | apply opsF.op rfl | apply dopsF.op rfl); case hs => first | exact tHT | exact tHS)
| (with_reducible first | apply opsF.nil | apply seqF.nn | apply vcF.seq | apply vcF.region | apply vcF.dregion | apply vcF.skip | apply vcF.block | apply vcF.exit | apply vcF.ret | apply vcF.loop | apply seqF.e | apply seqF.r | apply blkF.nn | apply blkF.e | apply blkF.r | apply blkF.o rfl | apply dopsF.nil | apply stabsF.nil | apply stabsF.cons | apply dopsF.cont)
| ((with_reducible first | apply opsF.call | apply dopsF.call); case hx => exact tAG)
| ((with_reducible first | apply opsF.want | apply dopsF.want | apply stabF.want); (case hg => exact tEV); case hb => exact tNB)
| ((with_reducible first | apply opsF.skip | apply dopsF.skip | apply stabF.skip); (case hg => exact tEV); case hb => exact tNB)
| (first | ((with_reducible first | apply opsF.case | apply dopsF.case); case hg => exact tEV) | ((with_reducible apply vcF.cond); case hx => exact tEV)) <;> ((intro hc; try simp only [Int.reduceLT, Int.reduceLE, Int.reduceEq, Int.reduceNe, Int.cast_ofNat_Int, Int.reduceNeg, reduceCtorEq, ne_eq, ge_iff_le, gt_iff_lt, beq_iff_eq, beq_eq_false_iff_ne, bne_iff_ne, bne_eq_false_iff_eq, nrm, *] at hc) <;> try (exfalso; omega))
| ((with_reducible first | apply opsF.und | apply dopsF.und); case hg => rfl)
| ((with_reducible apply stabF.und); rfl)
| ((with_reducible apply stabF.op); (case hs => first | exact tHT | exact tHS); case hv => exact tSV)
| ((with_reducible first | apply retF.r | apply retF.nn); case hv => exact tRS))
          all_goals exact ⟨⟨.full, .full, .full, rfl⟩, hEx.set (Nat.le_refl _) _⟩
        | false =>
          have hlt := hlt rfl
          by_cases hs : s = []
          · have hD := got_ok (got_bend (K := fun x => finM (n1, n2, n3, n4, n5, f, acc, mkO v8, x)) hg (.inr hs))
            clear hg hlt
            subst hs
            rw [hD]
            have hMO : MOk (n1, n2, n3, n4, n5, f, acc, mkO v8, ac2) := ⟨by simp only; omega, by simp only; omega, fun x hx => by have := hRB0.mem x hx; omega, hmk, by simp only; omega, fun x hx => by have := hRB.mem x hx; omega⟩
            have hG := fun h => egood_call (w0 := w0) (n1, n2, n3, n4, n5, f, acc, mkO v8, ac2) tk0 tk8 tk h hMO
            unfold finM
            unfold msgC at hG
            dsimp only at hG
            clear hMO hD
            cases hgd : goodM (n1, n2, n3, n4, n5, f, acc, mkO v8, ac2) with
            | true =>
              rw [hgd] at hG
              rw [if_pos rfl]
              clear hgd
              repeat' (first
| ((with_reducible first | apply opsF.op rfl | apply dopsF.op rfl); case hs => first | exact tHT | exact tHS)
| (with_reducible first | apply opsF.nil | apply seqF.nn | apply vcF.seq | apply vcF.region | apply vcF.dregion | apply vcF.skip | apply vcF.block | apply vcF.exit | apply vcF.ret | apply vcF.loop | apply seqF.e | apply seqF.r | apply blkF.nn | apply blkF.e | apply blkF.r | apply blkF.o rfl | apply dopsF.nil | apply stabsF.nil | apply stabsF.cons | apply dopsF.cont)
| ((with_reducible first | apply opsF.call | apply dopsF.call); case hx => exact tAG)
| ((with_reducible first | apply opsF.want | apply dopsF.want | apply stabF.want); (case hg => exact tEV); case hb => exact tNB)
| ((with_reducible first | apply opsF.skip | apply dopsF.skip | apply stabF.skip); (case hg => exact tEV); case hb => exact tNB)
| (first | ((with_reducible first | apply opsF.case | apply dopsF.case); case hg => exact tEV) | ((with_reducible apply vcF.cond); case hx => exact tEV)) <;> ((intro hc; try simp only [Int.reduceLT, Int.reduceLE, Int.reduceEq, Int.reduceNe, Int.cast_ofNat_Int, Int.reduceNeg, reduceCtorEq, ne_eq, ge_iff_le, gt_iff_lt, beq_iff_eq, beq_eq_false_iff_ne, bne_iff_ne, bne_eq_false_iff_eq, nrm, *] at hc) <;> try (exfalso; omega))
| ((with_reducible first | apply opsF.und | apply dopsF.und); case hg => rfl)
| ((with_reducible apply stabF.und); rfl)
| ((with_reducible apply stabF.op); (case hs => first | exact tHT | exact tHS); case hv => exact tSV)
| ((with_reducible first | apply retF.r | apply retF.nn); case hv => exact tRS)
| ((refine Call.use (hG _) ?_)))
              all_goals exact ⟨⟨tk0, tk8, tk, rfl⟩, hEx.set (Nat.le_refl _) _⟩
            | false =>
              rw [hgd] at hG
              rw [if_neg (by simp)]
              clear hgd
              repeat' (first
| ((with_reducible first | apply opsF.op rfl | apply dopsF.op rfl); case hs => first | exact tHT | exact tHS)
| (with_reducible first | apply opsF.nil | apply seqF.nn | apply vcF.seq | apply vcF.region | apply vcF.dregion | apply vcF.skip | apply vcF.block | apply vcF.exit | apply vcF.ret | apply vcF.loop | apply seqF.e | apply seqF.r | apply blkF.nn | apply blkF.e | apply blkF.r | apply blkF.o rfl | apply dopsF.nil | apply stabsF.nil | apply stabsF.cons | apply dopsF.cont)
| ((with_reducible first | apply opsF.call | apply dopsF.call); case hx => exact tAG)
| ((with_reducible first | apply opsF.want | apply dopsF.want | apply stabF.want); (case hg => exact tEV); case hb => exact tNB)
| ((with_reducible first | apply opsF.skip | apply dopsF.skip | apply stabF.skip); (case hg => exact tEV); case hb => exact tNB)
| (first | ((with_reducible first | apply opsF.case | apply dopsF.case); case hg => exact tEV) | ((with_reducible apply vcF.cond); case hx => exact tEV)) <;> ((intro hc; try simp only [Int.reduceLT, Int.reduceLE, Int.reduceEq, Int.reduceNe, Int.cast_ofNat_Int, Int.reduceNeg, reduceCtorEq, ne_eq, ge_iff_le, gt_iff_lt, beq_iff_eq, beq_eq_false_iff_ne, bne_iff_ne, bne_eq_false_iff_eq, nrm, *] at hc) <;> try (exfalso; omega))
| ((with_reducible first | apply opsF.und | apply dopsF.und); case hg => rfl)
| ((with_reducible apply stabF.und); rfl)
| ((with_reducible apply stabF.op); (case hs => first | exact tHT | exact tHS); case hv => exact tSV)
| ((with_reducible first | apply retF.r | apply retF.nn); case hv => exact tRS)
| ((refine Call.use (hG _) ?_)))
              all_goals exact ⟨⟨.full, .full, .full, rfl⟩, hEx.set (Nat.le_refl _) _⟩
          · obtain ⟨r, bad', v, Lp, c9⟩ := line_step (w0 := w0) (h.n + 1) s false (by omega)
            have g11 := got_body (K := fun x => finM (n1, n2, n3, n4, n5, f, acc, mkO v8, x)) hg hs Lp
            have hrl := Lp.lt hs
            have hRB3 := hRB.add (v := v) hrl Lp.vlen
            clear hg Lp
            obtain ⟨tk1, h2, hap, hT2, hT3, hT4, hT5, hT6⟩ := (hT.set (i := h.n + 1) (o := rdC r bad')).app
            have hEq := Ext.transX (hEx.set (Nat.le_succ h.n) (rdC r bad')) hT6 (fun _ x => x.elim) hF
            have hnt := hEx.nt
            repeat' (first
| ((with_reducible first | apply opsF.op rfl | apply dopsF.op rfl); case hs => first | exact tHT | exact tHS)
| (with_reducible first | apply opsF.nil | apply seqF.nn | apply vcF.seq | apply vcF.region | apply vcF.dregion | apply vcF.skip | apply vcF.block | apply vcF.exit | apply vcF.ret | apply vcF.loop | apply seqF.e | apply seqF.r | apply blkF.nn | apply blkF.e | apply blkF.r | apply blkF.o rfl | apply dopsF.nil | apply stabsF.nil | apply stabsF.cons | apply dopsF.cont)
| ((with_reducible first | apply opsF.call | apply dopsF.call); case hx => exact tAG)
| ((with_reducible first | apply opsF.want | apply dopsF.want | apply stabF.want); (case hg => exact tEV); case hb => exact tNB)
| ((with_reducible first | apply opsF.skip | apply dopsF.skip | apply stabF.skip); (case hg => exact tEV); case hb => exact tNB)
| (first | ((with_reducible first | apply opsF.case | apply dopsF.case); case hg => exact tEV) | ((with_reducible apply vcF.cond); case hx => exact tEV)) <;> ((intro hc; try simp only [Int.reduceLT, Int.reduceLE, Int.reduceEq, Int.reduceNe, Int.cast_ofNat_Int, Int.reduceNeg, reduceCtorEq, ne_eq, ge_iff_le, gt_iff_lt, beq_iff_eq, beq_eq_false_iff_ne, bne_iff_ne, bne_eq_false_iff_eq, nrm, *] at hc) <;> try (exfalso; omega))
| ((with_reducible first | apply opsF.und | apply dopsF.und); case hg => rfl)
| ((with_reducible apply stabF.und); rfl)
| ((with_reducible apply stabF.op); (case hs => first | exact tHT | exact tHS); case hv => exact tSV)
| ((with_reducible first | apply retF.r | apply retF.nn); case hv => exact tRS)
| ((refine (c9 _ (by first | assumption | exact tHE) (by omega)).mono fun v h9 hp => ?_); obtain ⟨rfl, rfl⟩ := hp))
            all_goals (
              refine ⟨i - 1, by omega, ac2 ++ [v], r, bad', tk1, fun hb => by omega, hEq.set (by omega) _, ?_, ?_, ?_, ?_, hT2.set, ?_, g2, g4, g5, g11, hRB3⟩
              · simp only [set_n, hT5]; exact hn
              · simp (disch := omega) only [set_at, if_neg, hT4]; exact hz
              · simp (disch := omega) only [set_at, if_neg, hT4, if_pos]
              · simp only [set_at, if_pos]
                simp [srows]
              · intro t ht
                rcases hT3 t ht with hq | hq
                · exact hF t hq
                · exact Nat.le_trans hnt hq))

    | false =>
      have hpf : preB [114, 99, 112, 116, 32] s = false := by
        rcases hex with e | e
        · cases e
        · exact e
      rw [hpf] at hpre
      clear hpf hex hon8 hon9
      cases b9 with
      | true =>
        have g10 := g9 true (fun _ => rfl) (fun _ => rfl) (fun h _ => by cases h)
        clear g9
        repeat' (first
| ((with_reducible first | apply opsF.op rfl | apply dopsF.op rfl); case hs => first | exact tHT | exact tHS)
| (with_reducible first | apply opsF.nil | apply seqF.nn | apply vcF.seq | apply vcF.region | apply vcF.dregion | apply vcF.skip | apply vcF.block | apply vcF.exit | apply vcF.ret | apply vcF.loop | apply seqF.e | apply seqF.r | apply blkF.nn | apply blkF.e | apply blkF.r | apply blkF.o rfl | apply dopsF.nil | apply stabsF.nil | apply stabsF.cons | apply dopsF.cont)
| ((with_reducible first | apply opsF.call | apply dopsF.call); case hx => exact tAG)
| ((with_reducible first | apply opsF.want | apply dopsF.want | apply stabF.want); (case hg => exact tEV); case hb => exact tNB)
| ((with_reducible first | apply opsF.skip | apply dopsF.skip | apply stabF.skip); (case hg => exact tEV); case hb => exact tNB)
| (first | ((with_reducible first | apply opsF.case | apply dopsF.case); case hg => exact tEV) | ((with_reducible apply vcF.cond); case hx => exact tEV)) <;> ((intro hc; try simp only [Int.reduceLT, Int.reduceLE, Int.reduceEq, Int.reduceNe, Int.cast_ofNat_Int, Int.reduceNeg, reduceCtorEq, ne_eq, ge_iff_le, gt_iff_lt, beq_iff_eq, beq_eq_false_iff_ne, bne_iff_ne, bne_eq_false_iff_eq, nrm, *] at hc) <;> try (exfalso; omega))
| ((with_reducible first | apply opsF.und | apply dopsF.und); case hg => rfl)
| ((with_reducible apply stabF.und); rfl)
| ((with_reducible apply stabF.op); (case hs => first | exact tHT | exact tHS); case hv => exact tSV)
| ((with_reducible first | apply retF.r | apply retF.nn); case hv => exact tRS)
| ((refine Call.use (hpre _) ?_))
| ((refine (c8 _ (by first | assumption | exact tHE) (by omega)).mono fun v h8 hp => ?_); obtain ⟨⟨tk8, rfl⟩, hE8⟩ := hp; obtain ⟨q0, q1, q2, qn⟩ := after8 hE8 hn hz hm)
| ((refine (c9 _ (by rw [set_at, if_neg (by omega)]; exact q1) (by simp only [set_n]; omega)).mono fun v h9 hp => ?_); obtain ⟨rfl, rfl⟩ := hp))
        all_goals (
          refine LpF.ind rfl (fun i : Nat => i) (fun i σ hh => ∃ (ac2 : List L8) (s : L8) (bad : Bool) (tk : Tok), (bad = false → s.length < i) ∧ Ext h hh ∧ h.n + 2 < hh.n ∧ hh.objs h.n = some (.cells [.v (.int .i64 0), .v (.int .i64 0), .v (.int .i64 0), .v (.int .i64 0), .v (.int .i64 0), .v (.string (bs [])), .list 1 [] .full, .list 1 [] .full, .list 1 [] .full]) ∧ hh.objs (h.n + 1) = some (rdC s bad) ∧ hh.objs (h.n + 2) = some (.cells [.v (.int .i64 n1), .v (.int .i64 n2), .v (.int .i64 n3), .v (.int .i64 n4), .v (.int .i64 n5), .v (.string (bs f)), .list 1 (srows acc) tk0, .list 1 (irows (mkO v8)) tk8, .list 1 (srows ac2) tk]) ∧ TokU hh tk ∧ (∀ t, tk.owner = some t → h.nt ≤ t) ∧ σ 2 = .ptr h.n 0 ∧ σ 4 = .ptr (h.n + 1) 0 ∧ σ 5 = .ptr (h.n + 2) 0 ∧ HGot b bad ((bdO s).bind fun x => finM (n1, n2, n3, n4, n5, f, acc, mkO v8, ac2 ++ x)) ∧ RcB b ac2 s) ?_ (i := r9.length + 1)
            ⟨[], r9, _, .full, fun _ => Nat.lt_succ_self _, ?_, ?_, ?_, ?_, ?_, trivial, (fun t ht => by cases ht), g2, g4, g5, g10, hRB2⟩
          rotate_left
          · first
              | exact (((hEx.set (by omega) _).trans hE8).set (by omega) _).set (by omega) _
              | exact ((((hEx.set (by omega) _).trans hE8).set (by omega) _).set (by omega) _).set (by omega) _
          · simp only [set_n]; omega
          · simp (disch := omega) [set_at, q0, if_neg]
          · simp [set_at, rdC]
          · simp (disch := omega) [set_at, q2, if_neg, srows]
          clear g10 hRB2 hE8 q0 q1 q2 qn c8 c9 hEx hn hz ho hm hT hF g2 g4 g5 hRB hsl
          rintro i σ hh ⟨ac2, s, bad, tk, hlt, hEx, hn, hz, ho, hm, hT, hF, g2, g4, g5, hg, hRB⟩
          have hsl := hRB.len
          cases bad with
          | true =>
            have hD := got_bad hg
            clear hg hlt
            rw [hD]
            repeat' (first
| ((with_reducible first | apply opsF.op rfl | apply dopsF.op rfl); case hs => first | exact tHT | exact tHS)
| (with_reducible first | apply opsF.nil | apply seqF.nn | apply vcF.seq | apply vcF.region | apply vcF.dregion | apply vcF.skip | apply vcF.block | apply vcF.exit | apply vcF.ret | apply vcF.loop | apply seqF.e | apply seqF.r | apply blkF.nn | apply blkF.e | apply blkF.r | apply blkF.o rfl | apply dopsF.nil | apply stabsF.nil | apply stabsF.cons | apply dopsF.cont)
| ((with_reducible first | apply opsF.call | apply dopsF.call); case hx => exact tAG)
| ((with_reducible first | apply opsF.want | apply dopsF.want | apply stabF.want); (case hg => exact tEV); case hb => exact tNB)
| ((with_reducible first | apply opsF.skip | apply dopsF.skip | apply stabF.skip); (case hg => exact tEV); case hb => exact tNB)
| (first | ((with_reducible first | apply opsF.case | apply dopsF.case); case hg => exact tEV) | ((with_reducible apply vcF.cond); case hx => exact tEV)) <;> ((intro hc; try simp only [Int.reduceLT, Int.reduceLE, Int.reduceEq, Int.reduceNe, Int.cast_ofNat_Int, Int.reduceNeg, reduceCtorEq, ne_eq, ge_iff_le, gt_iff_lt, beq_iff_eq, beq_eq_false_iff_ne, bne_iff_ne, bne_eq_false_iff_eq, nrm, *] at hc) <;> try (exfalso; omega))
| ((with_reducible first | apply opsF.und | apply dopsF.und); case hg => rfl)
| ((with_reducible apply stabF.und); rfl)
| ((with_reducible apply stabF.op); (case hs => first | exact tHT | exact tHS); case hv => exact tSV)
| ((with_reducible first | apply retF.r | apply retF.nn); case hv => exact tRS))
            all_goals exact ⟨⟨.full, .full, .full, rfl⟩, hEx.set (Nat.le_refl _) _⟩
          | false =>
            have hlt := hlt rfl
            by_cases hs : s = []
            · have hD := got_ok (got_bend (K := fun x => finM (n1, n2, n3, n4, n5, f, acc, mkO v8, x)) hg (.inr hs))
              clear hg hlt
              subst hs
              rw [hD]
              have hMO : MOk (n1, n2, n3, n4, n5, f, acc, mkO v8, ac2) := ⟨by simp only; omega, by simp only; omega, fun x hx => by have := hRB0.mem x hx; omega, hmk, by simp only; omega, fun x hx => by have := hRB.mem x hx; omega⟩
              have hG := fun h => egood_call (w0 := w0) (n1, n2, n3, n4, n5, f, acc, mkO v8, ac2) tk0 tk8 tk h hMO
              unfold finM
              unfold msgC at hG
              dsimp only at hG
              clear hMO hD
              cases hgd : goodM (n1, n2, n3, n4, n5, f, acc, mkO v8, ac2) with
              | true =>
                rw [hgd] at hG
                rw [if_pos rfl]
                clear hgd
                repeat' (first
| ((with_reducible first | apply opsF.op rfl | apply dopsF.op rfl); case hs => first | exact tHT | exact tHS)
| (with_reducible first | apply opsF.nil | apply seqF.nn | apply vcF.seq | apply vcF.region | apply vcF.dregion | apply vcF.skip | apply vcF.block | apply vcF.exit | apply vcF.ret | apply vcF.loop | apply seqF.e | apply seqF.r | apply blkF.nn | apply blkF.e | apply blkF.r | apply blkF.o rfl | apply dopsF.nil | apply stabsF.nil | apply stabsF.cons | apply dopsF.cont)
| ((with_reducible first | apply opsF.call | apply dopsF.call); case hx => exact tAG)
| ((with_reducible first | apply opsF.want | apply dopsF.want | apply stabF.want); (case hg => exact tEV); case hb => exact tNB)
| ((with_reducible first | apply opsF.skip | apply dopsF.skip | apply stabF.skip); (case hg => exact tEV); case hb => exact tNB)
| (first | ((with_reducible first | apply opsF.case | apply dopsF.case); case hg => exact tEV) | ((with_reducible apply vcF.cond); case hx => exact tEV)) <;> ((intro hc; try simp only [Int.reduceLT, Int.reduceLE, Int.reduceEq, Int.reduceNe, Int.cast_ofNat_Int, Int.reduceNeg, reduceCtorEq, ne_eq, ge_iff_le, gt_iff_lt, beq_iff_eq, beq_eq_false_iff_ne, bne_iff_ne, bne_eq_false_iff_eq, nrm, *] at hc) <;> try (exfalso; omega))
| ((with_reducible first | apply opsF.und | apply dopsF.und); case hg => rfl)
| ((with_reducible apply stabF.und); rfl)
| ((with_reducible apply stabF.op); (case hs => first | exact tHT | exact tHS); case hv => exact tSV)
| ((with_reducible first | apply retF.r | apply retF.nn); case hv => exact tRS)
| ((refine Call.use (hG _) ?_)))
                all_goals exact ⟨⟨tk0, tk8, tk, rfl⟩, hEx.set (Nat.le_refl _) _⟩
              | false =>
                rw [hgd] at hG
                rw [if_neg (by simp)]
                clear hgd
                repeat' (first
| ((with_reducible first | apply opsF.op rfl | apply dopsF.op rfl); case hs => first | exact tHT | exact tHS)
| (with_reducible first | apply opsF.nil | apply seqF.nn | apply vcF.seq | apply vcF.region | apply vcF.dregion | apply vcF.skip | apply vcF.block | apply vcF.exit | apply vcF.ret | apply vcF.loop | apply seqF.e | apply seqF.r | apply blkF.nn | apply blkF.e | apply blkF.r | apply blkF.o rfl | apply dopsF.nil | apply stabsF.nil | apply stabsF.cons | apply dopsF.cont)
| ((with_reducible first | apply opsF.call | apply dopsF.call); case hx => exact tAG)
| ((with_reducible first | apply opsF.want | apply dopsF.want | apply stabF.want); (case hg => exact tEV); case hb => exact tNB)
| ((with_reducible first | apply opsF.skip | apply dopsF.skip | apply stabF.skip); (case hg => exact tEV); case hb => exact tNB)
| (first | ((with_reducible first | apply opsF.case | apply dopsF.case); case hg => exact tEV) | ((with_reducible apply vcF.cond); case hx => exact tEV)) <;> ((intro hc; try simp only [Int.reduceLT, Int.reduceLE, Int.reduceEq, Int.reduceNe, Int.cast_ofNat_Int, Int.reduceNeg, reduceCtorEq, ne_eq, ge_iff_le, gt_iff_lt, beq_iff_eq, beq_eq_false_iff_ne, bne_iff_ne, bne_eq_false_iff_eq, nrm, *] at hc) <;> try (exfalso; omega))
| ((with_reducible first | apply opsF.und | apply dopsF.und); case hg => rfl)
| ((with_reducible apply stabF.und); rfl)
| ((with_reducible apply stabF.op); (case hs => first | exact tHT | exact tHS); case hv => exact tSV)
| ((with_reducible first | apply retF.r | apply retF.nn); case hv => exact tRS)
| ((refine Call.use (hG _) ?_)))
                all_goals exact ⟨⟨.full, .full, .full, rfl⟩, hEx.set (Nat.le_refl _) _⟩
            · obtain ⟨r, bad', v, Lp, c9⟩ := line_step (w0 := w0) (h.n + 1) s false (by omega)
              have g11 := got_body (K := fun x => finM (n1, n2, n3, n4, n5, f, acc, mkO v8, x)) hg hs Lp
              have hrl := Lp.lt hs
              have hRB3 := hRB.add (v := v) hrl Lp.vlen
              clear hg Lp
              obtain ⟨tk1, h2, hap, hT2, hT3, hT4, hT5, hT6⟩ := (hT.set (i := h.n + 1) (o := rdC r bad')).app
              have hEq := Ext.transX (hEx.set (Nat.le_succ h.n) (rdC r bad')) hT6 (fun _ x => x.elim) hF
              have hnt := hEx.nt
              repeat' (first
| ((with_reducible first | apply opsF.op rfl | apply dopsF.op rfl); case hs => first | exact tHT | exact tHS)
| (with_reducible first | apply opsF.nil | apply seqF.nn | apply vcF.seq | apply vcF.region | apply vcF.dregion | apply vcF.skip | apply vcF.block | apply vcF.exit | apply vcF.ret | apply vcF.loop | apply seqF.e | apply seqF.r | apply blkF.nn | apply blkF.e | apply blkF.r | apply blkF.o rfl | apply dopsF.nil | apply stabsF.nil | apply stabsF.cons | apply dopsF.cont)
| ((with_reducible first | apply opsF.call | apply dopsF.call); case hx => exact tAG)
| ((with_reducible first | apply opsF.want | apply dopsF.want | apply stabF.want); (case hg => exact tEV); case hb => exact tNB)
| ((with_reducible first | apply opsF.skip | apply dopsF.skip | apply stabF.skip); (case hg => exact tEV); case hb => exact tNB)
| (first | ((with_reducible first | apply opsF.case | apply dopsF.case); case hg => exact tEV) | ((with_reducible apply vcF.cond); case hx => exact tEV)) <;> ((intro hc; try simp only [Int.reduceLT, Int.reduceLE, Int.reduceEq, Int.reduceNe, Int.cast_ofNat_Int, Int.reduceNeg, reduceCtorEq, ne_eq, ge_iff_le, gt_iff_lt, beq_iff_eq, beq_eq_false_iff_ne, bne_iff_ne, bne_eq_false_iff_eq, nrm, *] at hc) <;> try (exfalso; omega))
| ((with_reducible first | apply opsF.und | apply dopsF.und); case hg => rfl)
| ((with_reducible apply stabF.und); rfl)
| ((with_reducible apply stabF.op); (case hs => first | exact tHT | exact tHS); case hv => exact tSV)
| ((with_reducible first | apply retF.r | apply retF.nn); case hv => exact tRS)
| ((refine (c9 _ (by first | assumption | exact tHE) (by omega)).mono fun v h9 hp => ?_); obtain ⟨rfl, rfl⟩ := hp))
              all_goals (
                refine ⟨i - 1, by omega, ac2 ++ [v], r, bad', tk1, fun hb => by omega, hEq.set (by omega) _, ?_, ?_, ?_, ?_, hT2.set, ?_, g2, g4, g5, g11, hRB3⟩
                · simp only [set_n, hT5]; exact hn
                · simp (disch := omega) only [set_at, if_neg, hT4]; exact hz
                · simp (disch := omega) only [set_at, if_neg, hT4, if_pos]
                · simp only [set_at, if_pos]
                  simp [srows]
                · intro t ht
                  rcases hT3 t ht with hq | hq
                  · exact hF t hq
                  · exact Nat.le_trans hnt hq))
      | false =>
        by_cases hv : v9 = []
        · have g10 := g9 false (fun h => by cases h) (fun h => absurd hv h) (fun _ _ => rfl)
          clear g9
          subst hv
          repeat' (first
| ((with_reducible first | apply opsF.op rfl | apply dopsF.op rfl); case hs => first | exact tHT | exact tHS)
| (with_reducible first | apply opsF.nil | apply seqF.nn | apply vcF.seq | apply vcF.region | apply vcF.dregion | apply vcF.skip | apply vcF.block | apply vcF.exit | apply vcF.ret | apply vcF.loop | apply seqF.e | apply seqF.r | apply blkF.nn | apply blkF.e | apply blkF.r | apply blkF.o rfl | apply dopsF.nil | apply stabsF.nil | apply stabsF.cons | apply dopsF.cont)
| ((with_reducible first | apply opsF.call | apply dopsF.call); case hx => exact tAG)
| ((with_reducible first | apply opsF.want | apply dopsF.want | apply stabF.want); (case hg => exact tEV); case hb => exact tNB)
| ((with_reducible first | apply opsF.skip | apply dopsF.skip | apply stabF.skip); (case hg => exact tEV); case hb => exact tNB)
| (first | ((with_reducible first | apply opsF.case | apply dopsF.case); case hg => exact tEV) | ((with_reducible apply vcF.cond); case hx => exact tEV)) <;> ((intro hc; try simp only [Int.reduceLT, Int.reduceLE, Int.reduceEq, Int.reduceNe, Int.cast_ofNat_Int, Int.reduceNeg, reduceCtorEq, ne_eq, ge_iff_le, gt_iff_lt, beq_iff_eq, beq_eq_false_iff_ne, bne_iff_ne, bne_eq_false_iff_eq, nrm, *] at hc) <;> try (exfalso; omega))
| ((with_reducible first | apply opsF.und | apply dopsF.und); case hg => rfl)
| ((with_reducible apply stabF.und); rfl)
| ((with_reducible apply stabF.op); (case hs => first | exact tHT | exact tHS); case hv => exact tSV)
| ((with_reducible first | apply retF.r | apply retF.nn); case hv => exact tRS)
| ((refine Call.use (hpre _) ?_))
| ((refine (c8 _ (by first | assumption | exact tHE) (by omega)).mono fun v h8 hp => ?_); obtain ⟨⟨tk8, rfl⟩, hE8⟩ := hp; obtain ⟨q0, q1, q2, qn⟩ := after8 hE8 hn hz hm)
| ((refine (c9 _ (by rw [set_at, if_neg (by omega)]; exact q1) (by simp only [set_n]; omega)).mono fun v h9 hp => ?_); obtain ⟨rfl, rfl⟩ := hp))
          all_goals (
            refine LpF.ind rfl (fun i : Nat => i) (fun i σ hh => ∃ (ac2 : List L8) (s : L8) (bad : Bool) (tk : Tok), (bad = false → s.length < i) ∧ Ext h hh ∧ h.n + 2 < hh.n ∧ hh.objs h.n = some (.cells [.v (.int .i64 0), .v (.int .i64 0), .v (.int .i64 0), .v (.int .i64 0), .v (.int .i64 0), .v (.string (bs [])), .list 1 [] .full, .list 1 [] .full, .list 1 [] .full]) ∧ hh.objs (h.n + 1) = some (rdC s bad) ∧ hh.objs (h.n + 2) = some (.cells [.v (.int .i64 n1), .v (.int .i64 n2), .v (.int .i64 n3), .v (.int .i64 n4), .v (.int .i64 n5), .v (.string (bs f)), .list 1 (srows acc) tk0, .list 1 (irows (mkO v8)) tk8, .list 1 (srows ac2) tk]) ∧ TokU hh tk ∧ (∀ t, tk.owner = some t → h.nt ≤ t) ∧ σ 2 = .ptr h.n 0 ∧ σ 4 = .ptr (h.n + 1) 0 ∧ σ 5 = .ptr (h.n + 2) 0 ∧ HGot b bad ((bdO s).bind fun x => finM (n1, n2, n3, n4, n5, f, acc, mkO v8, ac2 ++ x)) ∧ RcB b ac2 s) ?_ (i := r9.length + 1)
              ⟨[], r9, _, .full, fun _ => Nat.lt_succ_self _, ?_, ?_, ?_, ?_, ?_, trivial, (fun t ht => by cases ht), g2, g4, g5, g10, hRB2⟩
            rotate_left
            · first
                | exact (((hEx.set (by omega) _).trans hE8).set (by omega) _).set (by omega) _
                | exact ((((hEx.set (by omega) _).trans hE8).set (by omega) _).set (by omega) _).set (by omega) _
            · simp only [set_n]; omega
            · simp (disch := omega) [set_at, q0, if_neg]
            · simp [set_at, rdC]
            · simp (disch := omega) [set_at, q2, if_neg, srows]
            clear g10 hRB2 hE8 q0 q1 q2 qn c8 c9 hEx hn hz ho hm hT hF g2 g4 g5 hRB hsl
            rintro i σ hh ⟨ac2, s, bad, tk, hlt, hEx, hn, hz, ho, hm, hT, hF, g2, g4, g5, hg, hRB⟩
            have hsl := hRB.len
            cases bad with
            | true =>
              have hD := got_bad hg
              clear hg hlt
              rw [hD]
              repeat' (first
| ((with_reducible first | apply opsF.op rfl | apply dopsF.op rfl); case hs => first | exact tHT | exact tHS)
| (with_reducible first | apply opsF.nil | apply seqF.nn | apply vcF.seq | apply vcF.region | apply vcF.dregion | apply vcF.skip | apply vcF.block | apply vcF.exit | apply vcF.ret | apply vcF.loop | apply seqF.e | apply seqF.r | apply blkF.nn | apply blkF.e | apply blkF.r | apply blkF.o rfl | apply dopsF.nil | apply stabsF.nil | apply stabsF.cons | apply dopsF.cont)
| ((with_reducible first | apply opsF.call | apply dopsF.call); case hx => exact tAG)
| ((with_reducible first | apply opsF.want | apply dopsF.want | apply stabF.want); (case hg => exact tEV); case hb => exact tNB)
| ((with_reducible first | apply opsF.skip | apply dopsF.skip | apply stabF.skip); (case hg => exact tEV); case hb => exact tNB)
| (first | ((with_reducible first | apply opsF.case | apply dopsF.case); case hg => exact tEV) | ((with_reducible apply vcF.cond); case hx => exact tEV)) <;> ((intro hc; try simp only [Int.reduceLT, Int.reduceLE, Int.reduceEq, Int.reduceNe, Int.cast_ofNat_Int, Int.reduceNeg, reduceCtorEq, ne_eq, ge_iff_le, gt_iff_lt, beq_iff_eq, beq_eq_false_iff_ne, bne_iff_ne, bne_eq_false_iff_eq, nrm, *] at hc) <;> try (exfalso; omega))
| ((with_reducible first | apply opsF.und | apply dopsF.und); case hg => rfl)
| ((with_reducible apply stabF.und); rfl)
| ((with_reducible apply stabF.op); (case hs => first | exact tHT | exact tHS); case hv => exact tSV)
| ((with_reducible first | apply retF.r | apply retF.nn); case hv => exact tRS))
              all_goals exact ⟨⟨.full, .full, .full, rfl⟩, hEx.set (Nat.le_refl _) _⟩
            | false =>
              have hlt := hlt rfl
              by_cases hs : s = []
              · have hD := got_ok (got_bend (K := fun x => finM (n1, n2, n3, n4, n5, f, acc, mkO v8, x)) hg (.inr hs))
                clear hg hlt
                subst hs
                rw [hD]
                have hMO : MOk (n1, n2, n3, n4, n5, f, acc, mkO v8, ac2) := ⟨by simp only; omega, by simp only; omega, fun x hx => by have := hRB0.mem x hx; omega, hmk, by simp only; omega, fun x hx => by have := hRB.mem x hx; omega⟩
                have hG := fun h => egood_call (w0 := w0) (n1, n2, n3, n4, n5, f, acc, mkO v8, ac2) tk0 tk8 tk h hMO
                unfold finM
                unfold msgC at hG
                dsimp only at hG
                clear hMO hD
                cases hgd : goodM (n1, n2, n3, n4, n5, f, acc, mkO v8, ac2) with
                | true =>
                  rw [hgd] at hG
                  rw [if_pos rfl]
                  clear hgd
                  repeat' (first
| ((with_reducible first | apply opsF.op rfl | apply dopsF.op rfl); case hs => first | exact tHT | exact tHS)
| (with_reducible first | apply opsF.nil | apply seqF.nn | apply vcF.seq | apply vcF.region | apply vcF.dregion | apply vcF.skip | apply vcF.block | apply vcF.exit | apply vcF.ret | apply vcF.loop | apply seqF.e | apply seqF.r | apply blkF.nn | apply blkF.e | apply blkF.r | apply blkF.o rfl | apply dopsF.nil | apply stabsF.nil | apply stabsF.cons | apply dopsF.cont)
| ((with_reducible first | apply opsF.call | apply dopsF.call); case hx => exact tAG)
| ((with_reducible first | apply opsF.want | apply dopsF.want | apply stabF.want); (case hg => exact tEV); case hb => exact tNB)
| ((with_reducible first | apply opsF.skip | apply dopsF.skip | apply stabF.skip); (case hg => exact tEV); case hb => exact tNB)
| (first | ((with_reducible first | apply opsF.case | apply dopsF.case); case hg => exact tEV) | ((with_reducible apply vcF.cond); case hx => exact tEV)) <;> ((intro hc; try simp only [Int.reduceLT, Int.reduceLE, Int.reduceEq, Int.reduceNe, Int.cast_ofNat_Int, Int.reduceNeg, reduceCtorEq, ne_eq, ge_iff_le, gt_iff_lt, beq_iff_eq, beq_eq_false_iff_ne, bne_iff_ne, bne_eq_false_iff_eq, nrm, *] at hc) <;> try (exfalso; omega))
| ((with_reducible first | apply opsF.und | apply dopsF.und); case hg => rfl)
| ((with_reducible apply stabF.und); rfl)
| ((with_reducible apply stabF.op); (case hs => first | exact tHT | exact tHS); case hv => exact tSV)
| ((with_reducible first | apply retF.r | apply retF.nn); case hv => exact tRS)
| ((refine Call.use (hG _) ?_)))
                  all_goals exact ⟨⟨tk0, tk8, tk, rfl⟩, hEx.set (Nat.le_refl _) _⟩
                | false =>
                  rw [hgd] at hG
                  rw [if_neg (by simp)]
                  clear hgd
                  repeat' (first
| ((with_reducible first | apply opsF.op rfl | apply dopsF.op rfl); case hs => first | exact tHT | exact tHS)
| (with_reducible first | apply opsF.nil | apply seqF.nn | apply vcF.seq | apply vcF.region | apply vcF.dregion | apply vcF.skip | apply vcF.block | apply vcF.exit | apply vcF.ret | apply vcF.loop | apply seqF.e | apply seqF.r | apply blkF.nn | apply blkF.e | apply blkF.r | apply blkF.o rfl | apply dopsF.nil | apply stabsF.nil | apply stabsF.cons | apply dopsF.cont)
| ((with_reducible first | apply opsF.call | apply dopsF.call); case hx => exact tAG)
| ((with_reducible first | apply opsF.want | apply dopsF.want | apply stabF.want); (case hg => exact tEV); case hb => exact tNB)
| ((with_reducible first | apply opsF.skip | apply dopsF.skip | apply stabF.skip); (case hg => exact tEV); case hb => exact tNB)
| (first | ((with_reducible first | apply opsF.case | apply dopsF.case); case hg => exact tEV) | ((with_reducible apply vcF.cond); case hx => exact tEV)) <;> ((intro hc; try simp only [Int.reduceLT, Int.reduceLE, Int.reduceEq, Int.reduceNe, Int.cast_ofNat_Int, Int.reduceNeg, reduceCtorEq, ne_eq, ge_iff_le, gt_iff_lt, beq_iff_eq, beq_eq_false_iff_ne, bne_iff_ne, bne_eq_false_iff_eq, nrm, *] at hc) <;> try (exfalso; omega))
| ((with_reducible first | apply opsF.und | apply dopsF.und); case hg => rfl)
| ((with_reducible apply stabF.und); rfl)
| ((with_reducible apply stabF.op); (case hs => first | exact tHT | exact tHS); case hv => exact tSV)
| ((with_reducible first | apply retF.r | apply retF.nn); case hv => exact tRS)
| ((refine Call.use (hG _) ?_)))
                  all_goals exact ⟨⟨.full, .full, .full, rfl⟩, hEx.set (Nat.le_refl _) _⟩
              · obtain ⟨r, bad', v, Lp, c9⟩ := line_step (w0 := w0) (h.n + 1) s false (by omega)
                have g11 := got_body (K := fun x => finM (n1, n2, n3, n4, n5, f, acc, mkO v8, x)) hg hs Lp
                have hrl := Lp.lt hs
                have hRB3 := hRB.add (v := v) hrl Lp.vlen
                clear hg Lp
                obtain ⟨tk1, h2, hap, hT2, hT3, hT4, hT5, hT6⟩ := (hT.set (i := h.n + 1) (o := rdC r bad')).app
                have hEq := Ext.transX (hEx.set (Nat.le_succ h.n) (rdC r bad')) hT6 (fun _ x => x.elim) hF
                have hnt := hEx.nt
                repeat' (first
| ((with_reducible first | apply opsF.op rfl | apply dopsF.op rfl); case hs => first | exact tHT | exact tHS)
| (with_reducible first | apply opsF.nil | apply seqF.nn | apply vcF.seq | apply vcF.region | apply vcF.dregion | apply vcF.skip | apply vcF.block | apply vcF.exit | apply vcF.ret | apply vcF.loop | apply seqF.e | apply seqF.r | apply blkF.nn | apply blkF.e | apply blkF.r | apply blkF.o rfl | apply dopsF.nil | apply stabsF.nil | apply stabsF.cons | apply dopsF.cont)
| ((with_reducible first | apply opsF.call | apply dopsF.call); case hx => exact tAG)
| ((with_reducible first | apply opsF.want | apply dopsF.want | apply stabF.want); (case hg => exact tEV); case hb => exact tNB)
| ((with_reducible first | apply opsF.skip | apply dopsF.skip | apply stabF.skip); (case hg => exact tEV); case hb => exact tNB)
| (first | ((with_reducible first | apply opsF.case | apply dopsF.case); case hg => exact tEV) | ((with_reducible apply vcF.cond); case hx => exact tEV)) <;> ((intro hc; try simp only [Int.reduceLT, Int.reduceLE, Int.reduceEq, Int.reduceNe, Int.cast_ofNat_Int, Int.reduceNeg, reduceCtorEq, ne_eq, ge_iff_le, gt_iff_lt, beq_iff_eq, beq_eq_false_iff_ne, bne_iff_ne, bne_eq_false_iff_eq, nrm, *] at hc) <;> try (exfalso; omega))
| ((with_reducible first | apply opsF.und | apply dopsF.und); case hg => rfl)
| ((with_reducible apply stabF.und); rfl)
| ((with_reducible apply stabF.op); (case hs => first | exact tHT | exact tHS); case hv => exact tSV)
| ((with_reducible first | apply retF.r | apply retF.nn); case hv => exact tRS)
| ((refine (c9 _ (by first | assumption | exact tHE) (by omega)).mono fun v h9 hp => ?_); obtain ⟨rfl, rfl⟩ := hp))
                all_goals (
                  refine ⟨i - 1, by omega, ac2 ++ [v], r, bad', tk1, fun hb => by omega, hEq.set (by omega) _, ?_, ?_, ?_, ?_, hT2.set, ?_, g2, g4, g5, g11, hRB3⟩
                  · simp only [set_n, hT5]; exact hn
                  · simp (disch := omega) only [set_at, if_neg, hT4]; exact hz
                  · simp (disch := omega) only [set_at, if_neg, hT4, if_pos]
                  · simp only [set_at, if_pos]
                    simp [srows]
                  · intro t ht
                    rcases hT3 t ht with hq | hq
                    · exact hF t hq
                    · exact Nat.le_trans hnt hq))
        · have g10 := g9 true (fun h => by cases h) (fun _ => rfl) (fun _ h => absurd h hv)
          clear g9
          repeat' (first
| ((with_reducible first | apply opsF.op rfl | apply dopsF.op rfl); case hs => first | exact tHT | exact tHS)
| (with_reducible first | apply opsF.nil | apply seqF.nn | apply vcF.seq | apply vcF.region | apply vcF.dregion | apply vcF.skip | apply vcF.block | apply vcF.exit | apply vcF.ret | apply vcF.loop | apply seqF.e | apply seqF.r | apply blkF.nn | apply blkF.e | apply blkF.r | apply blkF.o rfl | apply dopsF.nil | apply stabsF.nil | apply stabsF.cons | apply dopsF.cont)
| ((with_reducible first | apply opsF.call | apply dopsF.call); case hx => exact tAG)
| ((with_reducible first | apply opsF.want | apply dopsF.want | apply stabF.want); (case hg => exact tEV); case hb => exact tNB)
| ((with_reducible first | apply opsF.skip | apply dopsF.skip | apply stabF.skip); (case hg => exact tEV); case hb => exact tNB)
| (first | ((with_reducible first | apply opsF.case | apply dopsF.case); case hg => exact tEV) | ((with_reducible apply vcF.cond); case hx => exact tEV)) <;> ((intro hc; try simp only [Int.reduceLT, Int.reduceLE, Int.reduceEq, Int.reduceNe, Int.cast_ofNat_Int, Int.reduceNeg, reduceCtorEq, ne_eq, ge_iff_le, gt_iff_lt, beq_iff_eq, beq_eq_false_iff_ne, bne_iff_ne, bne_eq_false_iff_eq, nrm, *] at hc) <;> try (exfalso; omega))
| ((with_reducible first | apply opsF.und | apply dopsF.und); case hg => rfl)
| ((with_reducible apply stabF.und); rfl)
| ((with_reducible apply stabF.op); (case hs => first | exact tHT | exact tHS); case hv => exact tSV)
| ((with_reducible first | apply retF.r | apply retF.nn); case hv => exact tRS)
| ((refine Call.use (hpre _) ?_))
| ((refine (c8 _ (by first | assumption | exact tHE) (by omega)).mono fun v h8 hp => ?_); obtain ⟨⟨tk8, rfl⟩, hE8⟩ := hp; obtain ⟨q0, q1, q2, qn⟩ := after8 hE8 hn hz hm)
| ((refine (c9 _ (by rw [set_at, if_neg (by omega)]; exact q1) (by simp only [set_n]; omega)).mono fun v h9 hp => ?_); obtain ⟨rfl, rfl⟩ := hp))
          all_goals (
            refine LpF.ind rfl (fun i : Nat => i) (fun i σ hh => ∃ (ac2 : List L8) (s : L8) (bad : Bool) (tk : Tok), (bad = false → s.length < i) ∧ Ext h hh ∧ h.n + 2 < hh.n ∧ hh.objs h.n = some (.cells [.v (.int .i64 0), .v (.int .i64 0), .v (.int .i64 0), .v (.int .i64 0), .v (.int .i64 0), .v (.string (bs [])), .list 1 [] .full, .list 1 [] .full, .list 1 [] .full]) ∧ hh.objs (h.n + 1) = some (rdC s bad) ∧ hh.objs (h.n + 2) = some (.cells [.v (.int .i64 n1), .v (.int .i64 n2), .v (.int .i64 n3), .v (.int .i64 n4), .v (.int .i64 n5), .v (.string (bs f)), .list 1 (srows acc) tk0, .list 1 (irows (mkO v8)) tk8, .list 1 (srows ac2) tk]) ∧ TokU hh tk ∧ (∀ t, tk.owner = some t → h.nt ≤ t) ∧ σ 2 = .ptr h.n 0 ∧ σ 4 = .ptr (h.n + 1) 0 ∧ σ 5 = .ptr (h.n + 2) 0 ∧ HGot b bad ((bdO s).bind fun x => finM (n1, n2, n3, n4, n5, f, acc, mkO v8, ac2 ++ x)) ∧ RcB b ac2 s) ?_ (i := r9.length + 1)
              ⟨[], r9, _, .full, fun _ => Nat.lt_succ_self _, ?_, ?_, ?_, ?_, ?_, trivial, (fun t ht => by cases ht), g2, g4, g5, g10, hRB2⟩
            rotate_left
            · first
                | exact (((hEx.set (by omega) _).trans hE8).set (by omega) _).set (by omega) _
                | exact ((((hEx.set (by omega) _).trans hE8).set (by omega) _).set (by omega) _).set (by omega) _
            · simp only [set_n]; omega
            · simp (disch := omega) [set_at, q0, if_neg]
            · simp [set_at, rdC]
            · simp (disch := omega) [set_at, q2, if_neg, srows]
            clear g10 hRB2 hE8 q0 q1 q2 qn c8 c9 hEx hn hz ho hm hT hF g2 g4 g5 hRB hsl
            rintro i σ hh ⟨ac2, s, bad, tk, hlt, hEx, hn, hz, ho, hm, hT, hF, g2, g4, g5, hg, hRB⟩
            have hsl := hRB.len
            cases bad with
            | true =>
              have hD := got_bad hg
              clear hg hlt
              rw [hD]
              repeat' (first
| ((with_reducible first | apply opsF.op rfl | apply dopsF.op rfl); case hs => first | exact tHT | exact tHS)
| (with_reducible first | apply opsF.nil | apply seqF.nn | apply vcF.seq | apply vcF.region | apply vcF.dregion | apply vcF.skip | apply vcF.block | apply vcF.exit | apply vcF.ret | apply vcF.loop | apply seqF.e | apply seqF.r | apply blkF.nn | apply blkF.e | apply blkF.r | apply blkF.o rfl | apply dopsF.nil | apply stabsF.nil | apply stabsF.cons | apply dopsF.cont)
| ((with_reducible first | apply opsF.call | apply dopsF.call); case hx => exact tAG)
| ((with_reducible first | apply opsF.want | apply dopsF.want | apply stabF.want); (case hg => exact tEV); case hb => exact tNB)
| ((with_reducible first | apply opsF.skip | apply dopsF.skip | apply stabF.skip); (case hg => exact tEV); case hb => exact tNB)
| (first | ((with_reducible first | apply opsF.case | apply dopsF.case); case hg => exact tEV) | ((with_reducible apply vcF.cond); case hx => exact tEV)) <;> ((intro hc; try simp only [Int.reduceLT, Int.reduceLE, Int.reduceEq, Int.reduceNe, Int.cast_ofNat_Int, Int.reduceNeg, reduceCtorEq, ne_eq, ge_iff_le, gt_iff_lt, beq_iff_eq, beq_eq_false_iff_ne, bne_iff_ne, bne_eq_false_iff_eq, nrm, *] at hc) <;> try (exfalso; omega))
| ((with_reducible first | apply opsF.und | apply dopsF.und); case hg => rfl)
| ((with_reducible apply stabF.und); rfl)
| ((with_reducible apply stabF.op); (case hs => first | exact tHT | exact tHS); case hv => exact tSV)
| ((with_reducible first | apply retF.r | apply retF.nn); case hv => exact tRS))
              all_goals exact ⟨⟨.full, .full, .full, rfl⟩, hEx.set (Nat.le_refl _) _⟩
            | false =>
              have hlt := hlt rfl
              by_cases hs : s = []
              · have hD := got_ok (got_bend (K := fun x => finM (n1, n2, n3, n4, n5, f, acc, mkO v8, x)) hg (.inr hs))
                clear hg hlt
                subst hs
                rw [hD]
                have hMO : MOk (n1, n2, n3, n4, n5, f, acc, mkO v8, ac2) := ⟨by simp only; omega, by simp only; omega, fun x hx => by have := hRB0.mem x hx; omega, hmk, by simp only; omega, fun x hx => by have := hRB.mem x hx; omega⟩
                have hG := fun h => egood_call (w0 := w0) (n1, n2, n3, n4, n5, f, acc, mkO v8, ac2) tk0 tk8 tk h hMO
                unfold finM
                unfold msgC at hG
                dsimp only at hG
                clear hMO hD
                cases hgd : goodM (n1, n2, n3, n4, n5, f, acc, mkO v8, ac2) with
                | true =>
                  rw [hgd] at hG
                  rw [if_pos rfl]
                  clear hgd
                  repeat' (first
| ((with_reducible first | apply opsF.op rfl | apply dopsF.op rfl); case hs => first | exact tHT | exact tHS)
| (with_reducible first | apply opsF.nil | apply seqF.nn | apply vcF.seq | apply vcF.region | apply vcF.dregion | apply vcF.skip | apply vcF.block | apply vcF.exit | apply vcF.ret | apply vcF.loop | apply seqF.e | apply seqF.r | apply blkF.nn | apply blkF.e | apply blkF.r | apply blkF.o rfl | apply dopsF.nil | apply stabsF.nil | apply stabsF.cons | apply dopsF.cont)
| ((with_reducible first | apply opsF.call | apply dopsF.call); case hx => exact tAG)
| ((with_reducible first | apply opsF.want | apply dopsF.want | apply stabF.want); (case hg => exact tEV); case hb => exact tNB)
| ((with_reducible first | apply opsF.skip | apply dopsF.skip | apply stabF.skip); (case hg => exact tEV); case hb => exact tNB)
| (first | ((with_reducible first | apply opsF.case | apply dopsF.case); case hg => exact tEV) | ((with_reducible apply vcF.cond); case hx => exact tEV)) <;> ((intro hc; try simp only [Int.reduceLT, Int.reduceLE, Int.reduceEq, Int.reduceNe, Int.cast_ofNat_Int, Int.reduceNeg, reduceCtorEq, ne_eq, ge_iff_le, gt_iff_lt, beq_iff_eq, beq_eq_false_iff_ne, bne_iff_ne, bne_eq_false_iff_eq, nrm, *] at hc) <;> try (exfalso; omega))
| ((with_reducible first | apply opsF.und | apply dopsF.und); case hg => rfl)
| ((with_reducible apply stabF.und); rfl)
| ((with_reducible apply stabF.op); (case hs => first | exact tHT | exact tHS); case hv => exact tSV)
| ((with_reducible first | apply retF.r | apply retF.nn); case hv => exact tRS)
| ((refine Call.use (hG _) ?_)))
                  all_goals exact ⟨⟨tk0, tk8, tk, rfl⟩, hEx.set (Nat.le_refl _) _⟩
                | false =>
                  rw [hgd] at hG
                  rw [if_neg (by simp)]
                  clear hgd
                  repeat' (first
| ((with_reducible first | apply opsF.op rfl | apply dopsF.op rfl); case hs => first | exact tHT | exact tHS)
| (with_reducible first | apply opsF.nil | apply seqF.nn | apply vcF.seq | apply vcF.region | apply vcF.dregion | apply vcF.skip | apply vcF.block | apply vcF.exit | apply vcF.ret | apply vcF.loop | apply seqF.e | apply seqF.r | apply blkF.nn | apply blkF.e | apply blkF.r | apply blkF.o rfl | apply dopsF.nil | apply stabsF.nil | apply stabsF.cons | apply dopsF.cont)
| ((with_reducible first | apply opsF.call | apply dopsF.call); case hx => exact tAG)
| ((with_reducible first | apply opsF.want | apply dopsF.want | apply stabF.want); (case hg => exact tEV); case hb => exact tNB)
| ((with_reducible first | apply opsF.skip | apply dopsF.skip | apply stabF.skip); (case hg => exact tEV); case hb => exact tNB)
| (first | ((with_reducible first | apply opsF.case | apply dopsF.case); case hg => exact tEV) | ((with_reducible apply vcF.cond); case hx => exact tEV)) <;> ((intro hc; try simp only [Int.reduceLT, Int.reduceLE, Int.reduceEq, Int.reduceNe, Int.cast_ofNat_Int, Int.reduceNeg, reduceCtorEq, ne_eq, ge_iff_le, gt_iff_lt, beq_iff_eq, beq_eq_false_iff_ne, bne_iff_ne, bne_eq_false_iff_eq, nrm, *] at hc) <;> try (exfalso; omega))
| ((with_reducible first | apply opsF.und | apply dopsF.und); case hg => rfl)
| ((with_reducible apply stabF.und); rfl)
| ((with_reducible apply stabF.op); (case hs => first | exact tHT | exact tHS); case hv => exact tSV)
| ((with_reducible first | apply retF.r | apply retF.nn); case hv => exact tRS)
| ((refine Call.use (hG _) ?_)))
                  all_goals exact ⟨⟨.full, .full, .full, rfl⟩, hEx.set (Nat.le_refl _) _⟩
              · obtain ⟨r, bad', v, Lp, c9⟩ := line_step (w0 := w0) (h.n + 1) s false (by omega)
                have g11 := got_body (K := fun x => finM (n1, n2, n3, n4, n5, f, acc, mkO v8, x)) hg hs Lp
                have hrl := Lp.lt hs
                have hRB3 := hRB.add (v := v) hrl Lp.vlen
                clear hg Lp
                obtain ⟨tk1, h2, hap, hT2, hT3, hT4, hT5, hT6⟩ := (hT.set (i := h.n + 1) (o := rdC r bad')).app
                have hEq := Ext.transX (hEx.set (Nat.le_succ h.n) (rdC r bad')) hT6 (fun _ x => x.elim) hF
                have hnt := hEx.nt
                repeat' (first
| ((with_reducible first | apply opsF.op rfl | apply dopsF.op rfl); case hs => first | exact tHT | exact tHS)
| (with_reducible first | apply opsF.nil | apply seqF.nn | apply vcF.seq | apply vcF.region | apply vcF.dregion | apply vcF.skip | apply vcF.block | apply vcF.exit | apply vcF.ret | apply vcF.loop | apply seqF.e | apply seqF.r | apply blkF.nn | apply blkF.e | apply blkF.r | apply blkF.o rfl | apply dopsF.nil | apply stabsF.nil | apply stabsF.cons | apply dopsF.cont)
| ((with_reducible first | apply opsF.call | apply dopsF.call); case hx => exact tAG)
| ((with_reducible first | apply opsF.want | apply dopsF.want | apply stabF.want); (case hg => exact tEV); case hb => exact tNB)
| ((with_reducible first | apply opsF.skip | apply dopsF.skip | apply stabF.skip); (case hg => exact tEV); case hb => exact tNB)
| (first | ((with_reducible first | apply opsF.case | apply dopsF.case); case hg => exact tEV) | ((with_reducible apply vcF.cond); case hx => exact tEV)) <;> ((intro hc; try simp only [Int.reduceLT, Int.reduceLE, Int.reduceEq, Int.reduceNe, Int.cast_ofNat_Int, Int.reduceNeg, reduceCtorEq, ne_eq, ge_iff_le, gt_iff_lt, beq_iff_eq, beq_eq_false_iff_ne, bne_iff_ne, bne_eq_false_iff_eq, nrm, *] at hc) <;> try (exfalso; omega))
| ((with_reducible first | apply opsF.und | apply dopsF.und); case hg => rfl)
| ((with_reducible apply stabF.und); rfl)
| ((with_reducible apply stabF.op); (case hs => first | exact tHT | exact tHS); case hv => exact tSV)
| ((with_reducible first | apply retF.r | apply retF.nn); case hv => exact tRS)
| ((refine (c9 _ (by first | assumption | exact tHE) (by omega)).mono fun v h9 hp => ?_); obtain ⟨rfl, rfl⟩ := hp))
                all_goals (
                  refine ⟨i - 1, by omega, ac2 ++ [v], r, bad', tk1, fun hb => by omega, hEq.set (by omega) _, ?_, ?_, ?_, ?_, hT2.set, ?_, g2, g4, g5, g11, hRB3⟩
                  · simp only [set_n, hT5]; exact hn
                  · simp (disch := omega) only [set_at, if_neg, hT4]; exact hz
                  · simp (disch := omega) only [set_at, if_neg, hT4, if_pos]
                  · simp only [set_at, if_pos]
                    simp [srows]
                  · intro t ht
                    rcases hT3 t ht with hq | hq
                    · exact hF t hq
                    · exact Nat.le_trans hnt hq))
  · have hb : bad = false := by
      cases bad with
      | true => exact absurd (.inl rfl) hex
      | false => rfl
    subst hb
    have hp : preB (K7 ++ [32]) s = true := by
      cases hq : preB (K7 ++ [32]) s with
      | true => rfl
      | false => exact absurd (.inr hq) hex
    have hlt := hlt rfl
    have hsn : s ≠ [] := by
      rintro rfl
      exact absurd hp (by decide)
    obtain ⟨r, bad', v, St, Ip, vl, vlt, c7⟩ := val_step (w0 := w0) (h.n + 1) K7 s false (by omega) (by decide)
    have g7 := got_rcpt hg rfl hp St Ip
    have hrl := St.len
    have hpre := fun h => shasPG (w0 := w0) s (K7 ++ [32]) h
    rw [hp, show K7 ++ [32] = [114, 99, 112, 116, 32] from rfl] at hpre
    rw [show K7 = [114, 99, 112, 116] from rfl] at c7
    clear hg hex hp St Ip
    obtain ⟨tk1, h2, hap, hT2, hT3, hT4, hT5, hT6⟩ := (hT.set (i := h.n + 1) (o := rdC r bad')).app
    have hEq := Ext.transX (hEx.set (Nat.le_succ h.n) (rdC r bad')) hT6 (fun _ x => x.elim) hF
    have hnt := hEx.nt
    have hRB4 : RcB b (acc ++ [v]) r := hRB.add (vlt hsn) vl
    repeat' (first
| ((with_reducible first | apply opsF.op rfl | apply dopsF.op rfl); case hs => first | exact tHT | exact tHS)
| (with_reducible first | apply opsF.nil | apply seqF.nn | apply vcF.seq | apply vcF.region | apply vcF.dregion | apply vcF.skip | apply vcF.block | apply vcF.exit | apply vcF.ret | apply vcF.loop | apply seqF.e | apply seqF.r | apply blkF.nn | apply blkF.e | apply blkF.r | apply blkF.o rfl | apply dopsF.nil | apply stabsF.nil | apply stabsF.cons | apply dopsF.cont)
| ((with_reducible first | apply opsF.call | apply dopsF.call); case hx => exact tAG)
| ((with_reducible first | apply opsF.want | apply dopsF.want | apply stabF.want); (case hg => exact tEV); case hb => exact tNB)
| ((with_reducible first | apply opsF.skip | apply dopsF.skip | apply stabF.skip); (case hg => exact tEV); case hb => exact tNB)
| (first | ((with_reducible first | apply opsF.case | apply dopsF.case); case hg => exact tEV) | ((with_reducible apply vcF.cond); case hx => exact tEV)) <;> ((intro hc; try simp only [Int.reduceLT, Int.reduceLE, Int.reduceEq, Int.reduceNe, Int.cast_ofNat_Int, Int.reduceNeg, reduceCtorEq, ne_eq, ge_iff_le, gt_iff_lt, beq_iff_eq, beq_eq_false_iff_ne, bne_iff_ne, bne_eq_false_iff_eq, nrm, *] at hc) <;> try (exfalso; omega))
| ((with_reducible first | apply opsF.und | apply dopsF.und); case hg => rfl)
| ((with_reducible apply stabF.und); rfl)
| ((with_reducible apply stabF.op); (case hs => first | exact tHT | exact tHS); case hv => exact tSV)
| ((with_reducible first | apply retF.r | apply retF.nn); case hv => exact tRS)
| ((refine Call.use (hpre _) ?_))
| ((refine (c7 _ (by first | assumption | exact tHE) (by omega)).mono fun v h9 hp => ?_); obtain ⟨rfl, rfl⟩ := hp))
    all_goals (
      refine ⟨i - 1, by omega, acc ++ [v], r, bad', tk1, fun hb => by have := vlt hsn; omega, hEq.set (by omega) _, ?_, ?_, ?_, ?_, hT2.set, ?_, g2, g4, g5, g7, hRB4⟩
      · simp only [set_n, hT5]; exact hn
      · simp (disch := omega) only [set_at, if_neg, hT4]; exact hz
      · simp (disch := omega) only [set_at, if_neg, hT4, if_pos]
      · simp only [set_at, if_pos]
        simp [srows]
      · intro t ht
        rcases hT3 t ht with hq | hq
        · exact hF t hq
        · exact Nat.le_trans hnt hq)
theorem msg_plain (m : Msg) : Plain (.agg (msgC m .no .no .no)) := by
  refine Plain.aggv fun y hy => ?_
  simp only [msgC, List.mem_cons, List.not_mem_nil, or_false] at hy
  rcases hy with rfl | rfl | rfl | rfl | rfl | rfl | rfl | rfl | rfl
  · exact .v _
  · exact .v _
  · exact .v _
  · exact .v _
  · exact .v _
  · exact .v _
  · refine Plain.listv trivial fun r hr x hx => ?_
    simp only [srows, List.mem_map] at hr
    obtain ⟨b, _, rfl⟩ := hr
    rw [List.mem_singleton.1 hx]; exact .v _
  · refine Plain.listv trivial fun r hr x hx => ?_
    simp only [irows, List.mem_map] at hr
    obtain ⟨b, _, rfl⟩ := hr
    rw [List.mem_singleton.1 hx]; exact .v _
  · refine Plain.listv trivial fun r hr x hx => ?_
    simp only [srows, List.mem_map] at hr
    obtain ⟨b, _, rfl⟩ := hr
    rw [List.mem_singleton.1 hx]; exact .v _
theorem decV_plain (o : Option Msg) : Plain (decV o .no .no .no) := by
  cases o with
  | none =>
    refine Plain.tupv fun x hx => ?_
    simp only [List.mem_cons, List.not_mem_nil, or_false] at hx
    rcases hx with rfl | rfl
    · exact msg_plain _
    · exact .v _
  | some m =>
    refine Plain.tupv fun x hx => ?_
    simp only [List.mem_cons, List.not_mem_nil, or_false] at hx
    rcases hx with rfl | rfl
    · exact msg_plain _
    · exact .v _
theorem msg_le (m : Msg) (t1 t2 t3 : Tok) : (AV.agg (msgC m t1 t2 t3)).le (.agg (msgC m .no .no .no)) :=
  AV.le.agg (.cons (.refl _) (.cons (.refl _) (.cons (.refl _) (.cons (.refl _) (.cons (.refl _) (.cons (.refl _) (.cons AV.le.noTok (.cons AV.le.noTok (.cons AV.le.noTok .nil)))))))))
theorem decV_le (o : Option Msg) (t1 t2 t3 : Tok) : (decV o t1 t2 t3).le (decV o .no .no .no) := by
  cases o with
  | none => exact AV.le.tup (.cons (msg_le _ _ _ _) (.refl _))
  | some m => exact AV.le.tup (.cons (msg_le _ _ _ _) (.refl _))
/-- Decode: the message of a text. -/
theorem decode_call (hP : PowTab w0) (hE : ErrVars w0) (b : L8) (tok : Tok) (h : AH) (hl : b.length ≤ 1000000) : Call P w0 env_Decode [.list 1 (brows b) tok] h (fun v h' => v = decV (decM b) .no .no .no ∧ h' = h) :=
  Call.pure (decV_plain _) ((decode_raw hP hE b tok h hl).weak fun v h' hq => by
    obtain ⟨⟨t1, t2, t3, rfl⟩, hE⟩ := hq
    exact ⟨_, h', decV_le _ _ _ _, .refl _, rfl, hE⟩)
end Go.Abs.F
/- Layer 11: the same messages. -/
namespace Go.Abs.F
open Go Go.Abs
set_option maxRecDepth 10000
set_option maxHeartbeats 20000000
set_option linter.unusedSimpArgs false
set_option linter.unusedVariables false
variable {w0 : World}
def sameM (a b : Msg) : Bool := decide (a.1 = b.1) && decide (a.2.1 = b.2.1) && decide (a.2.2.1 = b.2.2.1) && decide (a.2.2.2.1 = b.2.2.2.1) && decide (a.2.2.2.2.1 = b.2.2.2.2.1) && decide (a.2.2.2.2.2.1 = b.2.2.2.2.2.1) && decide (a.2.2.2.2.2.2.1 = b.2.2.2.2.2.2.1) && decide (a.2.2.2.2.2.2.2.1 = b.2.2.2.2.2.2.2.1) && decide (a.2.2.2.2.2.2.2.2 = b.2.2.2.2.2.2.2.2)
theorem sameM_refl (a : Msg) : sameM a a = true := by simp [sameM]
theorem texts_call (a b : List (List UInt8)) (ta tb : Tok) (h : AH) (hl : a.length ≤ 140737488351232) : Call P w0 ref01_Texts [.list 1 (srows a) ta, .list 1 (srows b) tb] h (fun v h' => v = .v (.bool (decide (a = b))) ∧ h' = h) := by
  have xl := srows_len
  have xg := srows_get
  refine Call.bodyF b_ref01_Texts rfl rfl ?_
  unfold c_ref01_Texts
  repeat' (first
| ((with_reducible apply opsF.op rfl); case hs => first | exact tHT | exact tHS)
| (with_reducible first | apply opsF.nil | apply seqF.nn | apply vcF.seq | apply vcF.region | apply vcF.skip | apply vcF.block | apply vcF.exit | apply vcF.ret | apply vcF.loop | apply seqF.e | apply seqF.r | apply blkF.nn | apply blkF.e | apply blkF.r | apply blkF.o rfl)
| ((with_reducible apply opsF.call); case hx => exact tAG)
| ((with_reducible apply vcF.cond); case hx => exact tEV) <;> ((intro hc; try simp only [Int.reduceLT, Int.reduceLE, Int.reduceEq, Int.reduceNe, Int.cast_ofNat_Int, Int.reduceNeg, reduceCtorEq, ne_eq, ge_iff_le, gt_iff_lt, beq_iff_eq, beq_eq_false_iff_ne, bne_iff_ne, bne_eq_false_iff_eq, nrm, *] at hc) <;> try (exfalso; omega))
| ((with_reducible first | apply retF.r | apply retF.nn); case hv => exact tRS))
  · have : a ≠ b := by rintro rfl; simp at *
    simp [this]
  · refine LpF.ind rfl (fun i : Nat => a.length - i) (fun i σ h' => h' = h ∧ σ 0 = .list 1 (srows a) ta ∧ σ 1 = .list 1 (srows b) tb ∧ σ 5 = .v (.int .i64 (i : Nat)) ∧ i ≤ a.length ∧ a.take i = b.take i) ?_ (i := 0) ⟨rfl, rfl, rfl, rfl, Nat.zero_le _, rfl⟩
    rintro i σ h' ⟨rfl, h0, h1, h5, hi, he⟩
    have hlen : a.length = b.length := by omega
    rcases Nat.lt_or_ge i a.length with hlt | hge
    · have ha : a[i]? = some a[i] := List.getElem?_eq_getElem hlt
      have hb : b[i]? = some (b[i]'(by omega)) := List.getElem?_eq_getElem (by omega)
      repeat' (first
| ((with_reducible apply opsF.op rfl); case hs => first | exact tHT | exact tHS)
| (with_reducible first | apply opsF.nil | apply seqF.nn | apply vcF.seq | apply vcF.region | apply vcF.skip | apply vcF.block | apply vcF.exit | apply vcF.ret | apply vcF.loop | apply seqF.e | apply seqF.r | apply blkF.nn | apply blkF.e | apply blkF.r | apply blkF.o rfl)
| ((with_reducible apply opsF.call); case hx => exact tAG)
| ((with_reducible apply vcF.cond); case hx => exact tEV) <;> ((intro hc; try simp only [Int.reduceLT, Int.reduceLE, Int.reduceEq, Int.reduceNe, Int.cast_ofNat_Int, Int.reduceNeg, reduceCtorEq, ne_eq, ge_iff_le, gt_iff_lt, beq_iff_eq, beq_eq_false_iff_ne, bne_iff_ne, bne_eq_false_iff_eq, nrm, *] at hc) <;> try (exfalso; omega))
| ((with_reducible first | apply retF.r | apply retF.nn); case hv => exact tRS))
      · have : a ≠ b := by rintro rfl; simp at *
        simp [this]
      · refine ⟨i + 1, by omega, rfl, by assumption, by assumption, ?_, by omega, ?_⟩
        · exact rfl
        · rw [List.take_add_one, List.take_add_one, he, ha, hb, hc]
    · have : i = a.length := by omega
      subst this
      repeat' (first
| ((with_reducible apply opsF.op rfl); case hs => first | exact tHT | exact tHS)
| (with_reducible first | apply opsF.nil | apply seqF.nn | apply vcF.seq | apply vcF.region | apply vcF.skip | apply vcF.block | apply vcF.exit | apply vcF.ret | apply vcF.loop | apply seqF.e | apply seqF.r | apply blkF.nn | apply blkF.e | apply blkF.r | apply blkF.o rfl)
| ((with_reducible apply opsF.call); case hx => exact tAG)
| ((with_reducible apply vcF.cond); case hx => exact tEV) <;> ((intro hc; try simp only [Int.reduceLT, Int.reduceLE, Int.reduceEq, Int.reduceNe, Int.cast_ofNat_Int, Int.reduceNeg, reduceCtorEq, ne_eq, ge_iff_le, gt_iff_lt, beq_iff_eq, beq_eq_false_iff_ne, bne_iff_ne, bne_eq_false_iff_eq, nrm, *] at hc) <;> try (exfalso; omega))
| ((with_reducible first | apply retF.r | apply retF.nn); case hv => exact tRS))
      have : a = b := by
        rw [List.take_length, hlen, List.take_length] at he
        exact he
      simp [this]
theorem ints_call (a b : List Int) (ta tb : Tok) (h : AH) (hl : a.length ≤ 140737488351232) : Call P w0 ref08_Ints [.list 1 (irows a) ta, .list 1 (irows b) tb] h (fun v h' => v = .v (.bool (decide (a = b))) ∧ h' = h) := by
  have xl := irows_len
  have xg := irows_get
  refine Call.bodyF b_ref08_Ints rfl rfl ?_
  unfold c_ref08_Ints
  repeat' (first
| ((with_reducible apply opsF.op rfl); case hs => first | exact tHT | exact tHS)
| (with_reducible first | apply opsF.nil | apply seqF.nn | apply vcF.seq | apply vcF.region | apply vcF.skip | apply vcF.block | apply vcF.exit | apply vcF.ret | apply vcF.loop | apply seqF.e | apply seqF.r | apply blkF.nn | apply blkF.e | apply blkF.r | apply blkF.o rfl)
| ((with_reducible apply opsF.call); case hx => exact tAG)
| ((with_reducible apply vcF.cond); case hx => exact tEV) <;> ((intro hc; try simp only [Int.reduceLT, Int.reduceLE, Int.reduceEq, Int.reduceNe, Int.cast_ofNat_Int, Int.reduceNeg, reduceCtorEq, ne_eq, ge_iff_le, gt_iff_lt, beq_iff_eq, beq_eq_false_iff_ne, bne_iff_ne, bne_eq_false_iff_eq, nrm, *] at hc) <;> try (exfalso; omega))
| ((with_reducible first | apply retF.r | apply retF.nn); case hv => exact tRS))
  · have : a ≠ b := by rintro rfl; simp at *
    simp [this]
  · refine LpF.ind rfl (fun i : Nat => a.length - i) (fun i σ h' => h' = h ∧ σ 0 = .list 1 (irows a) ta ∧ σ 1 = .list 1 (irows b) tb ∧ σ 5 = .v (.int .i64 (i : Nat)) ∧ i ≤ a.length ∧ a.take i = b.take i) ?_ (i := 0) ⟨rfl, rfl, rfl, rfl, Nat.zero_le _, rfl⟩
    rintro i σ h' ⟨rfl, h0, h1, h5, hi, he⟩
    have hlen : a.length = b.length := by omega
    rcases Nat.lt_or_ge i a.length with hlt | hge
    · have ha : a[i]? = some a[i] := List.getElem?_eq_getElem hlt
      have hb : b[i]? = some (b[i]'(by omega)) := List.getElem?_eq_getElem (by omega)
      repeat' (first
| ((with_reducible apply opsF.op rfl); case hs => first | exact tHT | exact tHS)
| (with_reducible first | apply opsF.nil | apply seqF.nn | apply vcF.seq | apply vcF.region | apply vcF.skip | apply vcF.block | apply vcF.exit | apply vcF.ret | apply vcF.loop | apply seqF.e | apply seqF.r | apply blkF.nn | apply blkF.e | apply blkF.r | apply blkF.o rfl)
| ((with_reducible apply opsF.call); case hx => exact tAG)
| ((with_reducible apply vcF.cond); case hx => exact tEV) <;> ((intro hc; try simp only [Int.reduceLT, Int.reduceLE, Int.reduceEq, Int.reduceNe, Int.cast_ofNat_Int, Int.reduceNeg, reduceCtorEq, ne_eq, ge_iff_le, gt_iff_lt, beq_iff_eq, beq_eq_false_iff_ne, bne_iff_ne, bne_eq_false_iff_eq, nrm, *] at hc) <;> try (exfalso; omega))
| ((with_reducible first | apply retF.r | apply retF.nn); case hv => exact tRS))
      · have : a ≠ b := by rintro rfl; simp at *
        simp [this]
      · refine ⟨i + 1, by omega, rfl, by assumption, by assumption, ?_, by omega, ?_⟩
        · exact rfl
        · rw [List.take_add_one, List.take_add_one, he, ha, hb, hc]
    · have : i = a.length := by omega
      subst this
      repeat' (first
| ((with_reducible apply opsF.op rfl); case hs => first | exact tHT | exact tHS)
| (with_reducible first | apply opsF.nil | apply seqF.nn | apply vcF.seq | apply vcF.region | apply vcF.skip | apply vcF.block | apply vcF.exit | apply vcF.ret | apply vcF.loop | apply seqF.e | apply seqF.r | apply blkF.nn | apply blkF.e | apply blkF.r | apply blkF.o rfl)
| ((with_reducible apply opsF.call); case hx => exact tAG)
| ((with_reducible apply vcF.cond); case hx => exact tEV) <;> ((intro hc; try simp only [Int.reduceLT, Int.reduceLE, Int.reduceEq, Int.reduceNe, Int.cast_ofNat_Int, Int.reduceNeg, reduceCtorEq, ne_eq, ge_iff_le, gt_iff_lt, beq_iff_eq, beq_eq_false_iff_ne, bne_iff_ne, bne_eq_false_iff_eq, nrm, *] at hc) <;> try (exfalso; omega))
| ((with_reducible first | apply retF.r | apply retF.nn); case hv => exact tRS))
      have : a = b := by
        rw [List.take_length, hlen, List.take_length] at he
        exact he
      simp [this]
theorem rsame_call (a b : Msg) (t1 t2 t3 u1 u2 u3 : Tok) (h : AH) (l1 : a.2.2.2.2.2.2.1.length ≤ 140737488351232) (l2 : a.2.2.2.2.2.2.2.1.length ≤ 140737488351232) (l3 : a.2.2.2.2.2.2.2.2.length ≤ 140737488351232) :
    Call P w0 ref08_SameMessages [.agg (msgC a t1 t2 t3), .agg (msgC b u1 u2 u3)] h (fun v h' => v = .v (.bool (sameM a b)) ∧ h' = h) := by
  refine Call.pure (.v _) ?_
  obtain ⟨n1, n2, n3, n4, n5, f, rc, mk, bd⟩ := a
  obtain ⟨k1, k2, k3, k4, k5, g, rd, ml, be⟩ := b
  try simp only at l1 l2 l3
  have hR := fun h => texts_call (w0 := w0) rc rd t1 u1 h l1
  have hM := fun h => ints_call (w0 := w0) mk ml t2 u2 h l2
  have hB := fun h => texts_call (w0 := w0) bd be t3 u3 h l3
  have hE2 : ∀ o1 o2, Ext h ((h.alloc o1).alloc o2) := fun o1 o2 => (Ext.alloc _ _).trans (Ext.alloc _ _)
  refine Call.bodyF b_ref08_SameMessages rfl rfl ?_
  unfold c_ref08_SameMessages msgC
  dsimp only
  by_cases e1 : n1 = k1
  · subst e1
    by_cases e2 : n2 = k2
    · subst e2
      by_cases e3 : n3 = k3
      · subst e3
        by_cases e4 : n4 = k4
        · subst e4
          by_cases e5 : n5 = k5
          · subst e5
            by_cases e6 : f = g
            · subst e6
              by_cases e7 : rc = rd
              · rw [decide_eq_true e7] at hR
                by_cases e8 : mk = ml
                · rw [decide_eq_true e8] at hM
                  by_cases e9 : bd = be
                  · rw [decide_eq_true e9] at hB
                    rw [show sameM (n1, n2, n3, n4, n5, f, rc, mk, bd) (n1, n2, n3, n4, n5, f, rd, ml, be) = true by simp [sameM, e7, e8, e9]]
                    clear e7 e8 e9
                    repeat' (first
| ((with_reducible apply opsF.op rfl); case hs => first | exact tHT | exact tHS)
| (with_reducible first | apply opsF.nil | apply seqF.nn | apply vcF.seq | apply vcF.region | apply vcF.skip | apply vcF.ret | apply seqF.r)
| ((with_reducible apply opsF.call); case hx => exact tAG)
| ((with_reducible apply opsF.want); (case hg => exact tEV); case hb => exact tNB)
| ((with_reducible apply opsF.skip); (case hg => exact tEV); case hb => exact tNB)
| (first | ((with_reducible apply opsF.case); case hg => exact tEV) | ((with_reducible apply vcF.cond); case hx => exact tEV)) <;> ((intro hc; try simp only [Int.reduceLT, Int.reduceLE, Int.reduceEq, Int.reduceNe, Int.cast_ofNat_Int, Int.reduceNeg, reduceCtorEq, ne_eq, ge_iff_le, gt_iff_lt, beq_iff_eq, beq_eq_false_iff_ne, bne_iff_ne, bne_eq_false_iff_eq, nrm, *] at hc) <;> try (exfalso; omega))
| ((with_reducible apply opsF.und); case hg => rfl)
| ((with_reducible first | apply retF.r | apply retF.nn); case hv => exact tRS)
| ((refine Call.use (hR _) ?_))
| ((refine Call.use (hM _) ?_))
| ((refine Call.use (hB _) ?_)))
                    all_goals exact ⟨by first | rfl | simp, hE2 _ _⟩
                  · rw [decide_eq_false e9] at hB
                    rw [show sameM (n1, n2, n3, n4, n5, f, rc, mk, bd) (n1, n2, n3, n4, n5, f, rd, ml, be) = false by simp [sameM, e9]]
                    clear e7 e8 e9
                    repeat' (first
| ((with_reducible apply opsF.op rfl); case hs => first | exact tHT | exact tHS)
| (with_reducible first | apply opsF.nil | apply seqF.nn | apply vcF.seq | apply vcF.region | apply vcF.skip | apply vcF.ret | apply seqF.r)
| ((with_reducible apply opsF.call); case hx => exact tAG)
| ((with_reducible apply opsF.want); (case hg => exact tEV); case hb => exact tNB)
| ((with_reducible apply opsF.skip); (case hg => exact tEV); case hb => exact tNB)
| (first | ((with_reducible apply opsF.case); case hg => exact tEV) | ((with_reducible apply vcF.cond); case hx => exact tEV)) <;> ((intro hc; try simp only [Int.reduceLT, Int.reduceLE, Int.reduceEq, Int.reduceNe, Int.cast_ofNat_Int, Int.reduceNeg, reduceCtorEq, ne_eq, ge_iff_le, gt_iff_lt, beq_iff_eq, beq_eq_false_iff_ne, bne_iff_ne, bne_eq_false_iff_eq, nrm, *] at hc) <;> try (exfalso; omega))
| ((with_reducible apply opsF.und); case hg => rfl)
| ((with_reducible first | apply retF.r | apply retF.nn); case hv => exact tRS)
| ((refine Call.use (hR _) ?_))
| ((refine Call.use (hM _) ?_))
| ((refine Call.use (hB _) ?_)))
                    all_goals exact ⟨by first | rfl | simp, hE2 _ _⟩
                · rw [decide_eq_false e8] at hM
                  rw [show sameM (n1, n2, n3, n4, n5, f, rc, mk, bd) (n1, n2, n3, n4, n5, f, rd, ml, be) = false by simp [sameM, e8]]
                  clear e7 e8
                  repeat' (first
| ((with_reducible apply opsF.op rfl); case hs => first | exact tHT | exact tHS)
| (with_reducible first | apply opsF.nil | apply seqF.nn | apply vcF.seq | apply vcF.region | apply vcF.skip | apply vcF.ret | apply seqF.r)
| ((with_reducible apply opsF.call); case hx => exact tAG)
| ((with_reducible apply opsF.want); (case hg => exact tEV); case hb => exact tNB)
| ((with_reducible apply opsF.skip); (case hg => exact tEV); case hb => exact tNB)
| (first | ((with_reducible apply opsF.case); case hg => exact tEV) | ((with_reducible apply vcF.cond); case hx => exact tEV)) <;> ((intro hc; try simp only [Int.reduceLT, Int.reduceLE, Int.reduceEq, Int.reduceNe, Int.cast_ofNat_Int, Int.reduceNeg, reduceCtorEq, ne_eq, ge_iff_le, gt_iff_lt, beq_iff_eq, beq_eq_false_iff_ne, bne_iff_ne, bne_eq_false_iff_eq, nrm, *] at hc) <;> try (exfalso; omega))
| ((with_reducible apply opsF.und); case hg => rfl)
| ((with_reducible first | apply retF.r | apply retF.nn); case hv => exact tRS)
| ((refine Call.use (hR _) ?_))
| ((refine Call.use (hM _) ?_))
| ((refine Call.use (hB _) ?_)))
                  all_goals exact ⟨by first | rfl | simp, hE2 _ _⟩
              · rw [decide_eq_false e7] at hR
                rw [show sameM (n1, n2, n3, n4, n5, f, rc, mk, bd) (n1, n2, n3, n4, n5, f, rd, ml, be) = false by simp [sameM, e7]]
                clear e7
                repeat' (first
| ((with_reducible apply opsF.op rfl); case hs => first | exact tHT | exact tHS)
| (with_reducible first | apply opsF.nil | apply seqF.nn | apply vcF.seq | apply vcF.region | apply vcF.skip | apply vcF.ret | apply seqF.r)
| ((with_reducible apply opsF.call); case hx => exact tAG)
| ((with_reducible apply opsF.want); (case hg => exact tEV); case hb => exact tNB)
| ((with_reducible apply opsF.skip); (case hg => exact tEV); case hb => exact tNB)
| (first | ((with_reducible apply opsF.case); case hg => exact tEV) | ((with_reducible apply vcF.cond); case hx => exact tEV)) <;> ((intro hc; try simp only [Int.reduceLT, Int.reduceLE, Int.reduceEq, Int.reduceNe, Int.cast_ofNat_Int, Int.reduceNeg, reduceCtorEq, ne_eq, ge_iff_le, gt_iff_lt, beq_iff_eq, beq_eq_false_iff_ne, bne_iff_ne, bne_eq_false_iff_eq, nrm, *] at hc) <;> try (exfalso; omega))
| ((with_reducible apply opsF.und); case hg => rfl)
| ((with_reducible first | apply retF.r | apply retF.nn); case hv => exact tRS)
| ((refine Call.use (hR _) ?_))
| ((refine Call.use (hM _) ?_))
| ((refine Call.use (hB _) ?_)))
                all_goals exact ⟨by first | rfl | simp, hE2 _ _⟩
            · rw [show sameM (n1, n2, n3, n4, n5, f, rc, mk, bd) (n1, n2, n3, n4, n5, g, rd, ml, be) = false by simp [sameM, e6]]
              repeat' (first
| ((with_reducible apply opsF.op rfl); case hs => first | exact tHT | exact tHS)
| (with_reducible first | apply opsF.nil | apply seqF.nn | apply vcF.seq | apply vcF.region | apply vcF.skip | apply vcF.ret | apply seqF.r)
| ((with_reducible apply opsF.call); case hx => exact tAG)
| ((with_reducible apply opsF.want); (case hg => exact tEV); case hb => exact tNB)
| ((with_reducible apply opsF.skip); (case hg => exact tEV); case hb => exact tNB)
| (first | ((with_reducible apply opsF.case); case hg => exact tEV) | ((with_reducible apply vcF.cond); case hx => exact tEV)) <;> ((intro hc; try simp only [Int.reduceLT, Int.reduceLE, Int.reduceEq, Int.reduceNe, Int.cast_ofNat_Int, Int.reduceNeg, reduceCtorEq, ne_eq, ge_iff_le, gt_iff_lt, beq_iff_eq, beq_eq_false_iff_ne, bne_iff_ne, bne_eq_false_iff_eq, nrm, *] at hc) <;> try (exfalso; omega))
| ((with_reducible apply opsF.und); case hg => rfl)
| ((with_reducible first | apply retF.r | apply retF.nn); case hv => exact tRS)
| ((refine Call.use (hR _) ?_))
| ((refine Call.use (hM _) ?_))
| ((refine Call.use (hB _) ?_)))
              all_goals exact ⟨by first | rfl | simp, hE2 _ _⟩
          · rw [show sameM (n1, n2, n3, n4, n5, f, rc, mk, bd) (n1, n2, n3, n4, k5, g, rd, ml, be) = false by simp [sameM, e5]]
            repeat' (first
| ((with_reducible apply opsF.op rfl); case hs => first | exact tHT | exact tHS)
| (with_reducible first | apply opsF.nil | apply seqF.nn | apply vcF.seq | apply vcF.region | apply vcF.skip | apply vcF.ret | apply seqF.r)
| ((with_reducible apply opsF.call); case hx => exact tAG)
| ((with_reducible apply opsF.want); (case hg => exact tEV); case hb => exact tNB)
| ((with_reducible apply opsF.skip); (case hg => exact tEV); case hb => exact tNB)
| (first | ((with_reducible apply opsF.case); case hg => exact tEV) | ((with_reducible apply vcF.cond); case hx => exact tEV)) <;> ((intro hc; try simp only [Int.reduceLT, Int.reduceLE, Int.reduceEq, Int.reduceNe, Int.cast_ofNat_Int, Int.reduceNeg, reduceCtorEq, ne_eq, ge_iff_le, gt_iff_lt, beq_iff_eq, beq_eq_false_iff_ne, bne_iff_ne, bne_eq_false_iff_eq, nrm, *] at hc) <;> try (exfalso; omega))
| ((with_reducible apply opsF.und); case hg => rfl)
| ((with_reducible first | apply retF.r | apply retF.nn); case hv => exact tRS)
| ((refine Call.use (hR _) ?_))
| ((refine Call.use (hM _) ?_))
| ((refine Call.use (hB _) ?_)))
            all_goals exact ⟨by first | rfl | simp, hE2 _ _⟩
        · rw [show sameM (n1, n2, n3, n4, n5, f, rc, mk, bd) (n1, n2, n3, k4, k5, g, rd, ml, be) = false by simp [sameM, e4]]
          repeat' (first
| ((with_reducible apply opsF.op rfl); case hs => first | exact tHT | exact tHS)
| (with_reducible first | apply opsF.nil | apply seqF.nn | apply vcF.seq | apply vcF.region | apply vcF.skip | apply vcF.ret | apply seqF.r)
| ((with_reducible apply opsF.call); case hx => exact tAG)
| ((with_reducible apply opsF.want); (case hg => exact tEV); case hb => exact tNB)
| ((with_reducible apply opsF.skip); (case hg => exact tEV); case hb => exact tNB)
| (first | ((with_reducible apply opsF.case); case hg => exact tEV) | ((with_reducible apply vcF.cond); case hx => exact tEV)) <;> ((intro hc; try simp only [Int.reduceLT, Int.reduceLE, Int.reduceEq, Int.reduceNe, Int.cast_ofNat_Int, Int.reduceNeg, reduceCtorEq, ne_eq, ge_iff_le, gt_iff_lt, beq_iff_eq, beq_eq_false_iff_ne, bne_iff_ne, bne_eq_false_iff_eq, nrm, *] at hc) <;> try (exfalso; omega))
| ((with_reducible apply opsF.und); case hg => rfl)
| ((with_reducible first | apply retF.r | apply retF.nn); case hv => exact tRS)
| ((refine Call.use (hR _) ?_))
| ((refine Call.use (hM _) ?_))
| ((refine Call.use (hB _) ?_)))
          all_goals exact ⟨by first | rfl | simp, hE2 _ _⟩
      · rw [show sameM (n1, n2, n3, n4, n5, f, rc, mk, bd) (n1, n2, k3, k4, k5, g, rd, ml, be) = false by simp [sameM, e3]]
        repeat' (first
| ((with_reducible apply opsF.op rfl); case hs => first | exact tHT | exact tHS)
| (with_reducible first | apply opsF.nil | apply seqF.nn | apply vcF.seq | apply vcF.region | apply vcF.skip | apply vcF.ret | apply seqF.r)
| ((with_reducible apply opsF.call); case hx => exact tAG)
| ((with_reducible apply opsF.want); (case hg => exact tEV); case hb => exact tNB)
| ((with_reducible apply opsF.skip); (case hg => exact tEV); case hb => exact tNB)
| (first | ((with_reducible apply opsF.case); case hg => exact tEV) | ((with_reducible apply vcF.cond); case hx => exact tEV)) <;> ((intro hc; try simp only [Int.reduceLT, Int.reduceLE, Int.reduceEq, Int.reduceNe, Int.cast_ofNat_Int, Int.reduceNeg, reduceCtorEq, ne_eq, ge_iff_le, gt_iff_lt, beq_iff_eq, beq_eq_false_iff_ne, bne_iff_ne, bne_eq_false_iff_eq, nrm, *] at hc) <;> try (exfalso; omega))
| ((with_reducible apply opsF.und); case hg => rfl)
| ((with_reducible first | apply retF.r | apply retF.nn); case hv => exact tRS)
| ((refine Call.use (hR _) ?_))
| ((refine Call.use (hM _) ?_))
| ((refine Call.use (hB _) ?_)))
        all_goals exact ⟨by first | rfl | simp, hE2 _ _⟩
    · rw [show sameM (n1, n2, n3, n4, n5, f, rc, mk, bd) (n1, k2, k3, k4, k5, g, rd, ml, be) = false by simp [sameM, e2]]
      repeat' (first
| ((with_reducible apply opsF.op rfl); case hs => first | exact tHT | exact tHS)
| (with_reducible first | apply opsF.nil | apply seqF.nn | apply vcF.seq | apply vcF.region | apply vcF.skip | apply vcF.ret | apply seqF.r)
| ((with_reducible apply opsF.call); case hx => exact tAG)
| ((with_reducible apply opsF.want); (case hg => exact tEV); case hb => exact tNB)
| ((with_reducible apply opsF.skip); (case hg => exact tEV); case hb => exact tNB)
| (first | ((with_reducible apply opsF.case); case hg => exact tEV) | ((with_reducible apply vcF.cond); case hx => exact tEV)) <;> ((intro hc; try simp only [Int.reduceLT, Int.reduceLE, Int.reduceEq, Int.reduceNe, Int.cast_ofNat_Int, Int.reduceNeg, reduceCtorEq, ne_eq, ge_iff_le, gt_iff_lt, beq_iff_eq, beq_eq_false_iff_ne, bne_iff_ne, bne_eq_false_iff_eq, nrm, *] at hc) <;> try (exfalso; omega))
| ((with_reducible apply opsF.und); case hg => rfl)
| ((with_reducible first | apply retF.r | apply retF.nn); case hv => exact tRS)
| ((refine Call.use (hR _) ?_))
| ((refine Call.use (hM _) ?_))
| ((refine Call.use (hB _) ?_)))
      all_goals exact ⟨by first | rfl | simp, hE2 _ _⟩
  · rw [show sameM (n1, n2, n3, n4, n5, f, rc, mk, bd) (k1, k2, k3, k4, k5, g, rd, ml, be) = false by simp [sameM, e1]]
    repeat' (first
| ((with_reducible apply opsF.op rfl); case hs => first | exact tHT | exact tHS)
| (with_reducible first | apply opsF.nil | apply seqF.nn | apply vcF.seq | apply vcF.region | apply vcF.skip | apply vcF.ret | apply seqF.r)
| ((with_reducible apply opsF.call); case hx => exact tAG)
| ((with_reducible apply opsF.want); (case hg => exact tEV); case hb => exact tNB)
| ((with_reducible apply opsF.skip); (case hg => exact tEV); case hb => exact tNB)
| (first | ((with_reducible apply opsF.case); case hg => exact tEV) | ((with_reducible apply vcF.cond); case hx => exact tEV)) <;> ((intro hc; try simp only [Int.reduceLT, Int.reduceLE, Int.reduceEq, Int.reduceNe, Int.cast_ofNat_Int, Int.reduceNeg, reduceCtorEq, ne_eq, ge_iff_le, gt_iff_lt, beq_iff_eq, beq_eq_false_iff_ne, bne_iff_ne, bne_eq_false_iff_eq, nrm, *] at hc) <;> try (exfalso; omega))
| ((with_reducible apply opsF.und); case hg => rfl)
| ((with_reducible first | apply retF.r | apply retF.nn); case hv => exact tRS)
| ((refine Call.use (hR _) ?_))
| ((refine Call.use (hM _) ?_))
| ((refine Call.use (hB _) ?_)))
    all_goals exact ⟨by first | rfl | simp, hE2 _ _⟩
end Go.Abs.F
