/- What the proof needs, part 21: Layer 6: a peer's session: its object; what it says; Layer 6: a peer's session: EHLO, MAIL, RCPT, DATA; Layer 6: a peer's session: RCPT, DATA; a command; Layer 6: a peer's session: a command is taken; Layer 6: a peer's session: a line of a body; Layer 6: a peer's session: a line is taken; Layer 6: a peer's session: bytes come; is it over; a session that is none; Layer 6: a peer's session: an answer. -/
import Derived.Test.YtlmgpkopcgcbgaaGreatDoorQServeParts17
import Derived.Test.YtlmgpkopcgcbgaaGreatDoorQServeParts19
import Derived.Test.YtlmgpkopcgcbgaaGreatDoorQServeParts14
import Derived.Test.YtlmgpkopcgcbgaaGreatDoorQServeParts20
import Derived.Test.YtlmgpkopcgcbgaaGreatDoorQServeParts11
import Derived.Test.YtlmgpkopcgcbgaaGreatDoorQServeParts18
/- Layer 6: a peer's session: its object; what it says. -/
namespace Go.Abs.F
open Go Go.Abs
set_option maxRecDepth 10000
set_option maxHeartbeats 20000000
set_option linter.unusedSimpArgs false
set_option linter.unusedVariables false
variable {w0 : World}
theorem set_set (h : AH) (i : Nat) (a b : AObj) : (h.set i a).set i b = h.set i b := by
  cases h
  simp only [AH.set, AH.mk.injEq, and_true, true_and]
  funext j
  split <;> rfl
/-- An event. -/
structure Ev where
  kind : Int
  text : L8
  size : Int
  sndr : L8
  rc : List L8
  bd : List L8
def erow (e : Ev) : List AV := [.v (.int .i64 e.kind), .v (.string (bs e.text)), .v (.int .i64 e.size), .v (.string (bs e.sndr)), .list 1 (srows e.rc) .no, .list 1 (srows e.bd) .no]
def erows (l : List Ev) : List (List AV) := l.map erow
theorem erows_len (l : List Ev) : (erows l).length = l.length := by simp [erows]
theorem erows_app (l m : List Ev) : erows (l ++ m) = erows l ++ erows m := by simp [erows]
def evSay (t : L8) : Ev := ⟨1, t, 0, [], [], []⟩
def evShut : Ev := ⟨5, [], 0, [], [], []⟩
/-- A session: how it is, what waits, what is to be said, what is asked, where it is. -/
structure SV where
  host : L8
  size : Int
  rmax : Int
  drain : Bool
  wait : L8
  out : List Ev
  asked : Option Ev
  greeted : Bool
  sender : Bool
  sndr : L8
  rcpts : List L8
  body : Bool
  bad : Bool
  bsize : Int
  text : List L8
  over : Bool
/-- Where it lies: its object, its reader of lines. -/
structure SK where
  id : Nat
  lid : Nat
def SK.ids (x : SK) : List Nat := [x.id, x.lid]
def vcel (x : SK) (s : SV) (ap : AV) (tq tr tt : Tok) : List AV := [.v (.string (bs s.host)), .v (.int .i64 s.size), .v (.int .i64 s.rmax), .v (.bool s.drain), .ptr x.lid 0, .list 6 (erows s.out) tq, ap, .v (.bool s.greeted), .v (.bool s.sender), .v (.string (bs s.sndr)), .list 1 (srows s.rcpts) tr, .v (.bool s.body), .v (.bool s.bad), .v (.int .i64 s.bsize), .list 1 (srows s.text) tt, .v (.bool s.over)]
def Asked (h : AH) (x : SK) (ap : AV) : Option Ev → Prop
  | none => ap = .v (.pointer none)
  | some e => ∃ aid, ap = .ptr aid 0 ∧ h.objs aid = some (.cells (erow e)) ∧ aid < h.n ∧ ¬ aid ∈ x.ids
structure SvO (h : AH) (x : SK) (s : SV) (ap : AV) (tq tr tt tl : Tok) : Prop where
  o : h.objs x.id = some (.cells (vcel x s ap tq tr tt))
  a : Asked h x ap s.asked
  l : h.objs x.lid = some (.cells [.list 1 (brows s.wait) tl])
  lt : x.id < h.n ∧ x.lid < h.n
  ne : x.id ≠ x.lid
theorem Asked.fr {h h' : AH} {x : SK} {ap : AV} {q : Option Ev} (k : Asked h x ap q) {I : List Nat} (e : Fr I h h') (hd : ∀ i, ¬ i ∈ x.ids → i < h.n → ¬ i ∈ I) : Asked h' x ap q := by
  cases q with
  | none => exact k
  | some ev =>
    obtain ⟨aid, h1, h2, h3, h4⟩ := k
    exact ⟨aid, h1, (e.o aid h3 (hd aid h4 h3)).trans h2, Nat.lt_of_lt_of_le h3 e.n, h4⟩
theorem SvO.fr {h h' : AH} {x : SK} {s : SV} {ap : AV} {tq tr tt tl : Tok} (H : SvO h x s ap tq tr tt tl) (e : Fr [] h h') : SvO h' x s ap tq tr tt tl :=
  ⟨(e.o _ H.lt.1 (by simp)).trans H.o, H.a.fr e (by simp), (e.o _ H.lt.2 (by simp)).trans H.l, ⟨Nat.lt_of_lt_of_le H.lt.1 e.n, Nat.lt_of_lt_of_le H.lt.2 e.n⟩, H.ne⟩
theorem SvO.ext {h h' : AH} {x : SK} {s : SV} {ap : AV} {tq tr tt tl : Tok} (H : SvO h x s ap tq tr tt tl) (e : Ext h h') : SvO h' x s ap tq tr tt tl := H.fr (.ext e)
/-- Its cells are others; what waits and what is asked are the same. -/
theorem SvO.upd {h h2 : AH} {x : SK} {s s' : SV} {ap : AV} {tq tr tt tl tq' tr' tt' : Tok} (H : SvO h x s ap tq tr tt tl) (e : Fr [] h h2) (e1 : s'.wait = s.wait) (e2 : s'.asked = s.asked) : SvO (h2.set x.id (.cells (vcel x s' ap tq' tr' tt'))) x s' ap tq' tr' tt' tl := by
  have H2 := H.fr e
  refine ⟨by rw [set_at, if_pos rfl], ?_, by rw [set_at, if_neg (Ne.symm H.ne), e1]; exact H2.l, H2.lt, H.ne⟩
  rw [e2]
  exact H2.a.fr ((Fr.refl [x.id] h2).set (.inl (by simp)) _) fun i hi _ hj => hi (by simp at hj; simp [SK.ids, hj])
theorem row_le {t1 t2 : Tok} (e : Ev) : CLe [.v (.int .i64 e.kind), .v (.string (bs e.text)), .v (.int .i64 e.size), .v (.string (bs e.sndr)), .list 1 (srows e.rc) t1, .list 1 (srows e.bd) t2] (erow e) :=
  .cons (.refl _) (.cons (.refl _) (.cons (.refl _) (.cons (.refl _) (.cons .noTok (.cons .noTok .nil)))))
theorem rows_le {rows : List (List AV)} {r r' : List AV} (h : CLe r r') {tk : Tok} : (AV.list 6 (rows ++ [r]) tk).le (.list 6 (rows ++ [r']) tk) := by
  refine AV.le.list (by simp) fun i hi hi' => ?_
  by_cases hl : i < rows.length
  · rw [List.getElem_append_left hl, List.getElem_append_left hl]; exact .refl _
  · have e : i = rows.length := by simp at hi; omega
    subst e
    simp
    exact h
def SV.put (s : SV) (e : Ev) : SV := { s with out := s.out ++ [e] }
def SV.say (s : SV) (c : Int) : SV := s.put (evSay (plainS c))
def SV.shut (s : SV) : SV := { s.put evShut with over := true }
/-- An event is put, whatever the tokens of its lists. -/
theorem SvO.put {h h2 : AH} {x : SK} {s : SV} {ap : AV} {tq tr tt tl tq' : Tok} (H : SvO h x s ap tq tr tt tl) (e : Fr [] h h2) (ev : Ev) {r : List AV} (hr : CLe r (erow ev)) (ov : Bool) :
    ∃ h3, (h2.set x.id (.cells [.v (.string (bs s.host)), .v (.int .i64 s.size), .v (.int .i64 s.rmax), .v (.bool s.drain), .ptr x.lid 0, .list 6 (erows s.out ++ [r]) tq', ap, .v (.bool s.greeted), .v (.bool s.sender), .v (.string (bs s.sndr)), .list 1 (srows s.rcpts) tr, .v (.bool s.body), .v (.bool s.bad), .v (.int .i64 s.bsize), .list 1 (srows s.text) tt, .v (.bool ov)])).le h3 ∧ h3 = h2.set x.id (.cells (vcel x { s.put ev with over := ov } ap tq' tr tt)) ∧ SvO h3 x { s.put ev with over := ov } ap tq' tr tt tl := by
  refine ⟨_, ?_, rfl, H.upd e rfl rfl⟩
  rw [← set_set h2 x.id (.cells [.v (.string (bs s.host)), .v (.int .i64 s.size), .v (.int .i64 s.rmax), .v (.bool s.drain), .ptr x.lid 0, .list 6 (erows s.out ++ [r]) tq', ap, .v (.bool s.greeted), .v (.bool s.sender), .v (.string (bs s.sndr)), .list 1 (srows s.rcpts) tr, .v (.bool s.body), .v (.bool s.bad), .v (.int .i64 s.bsize), .list 1 (srows s.text) tt, .v (.bool ov)]) (.cells (vcel x { s.put ev with over := ov } ap tq' tr tt))]
  refine AH.le.cells (by rw [set_at, if_pos rfl]) ?_
  show CLe _ (vcel x { s.put ev with over := ov } ap tq' tr tt)
  unfold vcel SV.put
  dsimp only
  rw [erows_app]
  refine .cons (.refl _) (.cons (.refl _) (.cons (.refl _) (.cons (.refl _) (.cons (.refl _) (.cons (rows_le hr) (.refl _))))))
theorem ssay_call (hP : PowTab w0) (x : SK) (s : SV) (ap : AV) (tq tr tt tl : Tok) (R : List Tok) (c : Int) (h : AH) (H : SvO h x s ap tq tr tt tl) (hT : Toks h (tq :: R)) (ho : s.out.length ≤ 1000000000) :
    Call P w0 serve_Server_say [.ptr x.id 0, .v (.int .i64 c)] h (fun v h' => ∃ tq', SvO h' x (s.say c) ap tq' tr tt tl ∧ Toks h' (tq' :: R) ∧ Fr x.ids h h') := by
  obtain ⟨tq', h2, hap, hT2, h4, h5, h6⟩ := hT.app
  have hob := H.o
  have xl := erows_len s.out
  have hpl := fun h => pplain_call (w0 := w0) hP c h
  obtain ⟨h3, k1, k2, k3⟩ := H.put (h2 := h2) (tq' := tq') ((Fr.refl [] h).app h4 h5 h6) (evSay (plainS c)) (row_le (t1 := .full) (t2 := .full) (evSay (plainS c))) s.over
  have F3 : Fr x.ids h h3 := by rw [k2]; exact ((Fr.refl x.ids h).app h4 h5 h6).set (.inl (by simp [SK.ids])) _
  have T3 : Toks h3 (tq' :: R) := by rw [k2]; exact hT2.set
  unfold vcel at hob
  refine Call.weak (Q := fun v h' => h' = _) ?_ fun v h' hq => ⟨v, h3, .refl _, hq ▸ k1, tq', k3, T3, F3⟩
  unfold evSay
  dsimp only
  generalize plainS c = B at *
  refine Call.bodyF b_serve_Server_say rfl rfl ?_
  unfold c_serve_Server_say
  repeat' (first
| ((with_reducible first | apply opsF.op rfl | apply dopsF.op rfl); case hs => first | exact tHT | exact tHS)
| (with_reducible first | apply opsF.nil | apply seqF.nn | apply vcF.seq | apply vcF.region | apply vcF.dregion | apply vcF.skip | apply vcF.ret | apply seqF.r | apply dopsF.nil | apply stabsF.nil | apply stabsF.cons | apply dopsF.cont)
| ((with_reducible first | apply opsF.call | apply dopsF.call); case hx => exact tAG)
| ((with_reducible first | apply opsF.want | apply dopsF.want | apply stabF.want); (case hg => exact tEV); case hb => exact tNB)
| ((with_reducible first | apply opsF.skip | apply dopsF.skip | apply stabF.skip); (case hg => exact tEV); case hb => exact tNB)
| (first | ((with_reducible first | apply opsF.case | apply dopsF.case); case hg => exact tEV) | ((with_reducible apply vcF.cond); case hx => exact tEV)) <;> ((intro hc; try simp only [Int.reduceLT, Int.reduceLE, Int.reduceEq, Int.reduceNe, Int.cast_ofNat_Int, Int.reduceNeg, reduceCtorEq, ne_eq, ge_iff_le, gt_iff_lt, beq_iff_eq, beq_eq_false_iff_ne, bne_iff_ne, bne_eq_false_iff_eq, nrm, *] at hc) <;> try (exfalso; omega))
| ((with_reducible first | apply opsF.und | apply dopsF.und); case hg => rfl)
| ((with_reducible apply stabF.und); rfl)
| ((with_reducible apply stabF.op); (case hs => first | exact tHT | exact tHS); case hv => exact tSV)
| ((with_reducible first | apply retF.r | apply retF.nn); case hv => exact tRS)
| ((refine Call.use (hpl _) ?_))
| fail)
  all_goals rfl
theorem sshut_call (x : SK) (s : SV) (ap : AV) (tq tr tt tl : Tok) (R : List Tok) (h : AH) (H : SvO h x s ap tq tr tt tl) (hT : Toks h (tq :: R)) (ho : s.out.length ≤ 1000000000) :
    Call P w0 serve_Server_shut [.ptr x.id 0] h (fun v h' => ∃ tq', SvO h' x s.shut ap tq' tr tt tl ∧ Toks h' (tq' :: R) ∧ Fr x.ids h h') := by
  obtain ⟨tq', h2, hap, hT2, h4, h5, h6⟩ := hT.app
  have hob := H.o
  have xl := erows_len s.out
  obtain ⟨h3, k1, k2, k3⟩ := H.put (h2 := h2) (tq' := tq') ((Fr.refl [] h).app h4 h5 h6) evShut (row_le (t1 := .full) (t2 := .full) evShut) true
  have F3 : Fr x.ids h h3 := by rw [k2]; exact ((Fr.refl x.ids h).app h4 h5 h6).set (.inl (by simp [SK.ids])) _
  have T3 : Toks h3 (tq' :: R) := by rw [k2]; exact hT2.set
  unfold vcel at hob
  refine Call.weak (Q := fun v h' => h' = _) ?_ fun v h' hq => ⟨v, h3, .refl _, hq ▸ k1, tq', k3, T3, F3⟩
  unfold evShut
  dsimp only
  refine Call.bodyF b_serve_Server_shut rfl rfl ?_
  unfold c_serve_Server_shut
  repeat' (first
| ((with_reducible apply opsF.op rfl); case hs => first | exact tHT | exact tHS)
| (with_reducible first | apply opsF.nil | apply seqF.nn | apply vcF.seq | apply vcF.region | apply vcF.skip | apply vcF.ret | apply seqF.r)
| ((with_reducible apply opsF.call); case hx => exact tAG)
| ((with_reducible apply vcF.cond); case hx => exact tEV) <;> ((intro hc; try simp only [Int.reduceLT, Int.reduceLE, Int.reduceEq, Int.reduceNe, Int.cast_ofNat_Int, Int.reduceNeg, reduceCtorEq, ne_eq, ge_iff_le, gt_iff_lt, beq_iff_eq, beq_eq_false_iff_ne, bne_iff_ne, bne_eq_false_iff_eq, nrm, *] at hc) <;> try (exfalso; omega))
| ((with_reducible first | apply retF.r | apply retF.nn); case hv => exact tRS))
  all_goals (rw [set_set]; rfl)
/-- The object of what is asked. -/
def SV.ask (s : SV) (e : Ev) : SV := { s.put e with asked := some e }
theorem sask_call (x : SK) (s : SV) (ap : AV) (tq tr tt tl t1 t2 : Tok) (R : List Tok) (e : Ev) (h : AH) (H : SvO h x s ap tq tr tt tl) (hT : Toks h (tq :: R)) (ho : s.out.length ≤ 1000000000) :
    Call P w0 serve_Server_ask [.ptr x.id 0, .agg [.v (.int .i64 e.kind), .v (.string (bs e.text)), .v (.int .i64 e.size), .v (.string (bs e.sndr)), .list 1 (srows e.rc) t1, .list 1 (srows e.bd) t2]] h (fun v h' => ∃ ap' tq', SvO h' x (s.ask e) ap' tq' tr tt tl ∧ Toks h' (tq' :: R) ∧ Fr x.ids h h') := by
  refine Call.args (args' := [.ptr x.id 0, .agg (erow e)]) ?_ (.cons (.refl _) (.cons (.agg (row_le e)) .nil))
  have T1 : Toks (h.alloc (.cells (erow e))) (tq :: R) := hT.alloc
  obtain ⟨tq', h2, hap, hT2, h4, h5, h6⟩ := T1.app
  have hob := H.o
  have hlt := H.lt
  have hne := H.ne
  have xl := erows_len s.out
  have hb2 : h2.objs x.id = some (.cells (vcel x s ap tq tr tt)) := by rw [h4, alloc_at, if_neg (by omega)]; exact hob
  have hb3 : h2.objs h.n = some (.cells (erow e)) := by rw [h4, alloc_at, if_pos rfl]
  have hn2 : h2.n = h.n + 1 := by rw [h5]; rfl
  have hl2 : h2.objs x.lid = some (.cells [.list 1 (brows s.wait) tl]) := by rw [h4, alloc_at, if_neg (by omega)]; exact H.l
  have S : SvO (h2.set x.id (.cells (vcel x (s.ask e) (.ptr h.n 0) tq' tr tt))) x (s.ask e) (.ptr h.n 0) tq' tr tt tl := by
    refine ⟨by rw [set_at, if_pos rfl], ⟨h.n, rfl, by rw [set_at, if_neg (by omega)]; exact hb3, by rw [set_n]; omega, by simp [SK.ids]; omega⟩, by rw [set_at, if_neg (Ne.symm hne)]; exact hl2, by rw [set_n]; omega, hne⟩
  have F : Fr x.ids h (h2.set x.id (.cells (vcel x (s.ask e) (.ptr h.n 0) tq' tr tt))) := (((Fr.refl x.ids h).alloc _).app h4 h5 h6).set (.inl (by simp [SK.ids])) _
  unfold vcel SV.ask SV.put at S F
  unfold vcel at hob hb2
  dsimp only at S F
  rw [erows_app, show erows [e] = [erow e] from rfl] at S F
  unfold erow at hap S F ⊢
  refine Call.bodyF b_serve_Server_ask rfl rfl ?_
  unfold c_serve_Server_ask
  repeat' (first
| ((with_reducible apply opsF.op rfl); case hs => first | exact tHT | exact tHS)
| (with_reducible first | apply opsF.nil | apply seqF.nn | apply vcF.seq | apply vcF.region | apply vcF.skip | apply vcF.ret | apply seqF.r)
| ((with_reducible apply opsF.call); case hx => exact tAG)
| ((with_reducible apply vcF.cond); case hx => exact tEV) <;> ((intro hc; try simp only [Int.reduceLT, Int.reduceLE, Int.reduceEq, Int.reduceNe, Int.cast_ofNat_Int, Int.reduceNeg, reduceCtorEq, ne_eq, ge_iff_le, gt_iff_lt, beq_iff_eq, beq_eq_false_iff_ne, bne_iff_ne, bne_eq_false_iff_eq, nrm, *] at hc) <;> try (exfalso; omega))
| ((with_reducible first | apply retF.r | apply retF.nn); case hv => exact tRS))
  all_goals rw [set_set]
  all_goals exact ⟨_, tq', S, hT2.set, F⟩
def SV.reset (s : SV) : SV := { s with sender := false, sndr := [], rcpts := [], body := false, bad := false, bsize := 0, text := [] }
theorem sreset_call (x : SK) (s : SV) (ap : AV) (tq tr tt tl : Tok) (h : AH) (H : SvO h x s ap tq tr tt tl) :
    Call P w0 serve_Server_reset [.ptr x.id 0] h (fun v h' => SvO h' x s.reset ap tq .full .full tl ∧ (∀ ts, Toks h ts → Toks h' ts) ∧ Fr x.ids h h') := by
  have hob := H.o
  have S := H.upd (h2 := h) (s' := s.reset) (tq' := tq) (tr' := .full) (tt' := .full) (.refl _ _) rfl rfl
  unfold vcel at hob S
  refine Call.bodyF b_serve_Server_reset rfl rfl ?_
  unfold c_serve_Server_reset
  repeat' (first
| ((with_reducible apply opsF.op rfl); case hs => first | exact tHT | exact tHS)
| (with_reducible first | apply opsF.nil | apply seqF.nn | apply vcF.seq | apply vcF.region | apply vcF.skip | apply vcF.ret | apply seqF.r)
| ((with_reducible apply opsF.call); case hx => exact tAG)
| ((with_reducible apply vcF.cond); case hx => exact tEV) <;> ((intro hc; try simp only [Int.reduceLT, Int.reduceLE, Int.reduceEq, Int.reduceNe, Int.cast_ofNat_Int, Int.reduceNeg, reduceCtorEq, ne_eq, ge_iff_le, gt_iff_lt, beq_iff_eq, beq_eq_false_iff_ne, bne_iff_ne, bne_eq_false_iff_eq, nrm, *] at hc) <;> try (exfalso; omega))
| ((with_reducible first | apply retF.r | apply retF.nn); case hv => exact tRS))
  all_goals simp only [set_set]
  all_goals exact ⟨S, fun ts ht => ht.set, (Fr.refl x.ids h).set (.inl (by simp [SK.ids])) _⟩
end Go.Abs.F
/- Layer 6: a peer's session: EHLO, MAIL, RCPT, DATA. -/
namespace Go.Abs.F
open Go Go.Abs
set_option maxRecDepth 10000
set_option maxHeartbeats 20000000
set_option linter.unusedSimpArgs false
set_option linter.unusedVariables false
variable {w0 : World}
def tSIZE : L8 := [83, 73, 90, 69, 32]
def helloL (s : SV) : List L8 := [s.host, tSIZE ++ decS s.size, [80, 73, 80, 69, 76, 73, 78, 73, 78, 71], [56, 66, 73, 84, 77, 73, 77, 69]]
def SV.hello (s : SV) : SV := s.put (evSay (fmtB 250 (helloL s)))
theorem shello_call (hP : PowTab w0) (x : SK) (s : SV) (ap : AV) (tq tr tt tl : Tok) (R : List Tok) (h : AH) (H : SvO h x s ap tq tr tt tl) (hT : Toks h (tq :: R)) (ho : s.out.length ≤ 1000000000) (hh : s.host.length ≤ 1000000) (hz : 0 ≤ s.size ∧ s.size ≤ 1000000) :
    Call P w0 serve_Server_hello [.ptr x.id 0] h (fun v h' => ∃ tq', SvO h' x s.hello ap tq' tr tt tl ∧ Toks h' (tq' :: R) ∧ Fr x.ids h h') := by
  obtain ⟨tq', h2, hap, hT2, h4, h5, h6⟩ := hT.app
  have hob := H.o
  have xl := erows_len s.out
  have hit := fun h => itoa_call (w0 := w0) hP s.size h (by omega) (by omega)
  have hdl := decS_len s.size (by omega) (by omega)
  have hfm := fun tok h => format_pure (w0 := w0) hP 250 (helloL s) tok h (by simp [helloL]) (fun t ht => by
    simp only [helloL, tSIZE, List.mem_cons, List.not_mem_nil, or_false] at ht
    rcases ht with rfl | rfl | rfl | rfl
    · omega
    · simp only [List.length_append, List.length_cons, List.length_nil]; omega
    · decide
    · decide)
  obtain ⟨k, ek⟩ := fmtV_b 250 (helloL s)
  rw [ek] at hfm
  obtain ⟨h3, k1, k2, k3⟩ := H.put (h2 := h2) (tq' := tq') ((Fr.refl [] h).app h4 h5 h6) (evSay (fmtB 250 (helloL s))) (row_le (t1 := .full) (t2 := .full) (evSay (fmtB 250 (helloL s)))) s.over
  have F3 : Fr x.ids h h3 := by rw [k2]; exact ((Fr.refl x.ids h).app h4 h5 h6).set (.inl (by simp [SK.ids])) _
  have T3 : Toks h3 (tq' :: R) := by rw [k2]; exact hT2.set
  unfold vcel at hob
  refine Call.weak (Q := fun v h' => h' = _) ?_ fun v h' hq => ⟨v, h3, .refl _, hq ▸ k1, tq', k3, T3, F3⟩
  unfold evSay
  dsimp only
  generalize fmtB 250 (helloL s) = B at *
  unfold helloL tSIZE at hfm
  rw [show srows [s.host, [83, 73, 90, 69, 32] ++ decS s.size, [80, 73, 80, 69, 76, 73, 78, 73, 78, 71], [56, 66, 73, 84, 77, 73, 77, 69]] = [[.v (.string (bs s.host))], [.v (.string (bs ([83, 73, 90, 69, 32] ++ decS s.size)))], [.v (.string (bs [80, 73, 80, 69, 76, 73, 78, 73, 78, 71]))], [.v (.string (bs [56, 66, 73, 84, 77, 73, 77, 69]))]] from rfl] at hfm
  generalize decS s.size = D at *
  clear k1 k2 k3 F3 T3 ek
  refine Call.bodyF b_serve_Server_hello rfl rfl ?_
  unfold c_serve_Server_hello
  repeat' (first
| ((with_reducible first | apply opsF.op rfl | apply dopsF.op rfl); case hs => first | exact tHT | exact tHS)
| (with_reducible first | apply opsF.nil | apply seqF.nn | apply vcF.seq | apply vcF.region | apply vcF.dregion | apply vcF.skip | apply vcF.ret | apply seqF.r | apply dopsF.nil | apply stabsF.nil | apply stabsF.cons | apply dopsF.cont)
| ((with_reducible first | apply opsF.call | apply dopsF.call); case hx => exact tAG)
| ((with_reducible first | apply opsF.want | apply dopsF.want | apply stabF.want); (case hg => exact tEV); case hb => exact tNB)
| ((with_reducible first | apply opsF.skip | apply dopsF.skip | apply stabF.skip); (case hg => exact tEV); case hb => exact tNB)
| (first | ((with_reducible first | apply opsF.case | apply dopsF.case); case hg => exact tEV) | ((with_reducible apply vcF.cond); case hx => exact tEV)) <;> ((intro hc; try simp only [Int.reduceLT, Int.reduceLE, Int.reduceEq, Int.reduceNe, Int.cast_ofNat_Int, Int.reduceNeg, reduceCtorEq, ne_eq, ge_iff_le, gt_iff_lt, beq_iff_eq, beq_eq_false_iff_ne, bne_iff_ne, bne_eq_false_iff_eq, nrm, *] at hc) <;> try (exfalso; omega))
| ((with_reducible first | apply opsF.und | apply dopsF.und); case hg => rfl)
| ((with_reducible apply stabF.und); rfl)
| ((with_reducible apply stabF.op); (case hs => first | exact tHT | exact tHS); case hv => exact tSV)
| ((with_reducible first | apply retF.r | apply retF.nn); case hv => exact tRS)
| ((refine Call.use (hit _) ?_))
| ((refine Call.use (hfm _ _) ?_))
| fail)
  all_goals rfl
def SV.mail (s : SV) (arg : L8) (size : Int) : SV := if s.greeted = false ∨ s.sender = true then s.say 503 else if s.size < size then s.say 552 else s.ask ⟨2, arg, size, [], [], []⟩
def SV.rcpt (s : SV) (arg : L8) : SV := if s.sender = false then s.say 503 else if s.rmax ≤ (s.rcpts.length : Int) then s.say 452 else s.ask ⟨3, arg, -1, [], [], []⟩
def SV.data (s : SV) : SV := if s.rcpts = [] then s.say 503 else { s.say 354 with body := true }
/-- What a step of the session gives. -/
structure SvP (x : SK) (s' : SV) (tl : Tok) (R : List Tok) (h h' : AH) : Prop where
  o : ∃ ap tq tr tt, SvO h' x s' ap tq tr tt tl ∧ Toks h' (tq :: tr :: tt :: R)
  f : Fr x.ids h h'
theorem smail_call (hP : PowTab w0) (x : SK) (s : SV) (ap : AV) (tq tr tt tl : Tok) (R : List Tok) (nm arg : L8) (size : Int) (wd : Bool) (h : AH) (H : SvO h x s ap tq tr tt tl) (hT : Toks h (tq :: tr :: tt :: R)) (ho : s.out.length ≤ 1000000000) :
    Call P w0 serve_Server_mail [.ptr x.id 0, verbA (nm, arg, size, wd)] h (fun v h' => SvP x (s.mail arg size) tl R h h') := by
  have hsay := fun c {h' : AH} (e : Ext h h') => ssay_call (w0 := w0) hP x s ap tq tr tt tl (tr :: tt :: R) c h' (H.ext e) (hT.ext e) ho
  have hask := fun {h' : AH} (e : Ext h h') => sask_call (w0 := w0) x s ap tq tr tt tl .full .full (tr :: tt :: R) ⟨2, arg, size, [], [], []⟩ h' (H.ext e) (hT.ext e) ho
  have hob := H.o
  have hlt := H.lt.1
  unfold vcel at hob
  unfold verbA SV.mail
  dsimp only at hask ⊢
  rw [show srows [] = [] from rfl] at hask
  cases hg : s.greeted with
  | false =>
    rw [if_pos (.inl rfl)]
    rw [hg] at hob
    clear hask
    refine Call.bodyF b_serve_Server_mail rfl rfl ?_
    unfold c_serve_Server_mail
    repeat' (first
| ((with_reducible apply opsF.op rfl); case hs => first | exact tHT | exact tHS)
| (with_reducible first | apply opsF.nil | apply seqF.nn | apply vcF.seq | apply vcF.region | apply vcF.skip | apply vcF.block | apply vcF.exit | apply vcF.ret | apply vcF.loop | apply seqF.e | apply seqF.r | apply blkF.nn | apply blkF.e | apply blkF.r | apply blkF.o rfl)
| ((with_reducible apply opsF.call); case hx => exact tAG)
| ((with_reducible apply opsF.want); (case hg => exact tEV); case hb => exact tNB)
| ((with_reducible apply opsF.skip); (case hg => exact tEV); case hb => exact tNB)
| (first | ((with_reducible apply opsF.case); case hg => exact tEV) | ((with_reducible apply vcF.cond); case hx => exact tEV)) <;> ((intro hc; try simp only [Int.reduceLT, Int.reduceLE, Int.reduceEq, Int.reduceNe, Int.cast_ofNat_Int, Int.reduceNeg, reduceCtorEq, ne_eq, ge_iff_le, gt_iff_lt, beq_iff_eq, beq_eq_false_iff_ne, bne_iff_ne, bne_eq_false_iff_eq, nrm, *] at hc) <;> try (exfalso; omega))
| ((with_reducible apply opsF.und); case hg => rfl)
| ((with_reducible first | apply retF.r | apply retF.nn); case hv => exact tRS)
| ((refine (hsay _ (by repeat' (first | exact Ext.refl _ | (refine Ext.set ?_ (by first | exact Nat.le_refl _ | (simp only [alloc_n, set_n]; omega) | (simp only [alloc_n, set_n, drop_n]; omega)) _) | (refine Ext.trans ?_ (Ext.alloc _ _)) | (refine Ext.drop ?_ (by first | exact Nat.le_refl _ | (simp only [alloc_n, set_n, drop_n]; omega)))))).mono fun v h3 hp => ?_); obtain ⟨tq3, O3, T3, F3⟩ := hp)
| fail)
    all_goals exact ⟨⟨ap, tq3, tr, tt, O3, T3⟩, (Fr.ext (by repeat' (first | exact Ext.refl _ | (refine Ext.set ?_ (by first | exact Nat.le_refl _ | (simp only [alloc_n, set_n]; omega) | (simp only [alloc_n, set_n, drop_n]; omega)) _) | (refine Ext.trans ?_ (Ext.alloc _ _)) | (refine Ext.drop ?_ (by first | exact Nat.le_refl _ | (simp only [alloc_n, set_n, drop_n]; omega)))))).trans F3⟩
  | true =>
    rw [hg] at hob
    cases hs : s.sender with
    | true =>
      rw [if_pos (.inr rfl)]
      rw [hs] at hob
      clear hask
      refine Call.bodyF b_serve_Server_mail rfl rfl ?_
      unfold c_serve_Server_mail
      repeat' (first
| ((with_reducible apply opsF.op rfl); case hs => first | exact tHT | exact tHS)
| (with_reducible first | apply opsF.nil | apply seqF.nn | apply vcF.seq | apply vcF.region | apply vcF.skip | apply vcF.block | apply vcF.exit | apply vcF.ret | apply vcF.loop | apply seqF.e | apply seqF.r | apply blkF.nn | apply blkF.e | apply blkF.r | apply blkF.o rfl)
| ((with_reducible apply opsF.call); case hx => exact tAG)
| ((with_reducible apply opsF.want); (case hg => exact tEV); case hb => exact tNB)
| ((with_reducible apply opsF.skip); (case hg => exact tEV); case hb => exact tNB)
| (first | ((with_reducible apply opsF.case); case hg => exact tEV) | ((with_reducible apply vcF.cond); case hx => exact tEV)) <;> ((intro hc; try simp only [Int.reduceLT, Int.reduceLE, Int.reduceEq, Int.reduceNe, Int.cast_ofNat_Int, Int.reduceNeg, reduceCtorEq, ne_eq, ge_iff_le, gt_iff_lt, beq_iff_eq, beq_eq_false_iff_ne, bne_iff_ne, bne_eq_false_iff_eq, nrm, *] at hc) <;> try (exfalso; omega))
| ((with_reducible apply opsF.und); case hg => rfl)
| ((with_reducible first | apply retF.r | apply retF.nn); case hv => exact tRS)
| ((refine (hsay _ (by repeat' (first | exact Ext.refl _ | (refine Ext.set ?_ (by first | exact Nat.le_refl _ | (simp only [alloc_n, set_n]; omega) | (simp only [alloc_n, set_n, drop_n]; omega)) _) | (refine Ext.trans ?_ (Ext.alloc _ _)) | (refine Ext.drop ?_ (by first | exact Nat.le_refl _ | (simp only [alloc_n, set_n, drop_n]; omega)))))).mono fun v h3 hp => ?_); obtain ⟨tq3, O3, T3, F3⟩ := hp)
| fail)
      all_goals exact ⟨⟨ap, tq3, tr, tt, O3, T3⟩, (Fr.ext (by repeat' (first | exact Ext.refl _ | (refine Ext.set ?_ (by first | exact Nat.le_refl _ | (simp only [alloc_n, set_n]; omega) | (simp only [alloc_n, set_n, drop_n]; omega)) _) | (refine Ext.trans ?_ (Ext.alloc _ _)) | (refine Ext.drop ?_ (by first | exact Nat.le_refl _ | (simp only [alloc_n, set_n, drop_n]; omega)))))).trans F3⟩
    | false =>
      rw [if_neg (by simp)]
      rw [hs] at hob
      by_cases hz : s.size < size
      · rw [if_pos hz]
        clear hask
        refine Call.bodyF b_serve_Server_mail rfl rfl ?_
        unfold c_serve_Server_mail
        repeat' (first
| ((with_reducible apply opsF.op rfl); case hs => first | exact tHT | exact tHS)
| (with_reducible first | apply opsF.nil | apply seqF.nn | apply vcF.seq | apply vcF.region | apply vcF.skip | apply vcF.block | apply vcF.exit | apply vcF.ret | apply vcF.loop | apply seqF.e | apply seqF.r | apply blkF.nn | apply blkF.e | apply blkF.r | apply blkF.o rfl)
| ((with_reducible apply opsF.call); case hx => exact tAG)
| ((with_reducible apply opsF.want); (case hg => exact tEV); case hb => exact tNB)
| ((with_reducible apply opsF.skip); (case hg => exact tEV); case hb => exact tNB)
| (first | ((with_reducible apply opsF.case); case hg => exact tEV) | ((with_reducible apply vcF.cond); case hx => exact tEV)) <;> ((intro hc; try simp only [Int.reduceLT, Int.reduceLE, Int.reduceEq, Int.reduceNe, Int.cast_ofNat_Int, Int.reduceNeg, reduceCtorEq, ne_eq, ge_iff_le, gt_iff_lt, beq_iff_eq, beq_eq_false_iff_ne, bne_iff_ne, bne_eq_false_iff_eq, nrm, *] at hc) <;> try (exfalso; omega))
| ((with_reducible apply opsF.und); case hg => rfl)
| ((with_reducible first | apply retF.r | apply retF.nn); case hv => exact tRS)
| ((refine (hsay _ (by repeat' (first | exact Ext.refl _ | (refine Ext.set ?_ (by first | exact Nat.le_refl _ | (simp only [alloc_n, set_n]; omega) | (simp only [alloc_n, set_n, drop_n]; omega)) _) | (refine Ext.trans ?_ (Ext.alloc _ _)) | (refine Ext.drop ?_ (by first | exact Nat.le_refl _ | (simp only [alloc_n, set_n, drop_n]; omega)))))).mono fun v h3 hp => ?_); obtain ⟨tq3, O3, T3, F3⟩ := hp)
| fail)
        all_goals exact ⟨⟨ap, tq3, tr, tt, O3, T3⟩, (Fr.ext (by repeat' (first | exact Ext.refl _ | (refine Ext.set ?_ (by first | exact Nat.le_refl _ | (simp only [alloc_n, set_n]; omega) | (simp only [alloc_n, set_n, drop_n]; omega)) _) | (refine Ext.trans ?_ (Ext.alloc _ _)) | (refine Ext.drop ?_ (by first | exact Nat.le_refl _ | (simp only [alloc_n, set_n, drop_n]; omega)))))).trans F3⟩
      · rw [if_neg hz]
        clear hsay
        refine Call.bodyF b_serve_Server_mail rfl rfl ?_
        unfold c_serve_Server_mail
        repeat' (first
| ((with_reducible apply opsF.op rfl); case hs => first | exact tHT | exact tHS)
| (with_reducible first | apply opsF.nil | apply seqF.nn | apply vcF.seq | apply vcF.region | apply vcF.skip | apply vcF.block | apply vcF.exit | apply vcF.ret | apply vcF.loop | apply seqF.e | apply seqF.r | apply blkF.nn | apply blkF.e | apply blkF.r | apply blkF.o rfl)
| ((with_reducible apply opsF.call); case hx => exact tAG)
| ((with_reducible apply opsF.want); (case hg => exact tEV); case hb => exact tNB)
| ((with_reducible apply opsF.skip); (case hg => exact tEV); case hb => exact tNB)
| (first | ((with_reducible apply opsF.case); case hg => exact tEV) | ((with_reducible apply vcF.cond); case hx => exact tEV)) <;> ((intro hc; try simp only [Int.reduceLT, Int.reduceLE, Int.reduceEq, Int.reduceNe, Int.cast_ofNat_Int, Int.reduceNeg, reduceCtorEq, ne_eq, ge_iff_le, gt_iff_lt, beq_iff_eq, beq_eq_false_iff_ne, bne_iff_ne, bne_eq_false_iff_eq, nrm, *] at hc) <;> try (exfalso; omega))
| ((with_reducible apply opsF.und); case hg => rfl)
| ((with_reducible first | apply retF.r | apply retF.nn); case hv => exact tRS)
| ((refine (hask (by repeat' (first | exact Ext.refl _ | (refine Ext.set ?_ (by first | exact Nat.le_refl _ | (simp only [alloc_n, set_n]; omega) | (simp only [alloc_n, set_n, drop_n]; omega)) _) | (refine Ext.trans ?_ (Ext.alloc _ _)) | (refine Ext.drop ?_ (by first | exact Nat.le_refl _ | (simp only [alloc_n, set_n, drop_n]; omega)))))).mono fun v h3 hp => ?_); obtain ⟨ap3, tq3, O3, T3, F3⟩ := hp)
| fail)
        all_goals exact ⟨⟨ap3, tq3, tr, tt, O3, T3⟩, (Fr.ext (by repeat' (first | exact Ext.refl _ | (refine Ext.set ?_ (by first | exact Nat.le_refl _ | (simp only [alloc_n, set_n]; omega) | (simp only [alloc_n, set_n, drop_n]; omega)) _) | (refine Ext.trans ?_ (Ext.alloc _ _)) | (refine Ext.drop ?_ (by first | exact Nat.le_refl _ | (simp only [alloc_n, set_n, drop_n]; omega)))))).trans F3⟩
end Go.Abs.F
/- Layer 6: a peer's session: RCPT, DATA; a command. -/
namespace Go.Abs.F
open Go Go.Abs
set_option maxRecDepth 10000
set_option maxHeartbeats 20000000
set_option linter.unusedSimpArgs false
set_option linter.unusedVariables false
variable {w0 : World}
theorem srcpt_call (hP : PowTab w0) (x : SK) (s : SV) (ap : AV) (tq tr tt tl : Tok) (R : List Tok) (nm arg : L8) (size : Int) (wd : Bool) (h : AH) (H : SvO h x s ap tq tr tt tl) (hT : Toks h (tq :: tr :: tt :: R)) (ho : s.out.length ≤ 1000000000) :
    Call P w0 serve_Server_rcpt [.ptr x.id 0, verbA (nm, arg, size, wd)] h (fun v h' => SvP x (s.rcpt arg) tl R h h') := by
  have hsay := fun c {h' : AH} (e : Ext h h') => ssay_call (w0 := w0) hP x s ap tq tr tt tl (tr :: tt :: R) c h' (H.ext e) (hT.ext e) ho
  have hask := fun {h' : AH} (e : Ext h h') => sask_call (w0 := w0) x s ap tq tr tt tl .full .full (tr :: tt :: R) ⟨3, arg, -1, [], [], []⟩ h' (H.ext e) (hT.ext e) ho
  have hob := H.o
  have hlt := H.lt.1
  have xl := srows_len s.rcpts
  unfold vcel at hob
  unfold verbA SV.rcpt
  dsimp only at hask ⊢
  rw [show srows [] = [] from rfl] at hask
  cases hs : s.sender with
  | false =>
    rw [if_pos rfl]
    rw [hs] at hob
    clear hask
    refine Call.bodyF b_serve_Server_rcpt rfl rfl ?_
    unfold c_serve_Server_rcpt
    repeat' (first
| ((with_reducible apply opsF.op rfl); case hs => first | exact tHT | exact tHS)
| (with_reducible first | apply opsF.nil | apply seqF.nn | apply vcF.seq | apply vcF.region | apply vcF.skip | apply vcF.block | apply vcF.exit | apply vcF.ret | apply vcF.loop | apply seqF.e | apply seqF.r | apply blkF.nn | apply blkF.e | apply blkF.r | apply blkF.o rfl)
| ((with_reducible apply opsF.call); case hx => exact tAG)
| ((with_reducible apply vcF.cond); case hx => exact tEV) <;> ((intro hc; try simp only [Int.reduceLT, Int.reduceLE, Int.reduceEq, Int.reduceNe, Int.cast_ofNat_Int, Int.reduceNeg, reduceCtorEq, ne_eq, ge_iff_le, gt_iff_lt, beq_iff_eq, beq_eq_false_iff_ne, bne_iff_ne, bne_eq_false_iff_eq, nrm, *] at hc) <;> try (exfalso; omega))
| ((with_reducible first | apply retF.r | apply retF.nn); case hv => exact tRS)
| ((refine (hsay _ (by repeat' (first | exact Ext.refl _ | (refine Ext.set ?_ (by first | exact Nat.le_refl _ | (simp only [alloc_n, set_n]; omega) | (simp only [alloc_n, set_n, drop_n]; omega)) _) | (refine Ext.trans ?_ (Ext.alloc _ _)) | (refine Ext.drop ?_ (by first | exact Nat.le_refl _ | (simp only [alloc_n, set_n, drop_n]; omega)))))).mono fun v h3 hp => ?_); obtain ⟨tq3, O3, T3, F3⟩ := hp)
| fail)
    all_goals exact ⟨⟨ap, tq3, tr, tt, O3, T3⟩, (Fr.ext (by repeat' (first | exact Ext.refl _ | (refine Ext.set ?_ (by first | exact Nat.le_refl _ | (simp only [alloc_n, set_n]; omega) | (simp only [alloc_n, set_n, drop_n]; omega)) _) | (refine Ext.trans ?_ (Ext.alloc _ _)) | (refine Ext.drop ?_ (by first | exact Nat.le_refl _ | (simp only [alloc_n, set_n, drop_n]; omega)))))).trans F3⟩
  | true =>
    rw [if_neg (by simp)]
    rw [hs] at hob
    by_cases hz : s.rmax ≤ (s.rcpts.length : Int)
    · rw [if_pos hz]
      clear hask
      refine Call.bodyF b_serve_Server_rcpt rfl rfl ?_
      unfold c_serve_Server_rcpt
      repeat' (first
| ((with_reducible apply opsF.op rfl); case hs => first | exact tHT | exact tHS)
| (with_reducible first | apply opsF.nil | apply seqF.nn | apply vcF.seq | apply vcF.region | apply vcF.skip | apply vcF.block | apply vcF.exit | apply vcF.ret | apply vcF.loop | apply seqF.e | apply seqF.r | apply blkF.nn | apply blkF.e | apply blkF.r | apply blkF.o rfl)
| ((with_reducible apply opsF.call); case hx => exact tAG)
| ((with_reducible apply vcF.cond); case hx => exact tEV) <;> ((intro hc; try simp only [Int.reduceLT, Int.reduceLE, Int.reduceEq, Int.reduceNe, Int.cast_ofNat_Int, Int.reduceNeg, reduceCtorEq, ne_eq, ge_iff_le, gt_iff_lt, beq_iff_eq, beq_eq_false_iff_ne, bne_iff_ne, bne_eq_false_iff_eq, nrm, *] at hc) <;> try (exfalso; omega))
| ((with_reducible first | apply retF.r | apply retF.nn); case hv => exact tRS)
| ((refine (hsay _ (by repeat' (first | exact Ext.refl _ | (refine Ext.set ?_ (by first | exact Nat.le_refl _ | (simp only [alloc_n, set_n]; omega) | (simp only [alloc_n, set_n, drop_n]; omega)) _) | (refine Ext.trans ?_ (Ext.alloc _ _)) | (refine Ext.drop ?_ (by first | exact Nat.le_refl _ | (simp only [alloc_n, set_n, drop_n]; omega)))))).mono fun v h3 hp => ?_); obtain ⟨tq3, O3, T3, F3⟩ := hp)
| fail)
      all_goals exact ⟨⟨ap, tq3, tr, tt, O3, T3⟩, (Fr.ext (by repeat' (first | exact Ext.refl _ | (refine Ext.set ?_ (by first | exact Nat.le_refl _ | (simp only [alloc_n, set_n]; omega) | (simp only [alloc_n, set_n, drop_n]; omega)) _) | (refine Ext.trans ?_ (Ext.alloc _ _)) | (refine Ext.drop ?_ (by first | exact Nat.le_refl _ | (simp only [alloc_n, set_n, drop_n]; omega)))))).trans F3⟩
    · rw [if_neg hz]
      clear hsay
      refine Call.bodyF b_serve_Server_rcpt rfl rfl ?_
      unfold c_serve_Server_rcpt
      repeat' (first
| ((with_reducible apply opsF.op rfl); case hs => first | exact tHT | exact tHS)
| (with_reducible first | apply opsF.nil | apply seqF.nn | apply vcF.seq | apply vcF.region | apply vcF.skip | apply vcF.block | apply vcF.exit | apply vcF.ret | apply vcF.loop | apply seqF.e | apply seqF.r | apply blkF.nn | apply blkF.e | apply blkF.r | apply blkF.o rfl)
| ((with_reducible apply opsF.call); case hx => exact tAG)
| ((with_reducible apply vcF.cond); case hx => exact tEV) <;> ((intro hc; try simp only [Int.reduceLT, Int.reduceLE, Int.reduceEq, Int.reduceNe, Int.cast_ofNat_Int, Int.reduceNeg, reduceCtorEq, ne_eq, ge_iff_le, gt_iff_lt, beq_iff_eq, beq_eq_false_iff_ne, bne_iff_ne, bne_eq_false_iff_eq, nrm, *] at hc) <;> try (exfalso; omega))
| ((with_reducible first | apply retF.r | apply retF.nn); case hv => exact tRS)
| ((refine (hask (by repeat' (first | exact Ext.refl _ | (refine Ext.set ?_ (by first | exact Nat.le_refl _ | (simp only [alloc_n, set_n]; omega) | (simp only [alloc_n, set_n, drop_n]; omega)) _) | (refine Ext.trans ?_ (Ext.alloc _ _)) | (refine Ext.drop ?_ (by first | exact Nat.le_refl _ | (simp only [alloc_n, set_n, drop_n]; omega)))))).mono fun v h3 hp => ?_); obtain ⟨ap3, tq3, O3, T3, F3⟩ := hp)
| fail)
      all_goals exact ⟨⟨ap3, tq3, tr, tt, O3, T3⟩, (Fr.ext (by repeat' (first | exact Ext.refl _ | (refine Ext.set ?_ (by first | exact Nat.le_refl _ | (simp only [alloc_n, set_n]; omega) | (simp only [alloc_n, set_n, drop_n]; omega)) _) | (refine Ext.trans ?_ (Ext.alloc _ _)) | (refine Ext.drop ?_ (by first | exact Nat.le_refl _ | (simp only [alloc_n, set_n, drop_n]; omega)))))).trans F3⟩
theorem sdata_call (hP : PowTab w0) (x : SK) (s : SV) (ap : AV) (tq tr tt tl : Tok) (R : List Tok) (h : AH) (H : SvO h x s ap tq tr tt tl) (hT : Toks h (tq :: tr :: tt :: R)) (ho : s.out.length ≤ 1000000000) :
    Call P w0 serve_Server_data [.ptr x.id 0] h (fun v h' => SvP x s.data tl R h h') := by
  have hsay := fun c => ssay_call (w0 := w0) hP x s ap tq tr tt tl (tr :: tt :: R) c h H hT ho
  have hob := H.o
  have xl := srows_len s.rcpts
  unfold vcel at hob
  unfold SV.data
  by_cases hr : s.rcpts = []
  · rw [if_pos hr]
    rw [hr] at hob xl
    refine Call.bodyF b_serve_Server_data rfl rfl ?_
    unfold c_serve_Server_data
    repeat' (first
| ((with_reducible apply opsF.op rfl); case hs => first | exact tHT | exact tHS)
| (with_reducible first | apply opsF.nil | apply seqF.nn | apply vcF.seq | apply vcF.region | apply vcF.skip | apply vcF.ret | apply seqF.r)
| ((with_reducible apply opsF.call); case hx => exact tAG)
| ((with_reducible apply vcF.cond); case hx => exact tEV) <;> ((intro hc; try simp only [Int.reduceLT, Int.reduceLE, Int.reduceEq, Int.reduceNe, Int.cast_ofNat_Int, Int.reduceNeg, reduceCtorEq, ne_eq, ge_iff_le, gt_iff_lt, beq_iff_eq, beq_eq_false_iff_ne, bne_iff_ne, bne_eq_false_iff_eq, nrm, *] at hc) <;> try (exfalso; omega))
| ((with_reducible first | apply retF.r | apply retF.nn); case hv => exact tRS)
| ((refine (hsay _).mono fun v h3 hp => ?_); obtain ⟨tq3, O3, T3, F3⟩ := hp)
| fail)
    all_goals exact ⟨⟨ap, tq3, tr, tt, O3, T3⟩, F3⟩
  · rw [if_neg hr]
    have hl0 : 1 ≤ s.rcpts.length := by
      cases hq : s.rcpts with
      | nil => exact absurd hq hr
      | cons a l => simp
    clear hr
    refine Call.bodyF b_serve_Server_data rfl rfl ?_
    unfold c_serve_Server_data
    repeat' (first
| ((with_reducible apply opsF.op rfl); case hs => first | exact tHT | exact tHS)
| (with_reducible first | apply opsF.nil | apply seqF.nn | apply vcF.seq | apply vcF.region | apply vcF.skip | apply vcF.ret | apply seqF.r)
| ((with_reducible apply opsF.call); case hx => exact tAG)
| ((with_reducible apply vcF.cond); case hx => exact tEV) <;> ((intro hc; try simp only [Int.reduceLT, Int.reduceLE, Int.reduceEq, Int.reduceNe, Int.cast_ofNat_Int, Int.reduceNeg, reduceCtorEq, ne_eq, ge_iff_le, gt_iff_lt, beq_iff_eq, beq_eq_false_iff_ne, bne_iff_ne, bne_eq_false_iff_eq, nrm, *] at hc) <;> try (exfalso; omega))
| ((with_reducible first | apply retF.r | apply retF.nn); case hv => exact tRS)
| ((refine (hsay _).mono fun v h3 hp => ?_); obtain ⟨tq3, O3, T3, F3⟩ := hp; have gob := O3.o; unfold vcel at gob)
| fail)
    all_goals exact ⟨⟨ap, tq3, tr, tt, O3.upd (s' := { s.say 354 with body := true }) (.refl _ _) rfl rfl, T3.set⟩, F3.set (.inl (by simp [SK.ids])) _⟩
/-- A command. -/
def nHELO : L8 := [72, 69, 76, 79]
def nEHLO : L8 := [69, 72, 76, 79]
def nRSET : L8 := [82, 83, 69, 84]
def nNOOP : L8 := [78, 79, 79, 80]
def nVRFY : L8 := [86, 82, 70, 89]
def nQUIT : L8 := [81, 85, 73, 84]
def nMAIL : L8 := [77, 65, 73, 76]
def nRCPT : L8 := [82, 67, 80, 84]
def nDATA : L8 := [68, 65, 84, 65]
def SV.greet (s : SV) : SV := { s.reset with greeted := true }
def SV.doVerb (s : SV) (v : VS) : SV :=
  if v.1 = nHELO then s.greet.say 250 else if v.1 = nEHLO then s.greet.hello else if v.1 = nRSET then s.reset.say 250 else if v.1 = nNOOP then s.say 250 else if v.1 = nVRFY then s.say 252
  else if v.1 = nQUIT then (s.say 221).shut else if v.1 = nMAIL then s.mail v.2.1 v.2.2.1 else if v.1 = nRCPT then s.rcpt v.2.1 else if v.1 = nDATA then s.data else s
def SV.command (s : SV) (k : Int) (t : L8) : SV := if k ≠ 1 then s.say 500 else if (verbS t).1 ≠ 0 then s.say (verbS t).1 else s.doVerb (verbS t).2
theorem parse_pure (hE : ErrVars w0) (t : L8) (h : AH) (hl : t.length ≤ 1000000000) : Call P w0 verb_Parse [.v (.string (bs t))] h (fun v h' => v = codeV (verbS t) ∧ h' = h) := by
  refine Call.gc (Parse_call hE t h hl) fun v h' hq => ⟨?_, hq.2, hq.1⟩
  rw [hq.1]
  exact .tup fun j hj => (by match j, hj with | 0, _ => exact .agg (fun i hi => (by match i, hi with | 0, _ => exact .v _ | 1, _ => exact .v _ | 2, _ => exact .v _ | 3, _ => exact .v _)) | 1, _ => exact .v _)
end Go.Abs.F
/- Layer 6: a peer's session: a command is taken. -/
namespace Go.Abs.F
open Go Go.Abs
set_option maxRecDepth 10000
set_option maxHeartbeats 20000000
set_option linter.unusedSimpArgs false
set_option linter.unusedVariables false
variable {w0 : World}
theorem Toks.ff {h : AH} {a b c : Tok} {R : List Tok} (k : Toks h (a :: b :: c :: R)) : Toks h (a :: .full :: .full :: R) := by
  have k1 : Toks h (a :: .full :: c :: R) := k.swap.full1.swap
  have k2 : Toks h (c :: a :: .full :: R) := k1.perm ((List.Perm.cons a (List.Perm.swap c .full R)).trans (List.Perm.swap c a (.full :: R)))
  exact k2.full1.swap
theorem scommand_call (hP : PowTab w0) (hE : ErrVars w0) (x : SK) (s : SV) (ap : AV) (tq tr tt tl : Tok) (R : List Tok) (k : Int) (t : L8) (h : AH) (H : SvO h x s ap tq tr tt tl) (hT : Toks h (tq :: tr :: tt :: R)) (ho : s.out.length ≤ 999999999) (ht : t.length ≤ 1000000000) (hh : s.host.length ≤ 1000000) (hz : 0 ≤ s.size ∧ s.size ≤ 1000000) :
    Call P w0 serve_Server_command [.ptr x.id 0, .agg [.v (.int .i64 k), .v (.string (bs t))]] h (fun v h' => SvP x (s.command k t) tl R h h') := by
  have hsay := fun c {h' : AH} (e : Ext h h') => ssay_call (w0 := w0) hP x s ap tq tr tt tl (tr :: tt :: R) c h' (H.ext e) (hT.ext e) (by omega)
  have hob := H.o
  have hlt := H.lt.1
  have hlt2 := H.lt.2
  unfold vcel at hob
  unfold SV.command
  by_cases hk : k = 1
  · rw [if_neg (by simpa using hk)]
    subst hk
    have hpa := fun h => parse_pure (w0 := w0) hE t h ht
    generalize verbS t = vs at *
    obtain ⟨cd, nm, arg, sz, wd⟩ := vs
    unfold codeV verbA at hpa
    dsimp only at hpa ⊢
    by_cases hc : cd = 0
    · rw [if_neg (by simpa using hc)]
      subst hc
      have hres := fun {h' : AH} (e : Ext h h') => sreset_call (w0 := w0) x s ap tq tr tt tl h' (H.ext e)
      unfold SV.doVerb
      dsimp only
      have hml := fun {h' : AH} (e : Ext h h') => smail_call (w0 := w0) hP x s ap tq tr tt tl R nm arg sz wd h' (H.ext e) (hT.ext e) (by omega)
      have hrc := fun {h' : AH} (e : Ext h h') => srcpt_call (w0 := w0) hP x s ap tq tr tt tl R nm arg sz wd h' (H.ext e) (hT.ext e) (by omega)
      have hda := fun {h' : AH} (e : Ext h h') => sdata_call (w0 := w0) hP x s ap tq tr tt tl R h' (H.ext e) (hT.ext e) (by omega)
      unfold verbA at hml hrc
      dsimp only at hml hrc
      by_cases hHELO : nm = nHELO
      · rw [if_pos hHELO]
        have pHELO : (nm = [72, 69, 76, 79]) = True := eq_true hHELO
        have pEHLO : (nm = [69, 72, 76, 79]) = False := eq_false (by rw [hHELO]; decide)
        clear hHELO hsay hml hrc hda
        refine Call.bodyF b_serve_Server_command rfl rfl ?_
        unfold c_serve_Server_command
        repeat' (first
| ((with_reducible apply opsF.op rfl); case hs => first | exact tHT | exact tHS)
| (with_reducible first | apply opsF.nil | apply seqF.nn | apply vcF.seq | apply vcF.region | apply vcF.skip | apply vcF.block | apply vcF.exit | apply vcF.ret | apply vcF.loop | apply seqF.e | apply seqF.r | apply blkF.nn | apply blkF.e | apply blkF.r | apply blkF.o rfl)
| ((with_reducible apply opsF.call); case hx => exact tAG)
| ((with_reducible apply vcF.cond); case hx => exact tEV) <;> ((intro hc; try simp only [Int.reduceLT, Int.reduceLE, Int.reduceEq, Int.reduceNe, Int.cast_ofNat_Int, Int.reduceNeg, reduceCtorEq, ne_eq, ge_iff_le, gt_iff_lt, beq_iff_eq, beq_eq_false_iff_ne, bne_iff_ne, bne_eq_false_iff_eq, nrm, *] at hc) <;> try (exfalso; omega))
| ((with_reducible first | apply retF.r | apply retF.nn); case hv => exact tRS)
| ((refine Call.use (hpa _) ?_))
| ((refine (hres (by repeat' (first | exact Ext.refl _ | (refine Ext.set ?_ (by first | exact Nat.le_refl _ | (simp only [alloc_n, set_n]; omega) | (simp only [alloc_n, set_n, drop_n]; omega)) _) | (refine Ext.trans ?_ (Ext.alloc _ _)) | (refine Ext.drop ?_ (by first | exact Nat.le_refl _ | (simp only [alloc_n, set_n, drop_n]; omega)))))).mono fun v h3 hp => ?_); obtain ⟨O3, T3, F3⟩ := hp; have gob := O3.o; unfold vcel at gob; have oV := F3.o (h.n + 1) (by simp only [alloc_n, set_n]; omega) (by simp [SK.ids]; omega); simp (disch := omega) only [alloc_at, alloc_n, set_n, set_at, if_neg, if_pos, eq_self, if_true] at oV; have hN3 := F3.n; simp only [alloc_n, set_n] at hN3)
| ((refine (ssay_call hP x s.greet ap tq .full .full tl (.full :: .full :: R) 250 _ (O3.upd (s' := s.greet) (tq' := tq) (tr' := .full) (tt' := .full) (.refl _ _) rfl rfl) ((T3 _ ((Toks.ff hT).ext (by repeat' (first | exact Ext.refl _ | (refine Ext.set ?_ (by first | exact Nat.le_refl _ | (simp only [alloc_n, set_n]; omega) | (simp only [alloc_n, set_n, drop_n]; omega)) _) | (refine Ext.trans ?_ (Ext.alloc _ _)) | (refine Ext.drop ?_ (by first | exact Nat.le_refl _ | (simp only [alloc_n, set_n, drop_n]; omega))))))).set) (by show s.out.length ≤ _; omega)).mono fun v h5 hp => ?_); obtain ⟨tq5, O5, T5, F5⟩ := hp)
| fail)
        all_goals exact ⟨⟨ap, tq5, .full, .full, O5, T5⟩, (((Fr.ext (by repeat' (first | exact Ext.refl _ | (refine Ext.set ?_ (by first | exact Nat.le_refl _ | (simp only [alloc_n, set_n]; omega) | (simp only [alloc_n, set_n, drop_n]; omega)) _) | (refine Ext.trans ?_ (Ext.alloc _ _)) | (refine Ext.drop ?_ (by first | exact Nat.le_refl _ | (simp only [alloc_n, set_n, drop_n]; omega)))))).trans F3).set (.inl (by simp [SK.ids])) _).trans F5⟩
      rw [if_neg hHELO]
      have pHELO : (nm = [72, 69, 76, 79]) = False := eq_false hHELO
      clear hHELO
      by_cases hEHLO : nm = nEHLO
      · rw [if_pos hEHLO]
        have pEHLO : (nm = [69, 72, 76, 79]) = True := eq_true hEHLO
        clear hEHLO hsay hml hrc hda
        refine Call.bodyF b_serve_Server_command rfl rfl ?_
        unfold c_serve_Server_command
        repeat' (first
| ((with_reducible apply opsF.op rfl); case hs => first | exact tHT | exact tHS)
| (with_reducible first | apply opsF.nil | apply seqF.nn | apply vcF.seq | apply vcF.region | apply vcF.skip | apply vcF.block | apply vcF.exit | apply vcF.ret | apply vcF.loop | apply seqF.e | apply seqF.r | apply blkF.nn | apply blkF.e | apply blkF.r | apply blkF.o rfl)
| ((with_reducible apply opsF.call); case hx => exact tAG)
| ((with_reducible apply vcF.cond); case hx => exact tEV) <;> ((intro hc; try simp only [Int.reduceLT, Int.reduceLE, Int.reduceEq, Int.reduceNe, Int.cast_ofNat_Int, Int.reduceNeg, reduceCtorEq, ne_eq, ge_iff_le, gt_iff_lt, beq_iff_eq, beq_eq_false_iff_ne, bne_iff_ne, bne_eq_false_iff_eq, nrm, *] at hc) <;> try (exfalso; omega))
| ((with_reducible first | apply retF.r | apply retF.nn); case hv => exact tRS)
| ((refine Call.use (hpa _) ?_))
| ((refine (hres (by repeat' (first | exact Ext.refl _ | (refine Ext.set ?_ (by first | exact Nat.le_refl _ | (simp only [alloc_n, set_n]; omega) | (simp only [alloc_n, set_n, drop_n]; omega)) _) | (refine Ext.trans ?_ (Ext.alloc _ _)) | (refine Ext.drop ?_ (by first | exact Nat.le_refl _ | (simp only [alloc_n, set_n, drop_n]; omega)))))).mono fun v h3 hp => ?_); obtain ⟨O3, T3, F3⟩ := hp; have gob := O3.o; unfold vcel at gob; have oV := F3.o (h.n + 1) (by simp only [alloc_n, set_n]; omega) (by simp [SK.ids]; omega); simp (disch := omega) only [alloc_at, alloc_n, set_n, set_at, if_neg, if_pos, eq_self, if_true] at oV; have hN3 := F3.n; simp only [alloc_n, set_n] at hN3)
| ((refine (shello_call hP x s.greet ap tq .full .full tl (.full :: .full :: R) _ (O3.upd (s' := s.greet) (tq' := tq) (tr' := .full) (tt' := .full) (.refl _ _) rfl rfl) ((T3 _ ((Toks.ff hT).ext (by repeat' (first | exact Ext.refl _ | (refine Ext.set ?_ (by first | exact Nat.le_refl _ | (simp only [alloc_n, set_n]; omega) | (simp only [alloc_n, set_n, drop_n]; omega)) _) | (refine Ext.trans ?_ (Ext.alloc _ _)) | (refine Ext.drop ?_ (by first | exact Nat.le_refl _ | (simp only [alloc_n, set_n, drop_n]; omega))))))).set) (by show s.out.length ≤ _; omega) hh hz).mono fun v h5 hp => ?_); obtain ⟨tq5, O5, T5, F5⟩ := hp)
| fail)
        all_goals exact ⟨⟨ap, tq5, .full, .full, O5, T5⟩, (((Fr.ext (by repeat' (first | exact Ext.refl _ | (refine Ext.set ?_ (by first | exact Nat.le_refl _ | (simp only [alloc_n, set_n]; omega) | (simp only [alloc_n, set_n, drop_n]; omega)) _) | (refine Ext.trans ?_ (Ext.alloc _ _)) | (refine Ext.drop ?_ (by first | exact Nat.le_refl _ | (simp only [alloc_n, set_n, drop_n]; omega)))))).trans F3).set (.inl (by simp [SK.ids])) _).trans F5⟩
      rw [if_neg hEHLO]
      have pEHLO : (nm = [69, 72, 76, 79]) = False := eq_false hEHLO
      clear hEHLO
      by_cases hRSET : nm = nRSET
      · rw [if_pos hRSET]
        have pRSET : (nm = [82, 83, 69, 84]) = True := eq_true hRSET
        clear hRSET hsay hml hrc hda
        refine Call.bodyF b_serve_Server_command rfl rfl ?_
        unfold c_serve_Server_command
        repeat' (first
| ((with_reducible apply opsF.op rfl); case hs => first | exact tHT | exact tHS)
| (with_reducible first | apply opsF.nil | apply seqF.nn | apply vcF.seq | apply vcF.region | apply vcF.skip | apply vcF.block | apply vcF.exit | apply vcF.ret | apply vcF.loop | apply seqF.e | apply seqF.r | apply blkF.nn | apply blkF.e | apply blkF.r | apply blkF.o rfl)
| ((with_reducible apply opsF.call); case hx => exact tAG)
| ((with_reducible apply vcF.cond); case hx => exact tEV) <;> ((intro hc; try simp only [Int.reduceLT, Int.reduceLE, Int.reduceEq, Int.reduceNe, Int.cast_ofNat_Int, Int.reduceNeg, reduceCtorEq, ne_eq, ge_iff_le, gt_iff_lt, beq_iff_eq, beq_eq_false_iff_ne, bne_iff_ne, bne_eq_false_iff_eq, nrm, *] at hc) <;> try (exfalso; omega))
| ((with_reducible first | apply retF.r | apply retF.nn); case hv => exact tRS)
| ((refine Call.use (hpa _) ?_))
| ((refine (hres (by repeat' (first | exact Ext.refl _ | (refine Ext.set ?_ (by first | exact Nat.le_refl _ | (simp only [alloc_n, set_n]; omega) | (simp only [alloc_n, set_n, drop_n]; omega)) _) | (refine Ext.trans ?_ (Ext.alloc _ _)) | (refine Ext.drop ?_ (by first | exact Nat.le_refl _ | (simp only [alloc_n, set_n, drop_n]; omega)))))).mono fun v h3 hp => ?_); obtain ⟨O3, T3, F3⟩ := hp; have gob := O3.o; unfold vcel at gob; have oV := F3.o (h.n + 1) (by simp only [alloc_n, set_n]; omega) (by simp [SK.ids]; omega); simp (disch := omega) only [alloc_at, alloc_n, set_n, set_at, if_neg, if_pos, eq_self, if_true] at oV; have hN3 := F3.n; simp only [alloc_n, set_n] at hN3)
| ((refine (ssay_call hP x s.reset ap tq .full .full tl (.full :: .full :: R) 250 _ O3 (T3 _ ((Toks.ff hT).ext (by repeat' (first | exact Ext.refl _ | (refine Ext.set ?_ (by first | exact Nat.le_refl _ | (simp only [alloc_n, set_n]; omega) | (simp only [alloc_n, set_n, drop_n]; omega)) _) | (refine Ext.trans ?_ (Ext.alloc _ _)) | (refine Ext.drop ?_ (by first | exact Nat.le_refl _ | (simp only [alloc_n, set_n, drop_n]; omega))))))) (by show s.out.length ≤ _; omega)).mono fun v h5 hp => ?_); obtain ⟨tq5, O5, T5, F5⟩ := hp)
| fail)
        all_goals exact ⟨⟨ap, tq5, .full, .full, O5, T5⟩, ((Fr.ext (by repeat' (first | exact Ext.refl _ | (refine Ext.set ?_ (by first | exact Nat.le_refl _ | (simp only [alloc_n, set_n]; omega) | (simp only [alloc_n, set_n, drop_n]; omega)) _) | (refine Ext.trans ?_ (Ext.alloc _ _)) | (refine Ext.drop ?_ (by first | exact Nat.le_refl _ | (simp only [alloc_n, set_n, drop_n]; omega)))))).trans F3).trans F5⟩
      rw [if_neg hRSET]
      have pRSET : (nm = [82, 83, 69, 84]) = False := eq_false hRSET
      clear hRSET
      by_cases hNOOP : nm = nNOOP
      · rw [if_pos hNOOP]
        have pNOOP : (nm = [78, 79, 79, 80]) = True := eq_true hNOOP
        clear hNOOP hres hml hrc hda
        refine Call.bodyF b_serve_Server_command rfl rfl ?_
        unfold c_serve_Server_command
        repeat' (first
| ((with_reducible apply opsF.op rfl); case hs => first | exact tHT | exact tHS)
| (with_reducible first | apply opsF.nil | apply seqF.nn | apply vcF.seq | apply vcF.region | apply vcF.skip | apply vcF.block | apply vcF.exit | apply vcF.ret | apply vcF.loop | apply seqF.e | apply seqF.r | apply blkF.nn | apply blkF.e | apply blkF.r | apply blkF.o rfl)
| ((with_reducible apply opsF.call); case hx => exact tAG)
| ((with_reducible apply vcF.cond); case hx => exact tEV) <;> ((intro hc; try simp only [Int.reduceLT, Int.reduceLE, Int.reduceEq, Int.reduceNe, Int.cast_ofNat_Int, Int.reduceNeg, reduceCtorEq, ne_eq, ge_iff_le, gt_iff_lt, beq_iff_eq, beq_eq_false_iff_ne, bne_iff_ne, bne_eq_false_iff_eq, nrm, *] at hc) <;> try (exfalso; omega))
| ((with_reducible first | apply retF.r | apply retF.nn); case hv => exact tRS)
| ((refine Call.use (hpa _) ?_))
| ((refine (hsay _ (by repeat' (first | exact Ext.refl _ | (refine Ext.set ?_ (by first | exact Nat.le_refl _ | (simp only [alloc_n, set_n]; omega) | (simp only [alloc_n, set_n, drop_n]; omega)) _) | (refine Ext.trans ?_ (Ext.alloc _ _)) | (refine Ext.drop ?_ (by first | exact Nat.le_refl _ | (simp only [alloc_n, set_n, drop_n]; omega)))))).mono fun v h3 hp => ?_); obtain ⟨tq3, O3, T3, F3⟩ := hp)
| fail)
        all_goals exact ⟨⟨ap, tq3, tr, tt, O3, T3⟩, (Fr.ext (by repeat' (first | exact Ext.refl _ | (refine Ext.set ?_ (by first | exact Nat.le_refl _ | (simp only [alloc_n, set_n]; omega) | (simp only [alloc_n, set_n, drop_n]; omega)) _) | (refine Ext.trans ?_ (Ext.alloc _ _)) | (refine Ext.drop ?_ (by first | exact Nat.le_refl _ | (simp only [alloc_n, set_n, drop_n]; omega)))))).trans F3⟩
      rw [if_neg hNOOP]
      have pNOOP : (nm = [78, 79, 79, 80]) = False := eq_false hNOOP
      clear hNOOP
      by_cases hVRFY : nm = nVRFY
      · rw [if_pos hVRFY]
        have pVRFY : (nm = [86, 82, 70, 89]) = True := eq_true hVRFY
        clear hVRFY hres hml hrc hda
        refine Call.bodyF b_serve_Server_command rfl rfl ?_
        unfold c_serve_Server_command
        repeat' (first
| ((with_reducible apply opsF.op rfl); case hs => first | exact tHT | exact tHS)
| (with_reducible first | apply opsF.nil | apply seqF.nn | apply vcF.seq | apply vcF.region | apply vcF.skip | apply vcF.block | apply vcF.exit | apply vcF.ret | apply vcF.loop | apply seqF.e | apply seqF.r | apply blkF.nn | apply blkF.e | apply blkF.r | apply blkF.o rfl)
| ((with_reducible apply opsF.call); case hx => exact tAG)
| ((with_reducible apply vcF.cond); case hx => exact tEV) <;> ((intro hc; try simp only [Int.reduceLT, Int.reduceLE, Int.reduceEq, Int.reduceNe, Int.cast_ofNat_Int, Int.reduceNeg, reduceCtorEq, ne_eq, ge_iff_le, gt_iff_lt, beq_iff_eq, beq_eq_false_iff_ne, bne_iff_ne, bne_eq_false_iff_eq, nrm, *] at hc) <;> try (exfalso; omega))
| ((with_reducible first | apply retF.r | apply retF.nn); case hv => exact tRS)
| ((refine Call.use (hpa _) ?_))
| ((refine (hsay _ (by repeat' (first | exact Ext.refl _ | (refine Ext.set ?_ (by first | exact Nat.le_refl _ | (simp only [alloc_n, set_n]; omega) | (simp only [alloc_n, set_n, drop_n]; omega)) _) | (refine Ext.trans ?_ (Ext.alloc _ _)) | (refine Ext.drop ?_ (by first | exact Nat.le_refl _ | (simp only [alloc_n, set_n, drop_n]; omega)))))).mono fun v h3 hp => ?_); obtain ⟨tq3, O3, T3, F3⟩ := hp)
| fail)
        all_goals exact ⟨⟨ap, tq3, tr, tt, O3, T3⟩, (Fr.ext (by repeat' (first | exact Ext.refl _ | (refine Ext.set ?_ (by first | exact Nat.le_refl _ | (simp only [alloc_n, set_n]; omega) | (simp only [alloc_n, set_n, drop_n]; omega)) _) | (refine Ext.trans ?_ (Ext.alloc _ _)) | (refine Ext.drop ?_ (by first | exact Nat.le_refl _ | (simp only [alloc_n, set_n, drop_n]; omega)))))).trans F3⟩
      rw [if_neg hVRFY]
      have pVRFY : (nm = [86, 82, 70, 89]) = False := eq_false hVRFY
      clear hVRFY
      by_cases hQUIT : nm = nQUIT
      · rw [if_pos hQUIT]
        have pQUIT : (nm = [81, 85, 73, 84]) = True := eq_true hQUIT
        clear hQUIT hres hml hrc hda
        refine Call.bodyF b_serve_Server_command rfl rfl ?_
        unfold c_serve_Server_command
        repeat' (first
| ((with_reducible apply opsF.op rfl); case hs => first | exact tHT | exact tHS)
| (with_reducible first | apply opsF.nil | apply seqF.nn | apply vcF.seq | apply vcF.region | apply vcF.skip | apply vcF.block | apply vcF.exit | apply vcF.ret | apply vcF.loop | apply seqF.e | apply seqF.r | apply blkF.nn | apply blkF.e | apply blkF.r | apply blkF.o rfl)
| ((with_reducible apply opsF.call); case hx => exact tAG)
| ((with_reducible apply vcF.cond); case hx => exact tEV) <;> ((intro hc; try simp only [Int.reduceLT, Int.reduceLE, Int.reduceEq, Int.reduceNe, Int.cast_ofNat_Int, Int.reduceNeg, reduceCtorEq, ne_eq, ge_iff_le, gt_iff_lt, beq_iff_eq, beq_eq_false_iff_ne, bne_iff_ne, bne_eq_false_iff_eq, nrm, *] at hc) <;> try (exfalso; omega))
| ((with_reducible first | apply retF.r | apply retF.nn); case hv => exact tRS)
| ((refine Call.use (hpa _) ?_))
| ((refine (hsay _ (by repeat' (first | exact Ext.refl _ | (refine Ext.set ?_ (by first | exact Nat.le_refl _ | (simp only [alloc_n, set_n]; omega) | (simp only [alloc_n, set_n, drop_n]; omega)) _) | (refine Ext.trans ?_ (Ext.alloc _ _)) | (refine Ext.drop ?_ (by first | exact Nat.le_refl _ | (simp only [alloc_n, set_n, drop_n]; omega)))))).mono fun v h3 hp => ?_); obtain ⟨tq3, O3, T3, F3⟩ := hp)
| ((refine (sshut_call x (s.say 221) ap tq3 tr tt tl (tr :: tt :: R) _ O3 T3 (by show (s.out ++ [_]).length ≤ _; simp; omega)).mono fun v h5 hp => ?_); obtain ⟨tq5, O5, T5, F5⟩ := hp)
| fail)
        all_goals exact ⟨⟨ap, tq5, tr, tt, O5, T5⟩, ((Fr.ext (by repeat' (first | exact Ext.refl _ | (refine Ext.set ?_ (by first | exact Nat.le_refl _ | (simp only [alloc_n, set_n]; omega) | (simp only [alloc_n, set_n, drop_n]; omega)) _) | (refine Ext.trans ?_ (Ext.alloc _ _)) | (refine Ext.drop ?_ (by first | exact Nat.le_refl _ | (simp only [alloc_n, set_n, drop_n]; omega)))))).trans F3).trans F5⟩
      rw [if_neg hQUIT]
      have pQUIT : (nm = [81, 85, 73, 84]) = False := eq_false hQUIT
      clear hQUIT
      by_cases hMAIL : nm = nMAIL
      · rw [if_pos hMAIL]
        have pMAIL : (nm = [77, 65, 73, 76]) = True := eq_true hMAIL
        clear hMAIL hres hsay hrc hda
        refine Call.bodyF b_serve_Server_command rfl rfl ?_
        unfold c_serve_Server_command
        repeat' (first
| ((with_reducible apply opsF.op rfl); case hs => first | exact tHT | exact tHS)
| (with_reducible first | apply opsF.nil | apply seqF.nn | apply vcF.seq | apply vcF.region | apply vcF.skip | apply vcF.block | apply vcF.exit | apply vcF.ret | apply vcF.loop | apply seqF.e | apply seqF.r | apply blkF.nn | apply blkF.e | apply blkF.r | apply blkF.o rfl)
| ((with_reducible apply opsF.call); case hx => exact tAG)
| ((with_reducible apply vcF.cond); case hx => exact tEV) <;> ((intro hc; try simp only [Int.reduceLT, Int.reduceLE, Int.reduceEq, Int.reduceNe, Int.cast_ofNat_Int, Int.reduceNeg, reduceCtorEq, ne_eq, ge_iff_le, gt_iff_lt, beq_iff_eq, beq_eq_false_iff_ne, bne_iff_ne, bne_eq_false_iff_eq, nrm, *] at hc) <;> try (exfalso; omega))
| ((with_reducible first | apply retF.r | apply retF.nn); case hv => exact tRS)
| ((refine Call.use (hpa _) ?_))
| ((refine (hml (by repeat' (first | exact Ext.refl _ | (refine Ext.set ?_ (by first | exact Nat.le_refl _ | (simp only [alloc_n, set_n]; omega) | (simp only [alloc_n, set_n, drop_n]; omega)) _) | (refine Ext.trans ?_ (Ext.alloc _ _)) | (refine Ext.drop ?_ (by first | exact Nat.le_refl _ | (simp only [alloc_n, set_n, drop_n]; omega)))))).mono fun v h3 hp => ?_))
| fail)
        all_goals exact ⟨hp.o, (Fr.ext (by repeat' (first | exact Ext.refl _ | (refine Ext.set ?_ (by first | exact Nat.le_refl _ | (simp only [alloc_n, set_n]; omega) | (simp only [alloc_n, set_n, drop_n]; omega)) _) | (refine Ext.trans ?_ (Ext.alloc _ _)) | (refine Ext.drop ?_ (by first | exact Nat.le_refl _ | (simp only [alloc_n, set_n, drop_n]; omega)))))).trans hp.f⟩
      rw [if_neg hMAIL]
      have pMAIL : (nm = [77, 65, 73, 76]) = False := eq_false hMAIL
      clear hMAIL
      by_cases hRCPT : nm = nRCPT
      · rw [if_pos hRCPT]
        have pRCPT : (nm = [82, 67, 80, 84]) = True := eq_true hRCPT
        clear hRCPT hres hsay hml hda
        refine Call.bodyF b_serve_Server_command rfl rfl ?_
        unfold c_serve_Server_command
        repeat' (first
| ((with_reducible apply opsF.op rfl); case hs => first | exact tHT | exact tHS)
| (with_reducible first | apply opsF.nil | apply seqF.nn | apply vcF.seq | apply vcF.region | apply vcF.skip | apply vcF.block | apply vcF.exit | apply vcF.ret | apply vcF.loop | apply seqF.e | apply seqF.r | apply blkF.nn | apply blkF.e | apply blkF.r | apply blkF.o rfl)
| ((with_reducible apply opsF.call); case hx => exact tAG)
| ((with_reducible apply vcF.cond); case hx => exact tEV) <;> ((intro hc; try simp only [Int.reduceLT, Int.reduceLE, Int.reduceEq, Int.reduceNe, Int.cast_ofNat_Int, Int.reduceNeg, reduceCtorEq, ne_eq, ge_iff_le, gt_iff_lt, beq_iff_eq, beq_eq_false_iff_ne, bne_iff_ne, bne_eq_false_iff_eq, nrm, *] at hc) <;> try (exfalso; omega))
| ((with_reducible first | apply retF.r | apply retF.nn); case hv => exact tRS)
| ((refine Call.use (hpa _) ?_))
| ((refine (hrc (by repeat' (first | exact Ext.refl _ | (refine Ext.set ?_ (by first | exact Nat.le_refl _ | (simp only [alloc_n, set_n]; omega) | (simp only [alloc_n, set_n, drop_n]; omega)) _) | (refine Ext.trans ?_ (Ext.alloc _ _)) | (refine Ext.drop ?_ (by first | exact Nat.le_refl _ | (simp only [alloc_n, set_n, drop_n]; omega)))))).mono fun v h3 hp => ?_))
| fail)
        all_goals exact ⟨hp.o, (Fr.ext (by repeat' (first | exact Ext.refl _ | (refine Ext.set ?_ (by first | exact Nat.le_refl _ | (simp only [alloc_n, set_n]; omega) | (simp only [alloc_n, set_n, drop_n]; omega)) _) | (refine Ext.trans ?_ (Ext.alloc _ _)) | (refine Ext.drop ?_ (by first | exact Nat.le_refl _ | (simp only [alloc_n, set_n, drop_n]; omega)))))).trans hp.f⟩
      rw [if_neg hRCPT]
      have pRCPT : (nm = [82, 67, 80, 84]) = False := eq_false hRCPT
      clear hRCPT
      by_cases hDATA : nm = nDATA
      · rw [if_pos hDATA]
        have pDATA : (nm = [68, 65, 84, 65]) = True := eq_true hDATA
        clear hDATA hres hsay hml hrc
        refine Call.bodyF b_serve_Server_command rfl rfl ?_
        unfold c_serve_Server_command
        repeat' (first
| ((with_reducible apply opsF.op rfl); case hs => first | exact tHT | exact tHS)
| (with_reducible first | apply opsF.nil | apply seqF.nn | apply vcF.seq | apply vcF.region | apply vcF.skip | apply vcF.block | apply vcF.exit | apply vcF.ret | apply vcF.loop | apply seqF.e | apply seqF.r | apply blkF.nn | apply blkF.e | apply blkF.r | apply blkF.o rfl)
| ((with_reducible apply opsF.call); case hx => exact tAG)
| ((with_reducible apply vcF.cond); case hx => exact tEV) <;> ((intro hc; try simp only [Int.reduceLT, Int.reduceLE, Int.reduceEq, Int.reduceNe, Int.cast_ofNat_Int, Int.reduceNeg, reduceCtorEq, ne_eq, ge_iff_le, gt_iff_lt, beq_iff_eq, beq_eq_false_iff_ne, bne_iff_ne, bne_eq_false_iff_eq, nrm, *] at hc) <;> try (exfalso; omega))
| ((with_reducible first | apply retF.r | apply retF.nn); case hv => exact tRS)
| ((refine Call.use (hpa _) ?_))
| ((refine (hda (by repeat' (first | exact Ext.refl _ | (refine Ext.set ?_ (by first | exact Nat.le_refl _ | (simp only [alloc_n, set_n]; omega) | (simp only [alloc_n, set_n, drop_n]; omega)) _) | (refine Ext.trans ?_ (Ext.alloc _ _)) | (refine Ext.drop ?_ (by first | exact Nat.le_refl _ | (simp only [alloc_n, set_n, drop_n]; omega)))))).mono fun v h3 hp => ?_))
| fail)
        all_goals exact ⟨hp.o, (Fr.ext (by repeat' (first | exact Ext.refl _ | (refine Ext.set ?_ (by first | exact Nat.le_refl _ | (simp only [alloc_n, set_n]; omega) | (simp only [alloc_n, set_n, drop_n]; omega)) _) | (refine Ext.trans ?_ (Ext.alloc _ _)) | (refine Ext.drop ?_ (by first | exact Nat.le_refl _ | (simp only [alloc_n, set_n, drop_n]; omega)))))).trans hp.f⟩
      rw [if_neg hDATA]
      have pDATA : (nm = [68, 65, 84, 65]) = False := eq_false hDATA
      clear hDATA
      clear hres hsay hml hrc hda
      refine Call.bodyF b_serve_Server_command rfl rfl ?_
      unfold c_serve_Server_command
      repeat' (first
| ((with_reducible apply opsF.op rfl); case hs => first | exact tHT | exact tHS)
| (with_reducible first | apply opsF.nil | apply seqF.nn | apply vcF.seq | apply vcF.region | apply vcF.skip | apply vcF.block | apply vcF.exit | apply vcF.ret | apply vcF.loop | apply seqF.e | apply seqF.r | apply blkF.nn | apply blkF.e | apply blkF.r | apply blkF.o rfl)
| ((with_reducible apply opsF.call); case hx => exact tAG)
| ((with_reducible apply vcF.cond); case hx => exact tEV) <;> ((intro hc; try simp only [Int.reduceLT, Int.reduceLE, Int.reduceEq, Int.reduceNe, Int.cast_ofNat_Int, Int.reduceNeg, reduceCtorEq, ne_eq, ge_iff_le, gt_iff_lt, beq_iff_eq, beq_eq_false_iff_ne, bne_iff_ne, bne_eq_false_iff_eq, nrm, *] at hc) <;> try (exfalso; omega))
| ((with_reducible first | apply retF.r | apply retF.nn); case hv => exact tRS)
| ((refine Call.use (hpa _) ?_))
| fail)
      all_goals exact ⟨⟨ap, tq, tr, tt, H.ext (by repeat' (first | exact Ext.refl _ | (refine Ext.set ?_ (by first | exact Nat.le_refl _ | (simp only [alloc_n, set_n]; omega) | (simp only [alloc_n, set_n, drop_n]; omega)) _) | (refine Ext.trans ?_ (Ext.alloc _ _)) | (refine Ext.drop ?_ (by first | exact Nat.le_refl _ | (simp only [alloc_n, set_n, drop_n]; omega))))), hT.ext (by repeat' (first | exact Ext.refl _ | (refine Ext.set ?_ (by first | exact Nat.le_refl _ | (simp only [alloc_n, set_n]; omega) | (simp only [alloc_n, set_n, drop_n]; omega)) _) | (refine Ext.trans ?_ (Ext.alloc _ _)) | (refine Ext.drop ?_ (by first | exact Nat.le_refl _ | (simp only [alloc_n, set_n, drop_n]; omega)))))⟩, Fr.ext (by repeat' (first | exact Ext.refl _ | (refine Ext.set ?_ (by first | exact Nat.le_refl _ | (simp only [alloc_n, set_n]; omega) | (simp only [alloc_n, set_n, drop_n]; omega)) _) | (refine Ext.trans ?_ (Ext.alloc _ _)) | (refine Ext.drop ?_ (by first | exact Nat.le_refl _ | (simp only [alloc_n, set_n, drop_n]; omega)))))⟩
    · rw [if_pos hc]
      refine Call.bodyF b_serve_Server_command rfl rfl ?_
      unfold c_serve_Server_command
      repeat' (first
| ((with_reducible apply opsF.op rfl); case hs => first | exact tHT | exact tHS)
| (with_reducible first | apply opsF.nil | apply seqF.nn | apply vcF.seq | apply vcF.region | apply vcF.skip | apply vcF.block | apply vcF.exit | apply vcF.ret | apply vcF.loop | apply seqF.e | apply seqF.r | apply blkF.nn | apply blkF.e | apply blkF.r | apply blkF.o rfl)
| ((with_reducible apply opsF.call); case hx => exact tAG)
| ((with_reducible apply vcF.cond); case hx => exact tEV) <;> ((intro hc; try simp only [Int.reduceLT, Int.reduceLE, Int.reduceEq, Int.reduceNe, Int.cast_ofNat_Int, Int.reduceNeg, reduceCtorEq, ne_eq, ge_iff_le, gt_iff_lt, beq_iff_eq, beq_eq_false_iff_ne, bne_iff_ne, bne_eq_false_iff_eq, nrm, *] at hc) <;> try (exfalso; omega))
| ((with_reducible first | apply retF.r | apply retF.nn); case hv => exact tRS)
| ((refine Call.use (hpa _) ?_))
| ((refine (hsay _ (by repeat' (first | exact Ext.refl _ | (refine Ext.set ?_ (by first | exact Nat.le_refl _ | (simp only [alloc_n, set_n]; omega) | (simp only [alloc_n, set_n, drop_n]; omega)) _) | (refine Ext.trans ?_ (Ext.alloc _ _)) | (refine Ext.drop ?_ (by first | exact Nat.le_refl _ | (simp only [alloc_n, set_n, drop_n]; omega)))))).mono fun v h3 hp => ?_); obtain ⟨tq3, O3, T3, F3⟩ := hp)
| fail)
      all_goals exact ⟨⟨ap, tq3, tr, tt, O3, T3⟩, (Fr.ext (by repeat' (first | exact Ext.refl _ | (refine Ext.set ?_ (by first | exact Nat.le_refl _ | (simp only [alloc_n, set_n]; omega) | (simp only [alloc_n, set_n, drop_n]; omega)) _) | (refine Ext.trans ?_ (Ext.alloc _ _)) | (refine Ext.drop ?_ (by first | exact Nat.le_refl _ | (simp only [alloc_n, set_n, drop_n]; omega)))))).trans F3⟩
  · rw [if_pos hk]
    refine Call.bodyF b_serve_Server_command rfl rfl ?_
    unfold c_serve_Server_command
    repeat' (first
| ((with_reducible apply opsF.op rfl); case hs => first | exact tHT | exact tHS)
| (with_reducible first | apply opsF.nil | apply seqF.nn | apply vcF.seq | apply vcF.region | apply vcF.skip | apply vcF.block | apply vcF.exit | apply vcF.ret | apply vcF.loop | apply seqF.e | apply seqF.r | apply blkF.nn | apply blkF.e | apply blkF.r | apply blkF.o rfl)
| ((with_reducible apply opsF.call); case hx => exact tAG)
| ((with_reducible apply vcF.cond); case hx => exact tEV) <;> ((intro hc; try simp only [Int.reduceLT, Int.reduceLE, Int.reduceEq, Int.reduceNe, Int.cast_ofNat_Int, Int.reduceNeg, reduceCtorEq, ne_eq, ge_iff_le, gt_iff_lt, beq_iff_eq, beq_eq_false_iff_ne, bne_iff_ne, bne_eq_false_iff_eq, nrm, *] at hc) <;> try (exfalso; omega))
| ((with_reducible first | apply retF.r | apply retF.nn); case hv => exact tRS)
| ((refine (hsay _ (by repeat' (first | exact Ext.refl _ | (refine Ext.set ?_ (by first | exact Nat.le_refl _ | (simp only [alloc_n, set_n]; omega) | (simp only [alloc_n, set_n, drop_n]; omega)) _) | (refine Ext.trans ?_ (Ext.alloc _ _)) | (refine Ext.drop ?_ (by first | exact Nat.le_refl _ | (simp only [alloc_n, set_n, drop_n]; omega)))))).mono fun v h3 hp => ?_); obtain ⟨tq3, O3, T3, F3⟩ := hp)
| fail)
    all_goals exact ⟨⟨ap, tq3, tr, tt, O3, T3⟩, (Fr.ext (by repeat' (first | exact Ext.refl _ | (refine Ext.set ?_ (by first | exact Nat.le_refl _ | (simp only [alloc_n, set_n]; omega) | (simp only [alloc_n, set_n, drop_n]; omega)) _) | (refine Ext.trans ?_ (Ext.alloc _ _)) | (refine Ext.drop ?_ (by first | exact Nat.le_refl _ | (simp only [alloc_n, set_n, drop_n]; omega)))))).trans F3⟩
end Go.Abs.F
/- Layer 6: a peer's session: a line of a body. -/
namespace Go.Abs.F
open Go Go.Abs
set_option maxRecDepth 10000
set_option maxHeartbeats 20000000
set_option linter.unusedSimpArgs false
set_option linter.unusedVariables false
variable {w0 : World}
/-- A goal that the run leaves as it is. -/
structure Held (p : Prop) : Prop where
  h : p
/-- What holds behind two parts. -/
theorem vcF.cut2 {n : Nat} {a b d : IC} {Q : AExit → Fm → AH → Prop} {σ : Fm} {h : AH} (I : Fm → AH → Prop) (k1 : Held (vcF P w0 n (.seq a b) (seqF I Q) σ h)) (k2 : ∀ σ h, I σ h → vcF P w0 n d Q σ h) : vcF P w0 n (.seq a (.seq b d)) Q σ h :=
  vcF_mono (ic := a) (fun e σ h hh => by
    cases e with
    | normal =>
      exact vcF_mono (ic := b) (fun e σ h hh => by
        cases e with
        | normal => exact k2 _ _ hh
        | exit i => exact hh
        | ret => exact hh) hh
    | exit i => exact hh
    | ret => exact hh) k1.h
/-- A line without the dot ahead of it. -/
def undot (t : L8) : L8 := if t.head? = some 46 then t.tail else t
theorem trimG_call (t : L8) (h : AH) (hl : t.length ≤ 1000000000) : Call P w0 i_stringslite_TrimPrefix [.v (.string (bs t)), .v (.string (bs [46]))] h (fun v h' => v = .v (.string (bs (undot t))) ∧ h' = h) := by
  have hp := fun h => hasP_call (w0 := w0) t 46 h
  refine Call.bodyF b_i_stringslite_TrimPrefix rfl rfl ?_
  unfold c_i_stringslite_TrimPrefix
  cases t with
  | nil =>
    rw [show decide (([] : L8).head? = some 46) = false from rfl] at hp
    rw [show undot [] = [] from rfl]
    repeat' (first
| ((with_reducible apply opsF.op rfl); case hs => first | exact tHT | exact tHS)
| (with_reducible first | apply opsF.nil | apply seqF.nn | apply vcF.seq | apply vcF.region | apply vcF.skip | apply vcF.ret | apply seqF.r)
| ((with_reducible apply opsF.call); case hx => exact tAG)
| ((with_reducible apply vcF.cond); case hx => exact tEV) <;> ((intro hc; try simp only [Int.reduceLT, Int.reduceLE, Int.reduceEq, Int.reduceNe, Int.cast_ofNat_Int, Int.reduceNeg, reduceCtorEq, ne_eq, ge_iff_le, gt_iff_lt, beq_iff_eq, beq_eq_false_iff_ne, bne_iff_ne, bne_eq_false_iff_eq, nrm, *] at hc) <;> try (exfalso; omega))
| ((with_reducible first | apply retF.r | apply retF.nn); case hv => exact tRS)
| ((refine Call.use (hp _) ?_))
| fail)
    all_goals exact ⟨rfl, rfl⟩
  | cons c r =>
    simp only [List.length_cons] at hl
    by_cases hc : c = 46
    · subst hc
      rw [show undot (46 :: r) = r from rfl]
      rw [show decide ((46 :: r : L8).head? = some 46) = true from rfl] at hp
      repeat' (first
| ((with_reducible apply opsF.op rfl); case hs => first | exact tHT | exact tHS)
| (with_reducible first | apply opsF.nil | apply seqF.nn | apply vcF.seq | apply vcF.region | apply vcF.skip | apply vcF.ret | apply seqF.r)
| ((with_reducible apply opsF.call); case hx => exact tAG)
| ((with_reducible apply vcF.cond); case hx => exact tEV) <;> ((intro hc; try simp only [Int.reduceLT, Int.reduceLE, Int.reduceEq, Int.reduceNe, Int.cast_ofNat_Int, Int.reduceNeg, reduceCtorEq, ne_eq, ge_iff_le, gt_iff_lt, beq_iff_eq, beq_eq_false_iff_ne, bne_iff_ne, bne_eq_false_iff_eq, nrm, *] at hc) <;> try (exfalso; omega))
| ((with_reducible first | apply retF.r | apply retF.nn); case hv => exact tRS)
| ((refine Call.use (hp _) ?_))
| fail)
      all_goals exact ⟨by simp, rfl⟩
    · have e : decide ((c :: r : L8).head? = some 46) = false := by simpa using hc
      rw [e] at hp
      rw [show undot (c :: r) = c :: r by unfold undot; rw [if_neg (by simpa using hc)]]
      clear e
      repeat' (first
| ((with_reducible apply opsF.op rfl); case hs => first | exact tHT | exact tHS)
| (with_reducible first | apply opsF.nil | apply seqF.nn | apply vcF.seq | apply vcF.region | apply vcF.skip | apply vcF.ret | apply seqF.r)
| ((with_reducible apply opsF.call); case hx => exact tAG)
| ((with_reducible apply vcF.cond); case hx => exact tEV) <;> ((intro hc; try simp only [Int.reduceLT, Int.reduceLE, Int.reduceEq, Int.reduceNe, Int.cast_ofNat_Int, Int.reduceNeg, reduceCtorEq, ne_eq, ge_iff_le, gt_iff_lt, beq_iff_eq, beq_eq_false_iff_ne, bne_iff_ne, bne_eq_false_iff_eq, nrm, *] at hc) <;> try (exfalso; omega))
| ((with_reducible first | apply retF.r | apply retF.nn); case hv => exact tRS)
| ((refine Call.use (hp _) ?_))
| fail)
      all_goals exact ⟨rfl, rfl⟩
theorem trimP_call (t : L8) (h : AH) (hl : t.length ≤ 1000000000) : Call P w0 strings_TrimPrefix [.v (.string (bs t)), .v (.string (bs [46]))] h (fun v h' => v = .v (.string (bs (undot t))) ∧ h' = h) := by
  have hp := fun h => trimG_call (w0 := w0) t h hl
  refine Call.bodyF b_strings_TrimPrefix rfl rfl ?_
  unfold c_strings_TrimPrefix
  generalize undot t = u at *
  repeat' (first
| ((with_reducible apply opsF.op rfl); case hs => first | exact tHT | exact tHS)
| (with_reducible first | apply opsF.nil | apply seqF.nn | apply vcF.seq | apply vcF.region | apply vcF.skip | apply vcF.ret | apply seqF.r)
| ((with_reducible apply opsF.call); case hx => exact tAG)
| ((with_reducible apply vcF.cond); case hx => exact tEV) <;> ((intro hc; try simp only [Int.reduceLT, Int.reduceLE, Int.reduceEq, Int.reduceNe, Int.cast_ofNat_Int, Int.reduceNeg, reduceCtorEq, ne_eq, ge_iff_le, gt_iff_lt, beq_iff_eq, beq_eq_false_iff_ne, bne_iff_ne, bne_eq_false_iff_eq, nrm, *] at hc) <;> try (exfalso; omega))
| ((with_reducible first | apply retF.r | apply retF.nn); case hv => exact tRS)
| ((refine Call.use (hp _) ?_))
| fail)
  all_goals exact ⟨rfl, rfl⟩
theorem unstuff_call (t : L8) (h : AH) (hl : t.length ≤ 1000000000) : Call P w0 dots_Unstuff [.v (.string (bs t))] h (fun v h' => v = (if t = [46] then .tup [.v (.string (bs [])), .v (.bool true)] else .tup [.v (.string (bs (undot t))), .v (.bool false)]) ∧ h' = h) := by
  have hp := fun h => trimP_call (w0 := w0) t h hl
  refine Call.bodyF b_dots_Unstuff rfl rfl ?_
  unfold c_dots_Unstuff
  generalize undot t = u at *
  by_cases ht : t = [46]
  · rw [if_pos ht]
    have pt : (t = [46]) = True := eq_true ht
    clear ht
    repeat' (first
| ((with_reducible apply opsF.op rfl); case hs => first | exact tHT | exact tHS)
| (with_reducible first | apply opsF.nil | apply seqF.nn | apply vcF.seq | apply vcF.region | apply vcF.skip | apply vcF.ret | apply seqF.r)
| ((with_reducible apply opsF.call); case hx => exact tAG)
| ((with_reducible apply vcF.cond); case hx => exact tEV) <;> ((intro hc; try simp only [Int.reduceLT, Int.reduceLE, Int.reduceEq, Int.reduceNe, Int.cast_ofNat_Int, Int.reduceNeg, reduceCtorEq, ne_eq, ge_iff_le, gt_iff_lt, beq_iff_eq, beq_eq_false_iff_ne, bne_iff_ne, bne_eq_false_iff_eq, nrm, *] at hc) <;> try (exfalso; omega))
| ((with_reducible first | apply retF.r | apply retF.nn); case hv => exact tRS)
| ((refine Call.use (hp _) ?_))
| fail)
    all_goals exact ⟨rfl, rfl⟩
  · rw [if_neg ht]
    have pt : (t = [46]) = False := eq_false ht
    clear ht
    repeat' (first
| ((with_reducible apply opsF.op rfl); case hs => first | exact tHT | exact tHS)
| (with_reducible first | apply opsF.nil | apply seqF.nn | apply vcF.seq | apply vcF.region | apply vcF.skip | apply vcF.ret | apply seqF.r)
| ((with_reducible apply opsF.call); case hx => exact tAG)
| ((with_reducible apply vcF.cond); case hx => exact tEV) <;> ((intro hc; try simp only [Int.reduceLT, Int.reduceLE, Int.reduceEq, Int.reduceNe, Int.cast_ofNat_Int, Int.reduceNeg, reduceCtorEq, ne_eq, ge_iff_le, gt_iff_lt, beq_iff_eq, beq_eq_false_iff_ne, bne_iff_ne, bne_eq_false_iff_eq, nrm, *] at hc) <;> try (exfalso; omega))
| ((with_reducible first | apply retF.r | apply retF.nn); case hv => exact tRS)
| ((refine Call.use (hp _) ?_))
| fail)
    all_goals exact ⟨rfl, rfl⟩
def SV.whole (s : SV) : SV := let s1 : SV := { s with body := false }
  if s.bad = true then s1.reset.say 500 else if s.size < s.bsize then s1.reset.say 552 else s1.ask ⟨4, [], -1, s.sndr, s.rcpts, s.text⟩
theorem swhole_call (hP : PowTab w0) (x : SK) (s : SV) (ap : AV) (tq tr tt tl : Tok) (R : List Tok) (h : AH) (H : SvO h x s ap tq tr tt tl) (hT : Toks h (tq :: tr :: tt :: R)) (ho : s.out.length ≤ 999999999) :
    Call P w0 serve_Server_whole [.ptr x.id 0] h (fun v h' => SvP x s.whole tl R h h') := by
  have hob := H.o
  have S := H.upd (h2 := h) (s' := { s with body := false }) (tq' := tq) (tr' := tr) (tt' := tt) (.refl _ _) rfl rfl
  have F0 : ∀ o, Fr x.ids h (h.set x.id o) := fun o => (Fr.refl x.ids h).set (.inl (by simp [SK.ids])) o
  have hres := sreset_call (w0 := w0) x ({ s with body := false }) ap tq tr tt tl _ S
  have hask := sask_call (w0 := w0) x ({ s with body := false }) ap tq tr tt tl tr tt (tr :: tt :: R) ⟨4, [], -1, s.sndr, s.rcpts, s.text⟩ _ S hT.set (by show s.out.length ≤ _; omega)
  unfold SV.whole
  dsimp only at hask ⊢
  unfold vcel at hob hres hask
  cases hb : s.bad with
  | true =>
    rw [if_pos rfl]
    rw [hb] at hob
    simp only [hb] at hres
    clear hask
    refine Call.bodyF b_serve_Server_whole rfl rfl ?_
    unfold c_serve_Server_whole
    repeat' (first
| ((with_reducible apply opsF.op rfl); case hs => first | exact tHT | exact tHS)
| (with_reducible first | apply opsF.nil | apply seqF.nn | apply vcF.seq | apply vcF.region | apply vcF.skip | apply vcF.block | apply vcF.exit | apply vcF.ret | apply vcF.loop | apply seqF.e | apply seqF.r | apply blkF.nn | apply blkF.e | apply blkF.r | apply blkF.o rfl)
| ((with_reducible apply opsF.call); case hx => exact tAG)
| ((with_reducible apply vcF.cond); case hx => exact tEV) <;> ((intro hc; try simp only [Int.reduceLT, Int.reduceLE, Int.reduceEq, Int.reduceNe, Int.cast_ofNat_Int, Int.reduceNeg, reduceCtorEq, ne_eq, ge_iff_le, gt_iff_lt, beq_iff_eq, beq_eq_false_iff_ne, bne_iff_ne, bne_eq_false_iff_eq, nrm, *] at hc) <;> try (exfalso; omega))
| ((with_reducible first | apply retF.r | apply retF.nn); case hv => exact tRS)
| ((refine hres.mono fun v h3 hp => ?_); obtain ⟨O3, T3, F3⟩ := hp)
| ((refine (ssay_call hP x _ ap tq .full .full tl (.full :: .full :: R) 500 _ O3 (T3 _ (Toks.ff hT).set) (by show s.out.length ≤ _; omega)).mono fun v h5 hp => ?_); obtain ⟨tq5, O5, T5, F5⟩ := hp)
| fail)
    all_goals exact ⟨⟨ap, tq5, .full, .full, O5, T5⟩, ((F0 _).trans F3).trans F5⟩
  | false =>
    rw [if_neg (by simp)]
    rw [hb] at hob
    simp only [hb] at hres hask
    by_cases hz : s.size < s.bsize
    · rw [if_pos hz]
      clear hask
      refine Call.bodyF b_serve_Server_whole rfl rfl ?_
      unfold c_serve_Server_whole
      repeat' (first
| ((with_reducible apply opsF.op rfl); case hs => first | exact tHT | exact tHS)
| (with_reducible first | apply opsF.nil | apply seqF.nn | apply vcF.seq | apply vcF.region | apply vcF.skip | apply vcF.block | apply vcF.exit | apply vcF.ret | apply vcF.loop | apply seqF.e | apply seqF.r | apply blkF.nn | apply blkF.e | apply blkF.r | apply blkF.o rfl)
| ((with_reducible apply opsF.call); case hx => exact tAG)
| ((with_reducible apply vcF.cond); case hx => exact tEV) <;> ((intro hc; try simp only [Int.reduceLT, Int.reduceLE, Int.reduceEq, Int.reduceNe, Int.cast_ofNat_Int, Int.reduceNeg, reduceCtorEq, ne_eq, ge_iff_le, gt_iff_lt, beq_iff_eq, beq_eq_false_iff_ne, bne_iff_ne, bne_eq_false_iff_eq, nrm, *] at hc) <;> try (exfalso; omega))
| ((with_reducible first | apply retF.r | apply retF.nn); case hv => exact tRS)
| ((refine hres.mono fun v h3 hp => ?_); obtain ⟨O3, T3, F3⟩ := hp)
| ((refine (ssay_call hP x _ ap tq .full .full tl (.full :: .full :: R) 552 _ O3 (T3 _ (Toks.ff hT).set) (by show s.out.length ≤ _; omega)).mono fun v h5 hp => ?_); obtain ⟨tq5, O5, T5, F5⟩ := hp)
| fail)
      all_goals exact ⟨⟨ap, tq5, .full, .full, O5, T5⟩, ((F0 _).trans F3).trans F5⟩
    · rw [if_neg hz]
      clear hres
      refine Call.bodyF b_serve_Server_whole rfl rfl ?_
      unfold c_serve_Server_whole
      repeat' (first
| ((with_reducible apply opsF.op rfl); case hs => first | exact tHT | exact tHS)
| (with_reducible first | apply opsF.nil | apply seqF.nn | apply vcF.seq | apply vcF.region | apply vcF.skip | apply vcF.block | apply vcF.exit | apply vcF.ret | apply vcF.loop | apply seqF.e | apply seqF.r | apply blkF.nn | apply blkF.e | apply blkF.r | apply blkF.o rfl)
| ((with_reducible apply opsF.call); case hx => exact tAG)
| ((with_reducible apply vcF.cond); case hx => exact tEV) <;> ((intro hc; try simp only [Int.reduceLT, Int.reduceLE, Int.reduceEq, Int.reduceNe, Int.cast_ofNat_Int, Int.reduceNeg, reduceCtorEq, ne_eq, ge_iff_le, gt_iff_lt, beq_iff_eq, beq_eq_false_iff_ne, bne_iff_ne, bne_eq_false_iff_eq, nrm, *] at hc) <;> try (exfalso; omega))
| ((with_reducible first | apply retF.r | apply retF.nn); case hv => exact tRS)
| ((refine hask.mono fun v h3 hp => ?_); obtain ⟨ap3, tq3, O3, T3, F3⟩ := hp)
| fail)
      all_goals exact ⟨⟨ap3, tq3, tr, tt, O3, T3⟩, (F0 _).trans F3⟩
/-- What a line of a body does to what is kept of it. -/
def SV.line (s : SV) (u : L8) : SV :=
  let s1 : SV := { s with bad := s.bad || !bodyS [u], bsize := s.bsize + ((u.length + 2 : Nat) : Int) }
  if s1.bsize ≤ s.size then { s1 with text := s.text ++ [u] } else s1
def SV.content (s : SV) (k : Int) (t : L8) : SV := if k ≠ 1 then { s with bad := true } else if t = [46] then s.whole else s.line (undot t)
theorem scontent_call (hP : PowTab w0) (x : SK) (s : SV) (ap : AV) (tq tr tt tl : Tok) (R : List Tok) (k : Int) (t : L8) (h : AH) (H : SvO h x s ap tq tr tt tl) (hT : Toks h (tq :: tr :: tt :: R)) (ho : s.out.length ≤ 999999999) (ht : t.length ≤ 1000) (hbs : 0 ≤ s.bsize ∧ s.bsize ≤ 1000000000000) (htx : s.text.length ≤ 1000000000) :
    Call P w0 serve_Server_content [.ptr x.id 0, .agg [.v (.int .i64 k), .v (.string (bs t))]] h (fun v h' => SvP x (s.content k t) tl R h h') := by
  have hob := H.o
  have hlt := H.lt.1
  have hlt2 := H.lt.2
  unfold SV.content
  by_cases hk : k = 1
  · rw [if_neg (by simpa using hk)]
    subst hk
    have hun := fun h => unstuff_call (w0 := w0) t h (by omega)
    by_cases hd : t = [46]
    · rw [if_pos hd]
      rw [if_pos hd] at hun
      have hwh := fun {h' : AH} (e : Ext h h') => swhole_call (w0 := w0) hP x s ap tq tr tt tl R h' (H.ext e) (hT.ext e) ho
      clear hd
      unfold vcel at hob
      refine Call.bodyF b_serve_Server_content rfl rfl ?_
      unfold c_serve_Server_content
      repeat' (first
| ((with_reducible first | apply opsF.op rfl | apply dopsF.op rfl); case hs => first | exact tHT | exact tHS)
| (with_reducible first | apply opsF.nil | apply seqF.nn | apply vcF.seq | apply vcF.region | apply vcF.dregion | apply vcF.skip | apply vcF.ret | apply seqF.r | apply dopsF.nil | apply stabsF.nil | apply stabsF.cons | apply dopsF.cont)
| ((with_reducible first | apply opsF.call | apply dopsF.call); case hx => exact tAG)
| ((with_reducible first | apply opsF.want | apply dopsF.want | apply stabF.want); (case hg => exact tEV); case hb => exact tNB)
| ((with_reducible first | apply opsF.skip | apply dopsF.skip | apply stabF.skip); (case hg => exact tEV); case hb => exact tNB)
| (first | ((with_reducible first | apply opsF.case | apply dopsF.case); case hg => exact tEV) | ((with_reducible apply vcF.cond); case hx => exact tEV)) <;> ((intro hc; try simp only [Int.reduceLT, Int.reduceLE, Int.reduceEq, Int.reduceNe, Int.cast_ofNat_Int, Int.reduceNeg, reduceCtorEq, ne_eq, ge_iff_le, gt_iff_lt, beq_iff_eq, beq_eq_false_iff_ne, bne_iff_ne, bne_eq_false_iff_eq, nrm, *] at hc) <;> try (exfalso; omega))
| ((with_reducible first | apply opsF.und | apply dopsF.und); case hg => rfl)
| ((with_reducible apply stabF.und); rfl)
| ((with_reducible apply stabF.op); (case hs => first | exact tHT | exact tHS); case hv => exact tSV)
| ((with_reducible first | apply retF.r | apply retF.nn); case hv => exact tRS)
| ((refine Call.use (hun _) ?_))
| ((refine (hwh (by repeat' (first | exact Ext.refl _ | (refine Ext.set ?_ (by first | exact Nat.le_refl _ | (simp only [alloc_n, set_n]; omega) | (simp only [alloc_n, set_n, drop_n]; omega)) _) | (refine Ext.trans ?_ (Ext.alloc _ _)) | (refine Ext.drop ?_ (by first | exact Nat.le_refl _ | (simp only [alloc_n, set_n, drop_n]; omega)))))).mono fun v h3 hp => ?_))
| fail)
      all_goals exact ⟨hp.o, (Fr.ext (by repeat' (first | exact Ext.refl _ | (refine Ext.set ?_ (by first | exact Nat.le_refl _ | (simp only [alloc_n, set_n]; omega) | (simp only [alloc_n, set_n, drop_n]; omega)) _) | (refine Ext.trans ?_ (Ext.alloc _ _)) | (refine Ext.drop ?_ (by first | exact Nat.le_refl _ | (simp only [alloc_n, set_n, drop_n]; omega)))))).trans hp.f⟩
    · rw [if_neg hd]
      rw [if_neg hd] at hun
      have hul : (undot t).length ≤ 1000 := by
        unfold undot
        split
        · rw [List.length_tail]; omega
        · exact ht
      generalize undot t = u at *
      have hgo := fun tok h => dgood_call (w0 := w0) [u] tok h (by simp) (fun q hq => by rw [List.mem_singleton.1 hq]; omega)
      have hsi := fun tok h => dsize_call (w0 := w0) [u] tok h (by simp) (fun q hq => by rw [List.mem_singleton.1 hq]; omega)
      rw [show srows [u] = [[.v (.string (bs u))]] from rfl] at hgo hsi
      have hbz : bsizeS [u] = u.length + 2 := by simp [bsizeS]
      rw [hbz] at hsi
      clear hd hbz
      obtain ⟨B, hB⟩ : ∃ B, B = bodyS [u] := ⟨_, rfl⟩
      rw [← hB] at hgo
      obtain ⟨s1, hs1⟩ : ∃ s1 : SV, s1 = { s with bad := s.bad || !B, bsize := s.bsize + ((u.length + 2 : Nat) : Int) } := ⟨_, rfl⟩
      have el : s.line u = if s1.bsize ≤ s.size then { s1 with text := s.text ++ [u] } else s1 := by rw [hs1, hB]; rfl
      rw [el]
      clear el hB
      have xt := srows_len s.text
      unfold vcel at hob
      refine Call.bodyF b_serve_Server_content rfl rfl ?_
      unfold c_serve_Server_content
      repeat' (first
| (with_reducible refine vcF.cut2 (a := .region _) (b := .dregion _) (fun σ hh => SvO hh x s1 ap tq tr tt tl ∧ Toks hh (tq :: tr :: tt :: R) ∧ Fr x.ids h hh ∧ σ 0 = .ptr x.id 0 ∧ σ 4 = .v (.string (bs u))) ?_ ?_)
| ((with_reducible first | apply opsF.op rfl | apply dopsF.op rfl); case hs => first | exact tHT | exact tHS)
| (with_reducible first | apply opsF.nil | apply seqF.nn | apply vcF.seq | apply vcF.region | apply vcF.dregion | apply vcF.skip | apply vcF.ret | apply seqF.r | apply dopsF.nil | apply stabsF.nil | apply stabsF.cons | apply dopsF.cont)
| ((with_reducible first | apply opsF.call | apply dopsF.call); case hx => exact tAG)
| ((with_reducible first | apply opsF.want | apply dopsF.want | apply stabF.want); (case hg => exact tEV); case hb => exact tNB)
| ((with_reducible first | apply opsF.skip | apply dopsF.skip | apply stabF.skip); (case hg => exact tEV); case hb => exact tNB)
| (first | ((with_reducible first | apply opsF.case | apply dopsF.case); case hg => exact tEV) | ((with_reducible apply vcF.cond); case hx => exact tEV)) <;> ((intro hc; try simp only [Int.reduceLT, Int.reduceLE, Int.reduceEq, Int.reduceNe, Int.cast_ofNat_Int, Int.reduceNeg, reduceCtorEq, ne_eq, ge_iff_le, gt_iff_lt, beq_iff_eq, beq_eq_false_iff_ne, bne_iff_ne, bne_eq_false_iff_eq, nrm, *] at hc) <;> try (exfalso; omega))
| ((with_reducible first | apply opsF.und | apply dopsF.und); case hg => rfl)
| ((with_reducible apply stabF.und); rfl)
| ((with_reducible apply stabF.op); (case hs => first | exact tHT | exact tHS); case hv => exact tSV)
| ((with_reducible first | apply retF.r | apply retF.nn); case hv => exact tRS)
| ((refine Call.use (hun _) ?_))
| fail)
      rotate_right
      · rintro σ hh ⟨O1, T1, F1, g0, g4⟩
        obtain ⟨tt', h2, hap, T2, h4, h5, h6⟩ := (T1.perm ((List.Perm.cons tq (List.Perm.swap tt tr R)).trans (List.Perm.swap tt tq (tr :: R)))).app
        have gob := O1.o
        have T3 : Toks h2 (tq :: tr :: tt' :: R) := T2.perm ((List.Perm.swap tq tt' (tr :: R)).trans (List.Perm.cons tq (List.Perm.swap tr tt' R)))
        have et : s1.text = s.text := by rw [hs1]
        have es : s1.size = s.size := by rw [hs1]
        have e2 : srows (s.text ++ [u]) = srows s.text ++ [[.v (.string (bs u))]] := by rw [srows_app]; rfl
        have U := O1.upd (h2 := h2) (s' := { s1 with text := s.text ++ [u] }) (tq' := tq) (tr' := tr) (tt' := tt') ((Fr.refl [] hh).app h4 h5 h6) rfl rfl
        unfold vcel at gob U
        dsimp only at U
        rw [e2] at U
        rw [et, es] at gob
        clear hun hgo hsi hob
        clear hs1 hbs
        rw [← es] at gob ⊢
        rw [← et] at gob xt e2 U htx ⊢
        clear es et
        by_cases hz : s1.bsize ≤ s1.size
        · rw [if_pos hz]
          repeat' (first
| ((with_reducible first | apply opsF.op rfl | apply dopsF.op rfl); case hs => first | exact tHT | exact tHS)
| (with_reducible first | apply opsF.nil | apply seqF.nn | apply vcF.seq | apply vcF.region | apply vcF.dregion | apply vcF.skip | apply vcF.ret | apply seqF.r | apply dopsF.nil | apply stabsF.nil | apply stabsF.cons | apply dopsF.cont)
| ((with_reducible first | apply opsF.call | apply dopsF.call); case hx => exact tAG)
| ((with_reducible first | apply opsF.want | apply dopsF.want | apply stabF.want); (case hg => exact tEV); case hb => exact tNB)
| ((with_reducible first | apply opsF.skip | apply dopsF.skip | apply stabF.skip); (case hg => exact tEV); case hb => exact tNB)
| (first | ((with_reducible first | apply opsF.case | apply dopsF.case); case hg => exact tEV) | ((with_reducible apply vcF.cond); case hx => exact tEV)) <;> ((intro hc; try simp only [Int.reduceLT, Int.reduceLE, Int.reduceEq, Int.reduceNe, Int.cast_ofNat_Int, Int.reduceNeg, reduceCtorEq, ne_eq, ge_iff_le, gt_iff_lt, beq_iff_eq, beq_eq_false_iff_ne, bne_iff_ne, bne_eq_false_iff_eq, nrm, *] at hc) <;> try (exfalso; omega))
| ((with_reducible first | apply opsF.und | apply dopsF.und); case hg => rfl)
| ((with_reducible apply stabF.und); rfl)
| ((with_reducible apply stabF.op); (case hs => first | exact tHT | exact tHS); case hv => exact tSV)
| ((with_reducible first | apply retF.r | apply retF.nn); case hv => exact tRS))
          all_goals exact ⟨⟨ap, tq, tr, tt', U, T3.set⟩, (F1.app h4 h5 h6).set (.inl (by simp [SK.ids])) _⟩
        · rw [if_neg hz]
          repeat' (first
| ((with_reducible first | apply opsF.op rfl | apply dopsF.op rfl); case hs => first | exact tHT | exact tHS)
| (with_reducible first | apply opsF.nil | apply seqF.nn | apply vcF.seq | apply vcF.region | apply vcF.dregion | apply vcF.skip | apply vcF.ret | apply seqF.r | apply dopsF.nil | apply stabsF.nil | apply stabsF.cons | apply dopsF.cont)
| ((with_reducible first | apply opsF.call | apply dopsF.call); case hx => exact tAG)
| ((with_reducible first | apply opsF.want | apply dopsF.want | apply stabF.want); (case hg => exact tEV); case hb => exact tNB)
| ((with_reducible first | apply opsF.skip | apply dopsF.skip | apply stabF.skip); (case hg => exact tEV); case hb => exact tNB)
| (first | ((with_reducible first | apply opsF.case | apply dopsF.case); case hg => exact tEV) | ((with_reducible apply vcF.cond); case hx => exact tEV)) <;> ((intro hc; try simp only [Int.reduceLT, Int.reduceLE, Int.reduceEq, Int.reduceNe, Int.cast_ofNat_Int, Int.reduceNeg, reduceCtorEq, ne_eq, ge_iff_le, gt_iff_lt, beq_iff_eq, beq_eq_false_iff_ne, bne_iff_ne, bne_eq_false_iff_eq, nrm, *] at hc) <;> try (exfalso; omega))
| ((with_reducible first | apply opsF.und | apply dopsF.und); case hg => rfl)
| ((with_reducible apply stabF.und); rfl)
| ((with_reducible apply stabF.op); (case hs => first | exact tHT | exact tHS); case hv => exact tSV)
| ((with_reducible first | apply retF.r | apply retF.nn); case hv => exact tRS))
          all_goals exact ⟨⟨ap, tq, tr, tt, O1, T1⟩, F1⟩
      · refine ⟨?_⟩
        have U := fun {h' : AH} (e : Ext h h') => H.upd (h2 := h') (s' := s1) (tq' := tq) (tr' := tr) (tt' := tt) (.ext e) (by rw [hs1]) (by rw [hs1])
        unfold vcel at U
        rw [hs1] at U ⊢
        clear hs1 s1
        dsimp only at U
        cases hb : s.bad with
        | true =>
          rw [hb] at hob
          simp only [hb, Bool.true_or] at U ⊢
          clear hgo
          repeat' (first
| ((with_reducible first | apply opsF.op rfl | apply dopsF.op rfl); case hs => first | exact tHT | exact tHS)
| (with_reducible first | apply opsF.nil | apply seqF.nn | apply vcF.seq | apply vcF.region | apply vcF.dregion | apply vcF.skip | apply vcF.ret | apply seqF.r | apply dopsF.nil | apply stabsF.nil | apply stabsF.cons | apply dopsF.cont)
| ((with_reducible first | apply opsF.call | apply dopsF.call); case hx => exact tAG)
| ((with_reducible first | apply opsF.want | apply dopsF.want | apply stabF.want); (case hg => exact tEV); case hb => exact tNB)
| ((with_reducible first | apply opsF.skip | apply dopsF.skip | apply stabF.skip); (case hg => exact tEV); case hb => exact tNB)
| (first | ((with_reducible first | apply opsF.case | apply dopsF.case); case hg => exact tEV) | ((with_reducible apply vcF.cond); case hx => exact tEV)) <;> ((intro hc; try simp only [Int.reduceLT, Int.reduceLE, Int.reduceEq, Int.reduceNe, Int.cast_ofNat_Int, Int.reduceNeg, reduceCtorEq, ne_eq, ge_iff_le, gt_iff_lt, beq_iff_eq, beq_eq_false_iff_ne, bne_iff_ne, bne_eq_false_iff_eq, nrm, *] at hc) <;> try (exfalso; omega))
| ((with_reducible first | apply opsF.und | apply dopsF.und); case hg => rfl)
| ((with_reducible apply stabF.und); rfl)
| ((with_reducible apply stabF.op); (case hs => first | exact tHT | exact tHS); case hv => exact tSV)
| ((with_reducible first | apply retF.r | apply retF.nn); case hv => exact tRS)
| ((refine Call.use (hsi _ _) ?_))
| fail)
          all_goals simp only [set_set]
          all_goals exact ⟨U (by repeat' (first | exact Ext.refl _ | (refine Ext.set ?_ (by first | exact Nat.le_refl _ | (simp only [alloc_n, set_n]; omega) | (simp only [alloc_n, set_n, drop_n]; omega)) _) | (refine Ext.trans ?_ (Ext.alloc _ _)) | (refine Ext.drop ?_ (by first | exact Nat.le_refl _ | (simp only [alloc_n, set_n, drop_n]; omega))))), (hT.ext (by repeat' (first | exact Ext.refl _ | (refine Ext.set ?_ (by first | exact Nat.le_refl _ | (simp only [alloc_n, set_n]; omega) | (simp only [alloc_n, set_n, drop_n]; omega)) _) | (refine Ext.trans ?_ (Ext.alloc _ _)) | (refine Ext.drop ?_ (by first | exact Nat.le_refl _ | (simp only [alloc_n, set_n, drop_n]; omega)))))).set, (Fr.ext (by repeat' (first | exact Ext.refl _ | (refine Ext.set ?_ (by first | exact Nat.le_refl _ | (simp only [alloc_n, set_n]; omega) | (simp only [alloc_n, set_n, drop_n]; omega)) _) | (refine Ext.trans ?_ (Ext.alloc _ _)) | (refine Ext.drop ?_ (by first | exact Nat.le_refl _ | (simp only [alloc_n, set_n, drop_n]; omega)))))).set (.inl (by simp [SK.ids])) _, rfl, rfl⟩
        | false =>
          rw [hb] at hob
          simp only [hb, Bool.false_or] at U ⊢
          cases B with
          | true =>
            repeat' (first
| ((with_reducible first | apply opsF.op rfl | apply dopsF.op rfl); case hs => first | exact tHT | exact tHS)
| (with_reducible first | apply opsF.nil | apply seqF.nn | apply vcF.seq | apply vcF.region | apply vcF.dregion | apply vcF.skip | apply vcF.ret | apply seqF.r | apply dopsF.nil | apply stabsF.nil | apply stabsF.cons | apply dopsF.cont)
| ((with_reducible first | apply opsF.call | apply dopsF.call); case hx => exact tAG)
| ((with_reducible first | apply opsF.want | apply dopsF.want | apply stabF.want); (case hg => exact tEV); case hb => exact tNB)
| ((with_reducible first | apply opsF.skip | apply dopsF.skip | apply stabF.skip); (case hg => exact tEV); case hb => exact tNB)
| (first | ((with_reducible first | apply opsF.case | apply dopsF.case); case hg => exact tEV) | ((with_reducible apply vcF.cond); case hx => exact tEV)) <;> ((intro hc; try simp only [Int.reduceLT, Int.reduceLE, Int.reduceEq, Int.reduceNe, Int.cast_ofNat_Int, Int.reduceNeg, reduceCtorEq, ne_eq, ge_iff_le, gt_iff_lt, beq_iff_eq, beq_eq_false_iff_ne, bne_iff_ne, bne_eq_false_iff_eq, nrm, *] at hc) <;> try (exfalso; omega))
| ((with_reducible first | apply opsF.und | apply dopsF.und); case hg => rfl)
| ((with_reducible apply stabF.und); rfl)
| ((with_reducible apply stabF.op); (case hs => first | exact tHT | exact tHS); case hv => exact tSV)
| ((with_reducible first | apply retF.r | apply retF.nn); case hv => exact tRS)
| ((refine Call.use (hsi _ _) ?_))
| ((refine Call.use (hgo _ _) ?_))
| fail)
            all_goals simp only [set_set]
            all_goals exact ⟨U (by repeat' (first | exact Ext.refl _ | (refine Ext.set ?_ (by first | exact Nat.le_refl _ | (simp only [alloc_n, set_n]; omega) | (simp only [alloc_n, set_n, drop_n]; omega)) _) | (refine Ext.trans ?_ (Ext.alloc _ _)) | (refine Ext.drop ?_ (by first | exact Nat.le_refl _ | (simp only [alloc_n, set_n, drop_n]; omega))))), (hT.ext (by repeat' (first | exact Ext.refl _ | (refine Ext.set ?_ (by first | exact Nat.le_refl _ | (simp only [alloc_n, set_n]; omega) | (simp only [alloc_n, set_n, drop_n]; omega)) _) | (refine Ext.trans ?_ (Ext.alloc _ _)) | (refine Ext.drop ?_ (by first | exact Nat.le_refl _ | (simp only [alloc_n, set_n, drop_n]; omega)))))).set, (Fr.ext (by repeat' (first | exact Ext.refl _ | (refine Ext.set ?_ (by first | exact Nat.le_refl _ | (simp only [alloc_n, set_n]; omega) | (simp only [alloc_n, set_n, drop_n]; omega)) _) | (refine Ext.trans ?_ (Ext.alloc _ _)) | (refine Ext.drop ?_ (by first | exact Nat.le_refl _ | (simp only [alloc_n, set_n, drop_n]; omega)))))).set (.inl (by simp [SK.ids])) _, rfl, rfl⟩
          | false =>
            repeat' (first
| ((with_reducible first | apply opsF.op rfl | apply dopsF.op rfl); case hs => first | exact tHT | exact tHS)
| (with_reducible first | apply opsF.nil | apply seqF.nn | apply vcF.seq | apply vcF.region | apply vcF.dregion | apply vcF.skip | apply vcF.ret | apply seqF.r | apply dopsF.nil | apply stabsF.nil | apply stabsF.cons | apply dopsF.cont)
| ((with_reducible first | apply opsF.call | apply dopsF.call); case hx => exact tAG)
| ((with_reducible first | apply opsF.want | apply dopsF.want | apply stabF.want); (case hg => exact tEV); case hb => exact tNB)
| ((with_reducible first | apply opsF.skip | apply dopsF.skip | apply stabF.skip); (case hg => exact tEV); case hb => exact tNB)
| (first | ((with_reducible first | apply opsF.case | apply dopsF.case); case hg => exact tEV) | ((with_reducible apply vcF.cond); case hx => exact tEV)) <;> ((intro hc; try simp only [Int.reduceLT, Int.reduceLE, Int.reduceEq, Int.reduceNe, Int.cast_ofNat_Int, Int.reduceNeg, reduceCtorEq, ne_eq, ge_iff_le, gt_iff_lt, beq_iff_eq, beq_eq_false_iff_ne, bne_iff_ne, bne_eq_false_iff_eq, nrm, *] at hc) <;> try (exfalso; omega))
| ((with_reducible first | apply opsF.und | apply dopsF.und); case hg => rfl)
| ((with_reducible apply stabF.und); rfl)
| ((with_reducible apply stabF.op); (case hs => first | exact tHT | exact tHS); case hv => exact tSV)
| ((with_reducible first | apply retF.r | apply retF.nn); case hv => exact tRS)
| ((refine Call.use (hsi _ _) ?_))
| ((refine Call.use (hgo _ _) ?_))
| fail)
            all_goals simp only [set_set]
            all_goals exact ⟨U (by repeat' (first | exact Ext.refl _ | (refine Ext.set ?_ (by first | exact Nat.le_refl _ | (simp only [alloc_n, set_n]; omega) | (simp only [alloc_n, set_n, drop_n]; omega)) _) | (refine Ext.trans ?_ (Ext.alloc _ _)) | (refine Ext.drop ?_ (by first | exact Nat.le_refl _ | (simp only [alloc_n, set_n, drop_n]; omega))))), (hT.ext (by repeat' (first | exact Ext.refl _ | (refine Ext.set ?_ (by first | exact Nat.le_refl _ | (simp only [alloc_n, set_n]; omega) | (simp only [alloc_n, set_n, drop_n]; omega)) _) | (refine Ext.trans ?_ (Ext.alloc _ _)) | (refine Ext.drop ?_ (by first | exact Nat.le_refl _ | (simp only [alloc_n, set_n, drop_n]; omega)))))).set, (Fr.ext (by repeat' (first | exact Ext.refl _ | (refine Ext.set ?_ (by first | exact Nat.le_refl _ | (simp only [alloc_n, set_n]; omega) | (simp only [alloc_n, set_n, drop_n]; omega)) _) | (refine Ext.trans ?_ (Ext.alloc _ _)) | (refine Ext.drop ?_ (by first | exact Nat.le_refl _ | (simp only [alloc_n, set_n, drop_n]; omega)))))).set (.inl (by simp [SK.ids])) _, rfl, rfl⟩
  · rw [if_pos hk]
    have U := fun {h' : AH} (e : Ext h h') => H.upd (h2 := h') (s' := { s with bad := true }) (tq' := tq) (tr' := tr) (tt' := tt) (.ext e) rfl rfl
    unfold vcel at hob
    refine Call.bodyF b_serve_Server_content rfl rfl ?_
    unfold c_serve_Server_content
    repeat' (first
| ((with_reducible first | apply opsF.op rfl | apply dopsF.op rfl); case hs => first | exact tHT | exact tHS)
| (with_reducible first | apply opsF.nil | apply seqF.nn | apply vcF.seq | apply vcF.region | apply vcF.dregion | apply vcF.skip | apply vcF.ret | apply seqF.r | apply dopsF.nil | apply stabsF.nil | apply stabsF.cons | apply dopsF.cont)
| ((with_reducible first | apply opsF.call | apply dopsF.call); case hx => exact tAG)
| ((with_reducible first | apply opsF.want | apply dopsF.want | apply stabF.want); (case hg => exact tEV); case hb => exact tNB)
| ((with_reducible first | apply opsF.skip | apply dopsF.skip | apply stabF.skip); (case hg => exact tEV); case hb => exact tNB)
| (first | ((with_reducible first | apply opsF.case | apply dopsF.case); case hg => exact tEV) | ((with_reducible apply vcF.cond); case hx => exact tEV)) <;> ((intro hc; try simp only [Int.reduceLT, Int.reduceLE, Int.reduceEq, Int.reduceNe, Int.cast_ofNat_Int, Int.reduceNeg, reduceCtorEq, ne_eq, ge_iff_le, gt_iff_lt, beq_iff_eq, beq_eq_false_iff_ne, bne_iff_ne, bne_eq_false_iff_eq, nrm, *] at hc) <;> try (exfalso; omega))
| ((with_reducible first | apply opsF.und | apply dopsF.und); case hg => rfl)
| ((with_reducible apply stabF.und); rfl)
| ((with_reducible apply stabF.op); (case hs => first | exact tHT | exact tHS); case hv => exact tSV)
| ((with_reducible first | apply retF.r | apply retF.nn); case hv => exact tRS))
    all_goals exact ⟨⟨ap, tq, tr, tt, U (by repeat' (first | exact Ext.refl _ | (refine Ext.set ?_ (by first | exact Nat.le_refl _ | (simp only [alloc_n, set_n]; omega) | (simp only [alloc_n, set_n, drop_n]; omega)) _) | (refine Ext.trans ?_ (Ext.alloc _ _)) | (refine Ext.drop ?_ (by first | exact Nat.le_refl _ | (simp only [alloc_n, set_n, drop_n]; omega))))), (hT.ext (by repeat' (first | exact Ext.refl _ | (refine Ext.set ?_ (by first | exact Nat.le_refl _ | (simp only [alloc_n, set_n]; omega) | (simp only [alloc_n, set_n, drop_n]; omega)) _) | (refine Ext.trans ?_ (Ext.alloc _ _)) | (refine Ext.drop ?_ (by first | exact Nat.le_refl _ | (simp only [alloc_n, set_n, drop_n]; omega)))))).set⟩, (Fr.ext (by repeat' (first | exact Ext.refl _ | (refine Ext.set ?_ (by first | exact Nat.le_refl _ | (simp only [alloc_n, set_n]; omega) | (simp only [alloc_n, set_n, drop_n]; omega)) _) | (refine Ext.trans ?_ (Ext.alloc _ _)) | (refine Ext.drop ?_ (by first | exact Nat.le_refl _ | (simp only [alloc_n, set_n, drop_n]; omega)))))).set (.inl (by simp [SK.ids])) _⟩
end Go.Abs.F
/- Layer 6: a peer's session: a line is taken. -/
namespace Go.Abs.F
open Go Go.Abs
set_option maxRecDepth 10000
set_option maxHeartbeats 20000000
set_option linter.unusedSimpArgs false
set_option linter.unusedVariables false
variable {w0 : World}
/-- What a step of the session gives, the reader's token too. -/
structure SvQ (x : SK) (s' : SV) (R : List Tok) (h h' : AH) : Prop where
  o : ∃ ap tq tr tt tl, SvO h' x s' ap tq tr tt tl ∧ Toks h' (tq :: tr :: tt :: tl :: R)
  f : Fr x.ids h h'
/-- What stays in a session. -/
structure SV.Sz (s : SV) : Prop where
  out : s.out.length ≤ 999999999
  host : s.host.length ≤ 1000000
  size : 0 ≤ s.size ∧ s.size ≤ 1000000
  bs : 0 ≤ s.bsize ∧ s.bsize ≤ 1000000000000
  tx : s.text.length ≤ 1000000000
  w : s.wait.length ≤ 4000000000
def SV.most (s : SV) : Int := if s.body = true then 1000 else 512
def SV.take (s : SV) (a r : L8) : SV := if s.body = true then ({ s with wait := r } : SV).content (lineS s.most a).1 (lineS s.most a).2 else ({ s with wait := r } : SV).command (lineS s.most a).1 (lineS s.most a).2
def SV.step (s : SV) : SV := match cutL s.wait with
  | none => s
  | some (a, r) => s.take a r
theorem lineS_len (most : Int) (a : L8) (h : most ≤ 1000) : (lineS most a).2.length ≤ 1000 := by
  unfold lineS
  split
  · simp
  · split
    · simp
    · show a.length ≤ _; omega
theorem Toks.rt {h : AH} {a b c d : Tok} {R : List Tok} (k : Toks h (a :: b :: c :: d :: R)) : Toks h (d :: a :: b :: c :: R) :=
  k.perm ((List.Perm.cons a ((List.Perm.cons b (List.Perm.swap d c R)).trans (List.Perm.swap d b (c :: R)))).trans (List.Perm.swap d a (b :: c :: R)))
theorem Toks.rl {h : AH} {a b c d : Tok} {R : List Tok} (k : Toks h (d :: a :: b :: c :: R)) : Toks h (a :: b :: c :: d :: R) :=
  k.perm ((List.Perm.swap a d (b :: c :: R)).trans (List.Perm.cons a ((List.Perm.swap b d (c :: R)).trans (List.Perm.cons b (List.Perm.swap c d R)))))
theorem SvO.newl {h h' : AH} {x : SK} {s : SV} {ap : AV} {tq tr tt tl tl' : Tok} {r : L8} (H : SvO h x s ap tq tr tt tl) (hF : Fr [x.lid] h h') (ho : h'.objs x.lid = some (.cells [.list 1 (brows r) tl'])) : SvO h' x { s with wait := r } ap tq tr tt tl' :=
  ⟨(hF.o _ H.lt.1 (by simp [H.ne])).trans H.o, H.a.fr hF (fun i hi _ hj => hi (by simp at hj; simp [SK.ids, hj])), ho, ⟨Nat.lt_of_lt_of_le H.lt.1 hF.n, Nat.lt_of_lt_of_le H.lt.2 hF.n⟩, H.ne⟩
theorem sstep_call (hP : PowTab w0) (hE : ErrVars w0) (hM : MaxLen w0) (x : SK) (s : SV) (ap : AV) (tq tr tt tl : Tok) (R : List Tok) (h : AH) (H : SvO h x s ap tq tr tt tl) (hT : Toks h (tq :: tr :: tt :: tl :: R)) (hz : s.Sz) :
    Call P w0 serve_Server_step [.ptr x.id 0] h (fun v h' => v = .v (.bool (cutL s.wait).isSome) ∧ SvQ x s.step R h h') := by
  have hob := H.o
  have hlt := H.lt.1
  have hlt2 := H.lt.2
  have hnx := fun most => lnext_call hM x.lid s.wait tl (tq :: tr :: tt :: R) most h H.l H.lt.2 (Toks.rt hT) hz.w
  unfold SV.step
  cases hc : cutL s.wait with
  | none =>
    rw [hc] at hnx
    dsimp only at hnx ⊢
    unfold vcel at hob
    cases hb : s.body with
    | false =>
      rw [hb] at hob
      have hn1 := hnx 512
      clear hnx
      refine Call.bodyF b_serve_Server_step rfl rfl ?_
      unfold c_serve_Server_step
      repeat' (first
| ((with_reducible apply opsF.op rfl); case hs => first | exact tHT | exact tHS)
| (with_reducible first | apply opsF.nil | apply seqF.nn | apply vcF.seq | apply vcF.region | apply vcF.skip | apply vcF.block | apply vcF.exit | apply vcF.ret | apply vcF.loop | apply seqF.e | apply seqF.r | apply blkF.nn | apply blkF.e | apply blkF.r | apply blkF.o rfl)
| ((with_reducible apply opsF.call); case hx => exact tAG)
| ((with_reducible apply vcF.cond); case hx => exact tEV) <;> ((intro hc; try simp only [Int.reduceLT, Int.reduceLE, Int.reduceEq, Int.reduceNe, Int.cast_ofNat_Int, Int.reduceNeg, reduceCtorEq, ne_eq, ge_iff_le, gt_iff_lt, beq_iff_eq, beq_eq_false_iff_ne, bne_iff_ne, bne_eq_false_iff_eq, nrm, *] at hc) <;> try (exfalso; omega))
| ((with_reducible first | apply retF.r | apply retF.nn); case hv => exact tRS)
| ((refine hn1.mono fun v h2 hp => ?_); obtain ⟨rfl, hE2⟩ := hp)
| fail)
      all_goals exact ⟨rfl, ⟨ap, tq, tr, tt, tl, (H.ext hE2).ext (by repeat' (first | exact Ext.refl _ | (refine Ext.set ?_ (by first | exact Nat.le_refl _ | (simp only [alloc_n, set_n]; omega) | (simp only [alloc_n, set_n, drop_n]; omega)) _) | (refine Ext.trans ?_ (Ext.alloc _ _)) | (refine Ext.drop ?_ (by first | exact Nat.le_refl _ | (simp only [alloc_n, set_n, drop_n]; omega))))), (hT.ext hE2).ext (by repeat' (first | exact Ext.refl _ | (refine Ext.set ?_ (by first | exact Nat.le_refl _ | (simp only [alloc_n, set_n]; omega) | (simp only [alloc_n, set_n, drop_n]; omega)) _) | (refine Ext.trans ?_ (Ext.alloc _ _)) | (refine Ext.drop ?_ (by first | exact Nat.le_refl _ | (simp only [alloc_n, set_n, drop_n]; omega)))))⟩, (Fr.ext hE2).trans (Fr.ext (by repeat' (first | exact Ext.refl _ | (refine Ext.set ?_ (by first | exact Nat.le_refl _ | (simp only [alloc_n, set_n]; omega) | (simp only [alloc_n, set_n, drop_n]; omega)) _) | (refine Ext.trans ?_ (Ext.alloc _ _)) | (refine Ext.drop ?_ (by first | exact Nat.le_refl _ | (simp only [alloc_n, set_n, drop_n]; omega))))))⟩
    | true =>
      rw [hb] at hob
      have hn1 := hnx 1000
      clear hnx
      refine Call.bodyF b_serve_Server_step rfl rfl ?_
      unfold c_serve_Server_step
      repeat' (first
| ((with_reducible apply opsF.op rfl); case hs => first | exact tHT | exact tHS)
| (with_reducible first | apply opsF.nil | apply seqF.nn | apply vcF.seq | apply vcF.region | apply vcF.skip | apply vcF.block | apply vcF.exit | apply vcF.ret | apply vcF.loop | apply seqF.e | apply seqF.r | apply blkF.nn | apply blkF.e | apply blkF.r | apply blkF.o rfl)
| ((with_reducible apply opsF.call); case hx => exact tAG)
| ((with_reducible apply vcF.cond); case hx => exact tEV) <;> ((intro hc; try simp only [Int.reduceLT, Int.reduceLE, Int.reduceEq, Int.reduceNe, Int.cast_ofNat_Int, Int.reduceNeg, reduceCtorEq, ne_eq, ge_iff_le, gt_iff_lt, beq_iff_eq, beq_eq_false_iff_ne, bne_iff_ne, bne_eq_false_iff_eq, nrm, *] at hc) <;> try (exfalso; omega))
| ((with_reducible first | apply retF.r | apply retF.nn); case hv => exact tRS)
| ((refine hn1.mono fun v h2 hp => ?_); obtain ⟨rfl, hE2⟩ := hp)
| fail)
      all_goals exact ⟨rfl, ⟨ap, tq, tr, tt, tl, (H.ext hE2).ext (by repeat' (first | exact Ext.refl _ | (refine Ext.set ?_ (by first | exact Nat.le_refl _ | (simp only [alloc_n, set_n]; omega) | (simp only [alloc_n, set_n, drop_n]; omega)) _) | (refine Ext.trans ?_ (Ext.alloc _ _)) | (refine Ext.drop ?_ (by first | exact Nat.le_refl _ | (simp only [alloc_n, set_n, drop_n]; omega))))), (hT.ext hE2).ext (by repeat' (first | exact Ext.refl _ | (refine Ext.set ?_ (by first | exact Nat.le_refl _ | (simp only [alloc_n, set_n]; omega) | (simp only [alloc_n, set_n, drop_n]; omega)) _) | (refine Ext.trans ?_ (Ext.alloc _ _)) | (refine Ext.drop ?_ (by first | exact Nat.le_refl _ | (simp only [alloc_n, set_n, drop_n]; omega)))))⟩, (Fr.ext hE2).trans (Fr.ext (by repeat' (first | exact Ext.refl _ | (refine Ext.set ?_ (by first | exact Nat.le_refl _ | (simp only [alloc_n, set_n]; omega) | (simp only [alloc_n, set_n, drop_n]; omega)) _) | (refine Ext.trans ?_ (Ext.alloc _ _)) | (refine Ext.drop ?_ (by first | exact Nat.le_refl _ | (simp only [alloc_n, set_n, drop_n]; omega))))))⟩
  | some q =>
    obtain ⟨a, r⟩ := q
    rw [hc] at hnx
    dsimp only at hnx ⊢
    have hcl := cutL_len hc
    clear hc
    unfold SV.take SV.most
    cases hb : s.body with
    | false =>
      rw [if_neg (by simp), if_neg (by simp)]
      have hn1 := hnx 512
      have hll := lineS_len 512 a (by omega)
      generalize lineS 512 a = ln at *
      obtain ⟨k, t⟩ := ln
      dsimp only at hn1 hll ⊢
      have hcm := fun tl2 {h' : AH} O T => scommand_call (w0 := w0) hP hE x ({ s with wait := r }) ap tq tr tt tl2 (tl2 :: R) k t h' O T hz.out (by omega) hz.host hz.size
      clear hnx hob
      refine Call.bodyF b_serve_Server_step rfl rfl ?_
      unfold c_serve_Server_step
      have hob := H.o
      unfold vcel at hob
      rw [hb] at hob
      repeat' (first
| ((with_reducible apply opsF.op rfl); case hs => first | exact tHT | exact tHS)
| (with_reducible first | apply opsF.nil | apply seqF.nn | apply vcF.seq | apply vcF.region | apply vcF.skip | apply vcF.block | apply vcF.exit | apply vcF.ret | apply vcF.loop | apply seqF.e | apply seqF.r | apply blkF.nn | apply blkF.e | apply blkF.r | apply blkF.o rfl)
| ((with_reducible apply opsF.call); case hx => exact tAG)
| ((with_reducible apply vcF.cond); case hx => exact tEV) <;> ((intro hc; try simp only [Int.reduceLT, Int.reduceLE, Int.reduceEq, Int.reduceNe, Int.cast_ofNat_Int, Int.reduceNeg, reduceCtorEq, ne_eq, ge_iff_le, gt_iff_lt, beq_iff_eq, beq_eq_false_iff_ne, bne_iff_ne, bne_eq_false_iff_eq, nrm, *] at hc) <;> try (exfalso; omega))
| ((with_reducible first | apply retF.r | apply retF.nn); case hv => exact tRS)
| ((refine hn1.mono fun v h2 hp => ?_); obtain ⟨rfl, tl2, ho2, T2, F2⟩ := hp; have O2 := H.newl F2 ho2; have gob := O2.o; unfold vcel at gob; dsimp only at gob; rw [hb] at gob; have hN2 := F2.n)
| ((refine (hcm tl2 (O2.ext (by repeat' (first | exact Ext.refl _ | (refine Ext.set ?_ (by first | exact Nat.le_refl _ | (simp only [alloc_n, set_n]; omega) | (simp only [alloc_n, set_n, drop_n]; omega)) _) | (refine Ext.trans ?_ (Ext.alloc _ _)) | (refine Ext.drop ?_ (by first | exact Nat.le_refl _ | (simp only [alloc_n, set_n, drop_n]; omega)))))) ((Toks.rl T2).ext (by repeat' (first | exact Ext.refl _ | (refine Ext.set ?_ (by first | exact Nat.le_refl _ | (simp only [alloc_n, set_n]; omega) | (simp only [alloc_n, set_n, drop_n]; omega)) _) | (refine Ext.trans ?_ (Ext.alloc _ _)) | (refine Ext.drop ?_ (by first | exact Nat.le_refl _ | (simp only [alloc_n, set_n, drop_n]; omega))))))).mono fun v h3 hp => ?_))
| fail)
      all_goals (obtain ⟨⟨ap3, tq3, tr3, tt3, O3, T3⟩, F3⟩ := hp; rw [hb] at O3; exact ⟨rfl, ⟨ap3, tq3, tr3, tt3, tl2, O3, T3⟩, ((F2.mono (fun i hi => by simp at hi; simp [SK.ids, hi])).trans (Fr.ext (by repeat' (first | exact Ext.refl _ | (refine Ext.set ?_ (by first | exact Nat.le_refl _ | (simp only [alloc_n, set_n]; omega) | (simp only [alloc_n, set_n, drop_n]; omega)) _) | (refine Ext.trans ?_ (Ext.alloc _ _)) | (refine Ext.drop ?_ (by first | exact Nat.le_refl _ | (simp only [alloc_n, set_n, drop_n]; omega))))))).trans F3⟩)
    | true =>
      rw [if_pos rfl, if_pos rfl]
      have hn1 := hnx 1000
      have hll := lineS_len 1000 a (by omega)
      generalize lineS 1000 a = ln at *
      obtain ⟨k, t⟩ := ln
      dsimp only at hn1 hll ⊢
      have hcm := fun tl2 {h' : AH} O T => scontent_call (w0 := w0) hP x ({ s with wait := r }) ap tq tr tt tl2 (tl2 :: R) k t h' O T hz.out hll hz.bs hz.tx
      clear hnx hob
      refine Call.bodyF b_serve_Server_step rfl rfl ?_
      unfold c_serve_Server_step
      have hob := H.o
      unfold vcel at hob
      rw [hb] at hob
      repeat' (first
| ((with_reducible apply opsF.op rfl); case hs => first | exact tHT | exact tHS)
| (with_reducible first | apply opsF.nil | apply seqF.nn | apply vcF.seq | apply vcF.region | apply vcF.skip | apply vcF.block | apply vcF.exit | apply vcF.ret | apply vcF.loop | apply seqF.e | apply seqF.r | apply blkF.nn | apply blkF.e | apply blkF.r | apply blkF.o rfl)
| ((with_reducible apply opsF.call); case hx => exact tAG)
| ((with_reducible apply vcF.cond); case hx => exact tEV) <;> ((intro hc; try simp only [Int.reduceLT, Int.reduceLE, Int.reduceEq, Int.reduceNe, Int.cast_ofNat_Int, Int.reduceNeg, reduceCtorEq, ne_eq, ge_iff_le, gt_iff_lt, beq_iff_eq, beq_eq_false_iff_ne, bne_iff_ne, bne_eq_false_iff_eq, nrm, *] at hc) <;> try (exfalso; omega))
| ((with_reducible first | apply retF.r | apply retF.nn); case hv => exact tRS)
| ((refine hn1.mono fun v h2 hp => ?_); obtain ⟨rfl, tl2, ho2, T2, F2⟩ := hp; have O2 := H.newl F2 ho2; have gob := O2.o; unfold vcel at gob; dsimp only at gob; rw [hb] at gob; have hN2 := F2.n)
| ((refine (hcm tl2 (O2.ext (by repeat' (first | exact Ext.refl _ | (refine Ext.set ?_ (by first | exact Nat.le_refl _ | (simp only [alloc_n, set_n]; omega) | (simp only [alloc_n, set_n, drop_n]; omega)) _) | (refine Ext.trans ?_ (Ext.alloc _ _)) | (refine Ext.drop ?_ (by first | exact Nat.le_refl _ | (simp only [alloc_n, set_n, drop_n]; omega)))))) ((Toks.rl T2).ext (by repeat' (first | exact Ext.refl _ | (refine Ext.set ?_ (by first | exact Nat.le_refl _ | (simp only [alloc_n, set_n]; omega) | (simp only [alloc_n, set_n, drop_n]; omega)) _) | (refine Ext.trans ?_ (Ext.alloc _ _)) | (refine Ext.drop ?_ (by first | exact Nat.le_refl _ | (simp only [alloc_n, set_n, drop_n]; omega))))))).mono fun v h3 hp => ?_))
| fail)
      all_goals (obtain ⟨⟨ap3, tq3, tr3, tt3, O3, T3⟩, F3⟩ := hp; rw [hb] at O3; exact ⟨rfl, ⟨ap3, tq3, tr3, tt3, tl2, O3, T3⟩, ((F2.mono (fun i hi => by simp at hi; simp [SK.ids, hi])).trans (Fr.ext (by repeat' (first | exact Ext.refl _ | (refine Ext.set ?_ (by first | exact Nat.le_refl _ | (simp only [alloc_n, set_n]; omega) | (simp only [alloc_n, set_n, drop_n]; omega)) _) | (refine Ext.trans ?_ (Ext.alloc _ _)) | (refine Ext.drop ?_ (by first | exact Nat.le_refl _ | (simp only [alloc_n, set_n, drop_n]; omega))))))).trans F3⟩)
end Go.Abs.F
/- Layer 6: a peer's session: bytes come; is it over; a session that is none. -/
namespace Go.Abs.F
open Go Go.Abs
set_option maxRecDepth 10000
set_option maxHeartbeats 20000000
set_option linter.unusedSimpArgs false
set_option linter.unusedVariables false
variable {w0 : World}
def SV.feed (s : SV) (b : L8) : SV := if s.over = true then s else { s with wait := s.wait ++ b }
theorem sfeed_call (x : SK) (s : SV) (ap : AV) (tq tr tt tl tb : Tok) (R : List Tok) (b : L8) (h : AH) (H : SvO h x s ap tq tr tt tl) (hT : Toks h (tq :: tr :: tt :: tl :: R)) (hl : s.wait.length + b.length ≤ 100000000000) :
    Call P w0 serve_Server_Feed [.ptr x.id 0, .list 1 (brows b) tb] h (fun v h' => SvQ x (s.feed b) R h h') := by
  have hob := H.o
  have hfe := lfeed_call (w0 := w0) x.lid s.wait b tl tb (tq :: tr :: tt :: R) h H.l H.lt.2 (Toks.rt hT) hl
  unfold vcel at hob
  unfold SV.feed
  cases ho : s.over with
  | true =>
    rw [if_pos rfl]
    rw [ho] at hob
    refine Call.bodyF b_serve_Server_Feed rfl rfl ?_
    unfold c_serve_Server_Feed
    repeat' (first
| ((with_reducible apply opsF.op rfl); case hs => first | exact tHT | exact tHS)
| (with_reducible first | apply opsF.nil | apply seqF.nn | apply vcF.seq | apply vcF.region | apply vcF.skip | apply vcF.ret | apply seqF.r)
| ((with_reducible apply opsF.call); case hx => exact tAG)
| ((with_reducible apply opsF.want); (case hg => exact tEV); case hb => exact tNB)
| ((with_reducible apply opsF.skip); (case hg => exact tEV); case hb => exact tNB)
| (first | ((with_reducible apply opsF.case); case hg => exact tEV) | ((with_reducible apply vcF.cond); case hx => exact tEV)) <;> ((intro hc; try simp only [Int.reduceLT, Int.reduceLE, Int.reduceEq, Int.reduceNe, Int.cast_ofNat_Int, Int.reduceNeg, reduceCtorEq, ne_eq, ge_iff_le, gt_iff_lt, beq_iff_eq, beq_eq_false_iff_ne, bne_iff_ne, bne_eq_false_iff_eq, nrm, *] at hc) <;> try (exfalso; omega))
| ((with_reducible apply opsF.und); case hg => rfl)
| ((with_reducible first | apply retF.r | apply retF.nn); case hv => exact tRS))
    all_goals exact ⟨⟨ap, tq, tr, tt, tl, H, hT⟩, .refl _ _⟩
  | false =>
    rw [if_neg (by simp)]
    rw [ho] at hob
    refine Call.bodyF b_serve_Server_Feed rfl rfl ?_
    unfold c_serve_Server_Feed
    repeat' (first
| ((with_reducible apply opsF.op rfl); case hs => first | exact tHT | exact tHS)
| (with_reducible first | apply opsF.nil | apply seqF.nn | apply vcF.seq | apply vcF.region | apply vcF.skip | apply vcF.ret | apply seqF.r)
| ((with_reducible apply opsF.call); case hx => exact tAG)
| ((with_reducible apply opsF.want); (case hg => exact tEV); case hb => exact tNB)
| ((with_reducible apply opsF.skip); (case hg => exact tEV); case hb => exact tNB)
| (first | ((with_reducible apply opsF.case); case hg => exact tEV) | ((with_reducible apply vcF.cond); case hx => exact tEV)) <;> ((intro hc; try simp only [Int.reduceLT, Int.reduceLE, Int.reduceEq, Int.reduceNe, Int.cast_ofNat_Int, Int.reduceNeg, reduceCtorEq, ne_eq, ge_iff_le, gt_iff_lt, beq_iff_eq, beq_eq_false_iff_ne, bne_iff_ne, bne_eq_false_iff_eq, nrm, *] at hc) <;> try (exfalso; omega))
| ((with_reducible apply opsF.und); case hg => rfl)
| ((with_reducible first | apply retF.r | apply retF.nn); case hv => exact tRS)
| ((refine hfe.mono fun v h2 hp => ?_); obtain ⟨tl2, ho2, T2, F2⟩ := hp)
| fail)
    all_goals (have O2 := H.newl F2 ho2; rw [ho] at O2; exact ⟨⟨ap, tq, tr, tt, tl2, O2, Toks.rl T2⟩, F2.mono (fun i hi => by simp at hi; simp [SK.ids, hi])⟩)
/-- No event. -/
def ev0 : List AV := [.v (.int .i64 0), .v (.string (bs [])), .v (.int .i64 0), .v (.string (bs [])), .list 1 [] .full, .list 1 [] .full]
end Go.Abs.F
/- Layer 6: a peer's session: an answer. -/
namespace Go.Abs.F
open Go Go.Abs
set_option maxRecDepth 10000
set_option maxHeartbeats 20000000
set_option linter.unusedSimpArgs false
set_option linter.unusedVariables false
variable {w0 : World}
/-- What an answer does. -/
def SV.got (s : SV) (e : Ev) (c : Int) : SV :=
  let s1 : SV := { s with asked := none }
  let s2 : SV := if e.kind = 4 then s1.reset else if c ≤ 299 then (if e.kind = 2 then { s1 with sender := true, sndr := e.text } else { s1 with rcpts := s.rcpts ++ [e.text] }) else s1
  s2.say (if c ≤ 299 then 250 else c)
theorem sclip_call (l : List L8) (tok : Tok) (h : AH) (hl : l.length ≤ 1000000000000) : Call P w0 slices_Clip_string_string [.list 1 (srows l) tok] h (fun v h' => v = .list 1 (srows l) .no ∧ h' = h) := by
  refine Call.weak (Q := fun v h' => ∃ tk, v = .list 1 (srows l) tk ∧ h' = h) ?_ fun v h' ⟨tk, hv, hE⟩ => ⟨_, _, hv ▸ .noTok, .refl _, rfl, hE⟩
  have hnl := srows_len l
  refine Call.bodyF b_slices_Clip_string_string rfl rfl ?_
  unfold c_slices_Clip_string_string
  generalize srows l = L at *
  repeat' (first
| ((with_reducible apply opsF.op rfl); case hs => first | exact tHT | exact tHS)
| (with_reducible first | apply opsF.nil | apply seqF.nn | apply vcF.seq | apply vcF.region | apply vcF.skip | apply vcF.ret | apply seqF.r)
| ((with_reducible apply opsF.call); case hx => exact tAG)
| ((with_reducible apply vcF.cond); case hx => exact tEV) <;> ((intro hc; try simp only [Int.reduceLT, Int.reduceLE, Int.reduceEq, Int.reduceNe, Int.cast_ofNat_Int, Int.reduceNeg, reduceCtorEq, ne_eq, ge_iff_le, gt_iff_lt, beq_iff_eq, beq_eq_false_iff_ne, bne_iff_ne, bne_eq_false_iff_eq, nrm, *] at hc) <;> try (exfalso; omega))
| ((with_reducible first | apply retF.r | apply retF.nn); case hv => exact tRS))
  all_goals exact ⟨_, by rw [Nat.sub_zero, ← hnl, List.take_length], rfl⟩
theorem srows_plain (l : List L8) {tok : Tok} (ht : tok.plain) : Plain (.list 1 (srows l) tok) := by
  refine Plain.listv ht fun r hr x hx => ?_
  simp only [srows, List.mem_map] at hr
  obtain ⟨b, _, rfl⟩ := hr
  rw [List.mem_singleton.1 hx]; exact .v _
theorem sclone_call (l : List L8) (tok : Tok) (h : AH) (hl : l.length ≤ 100000000000) : Call P w0 slices_Clone_string_string [.list 1 (srows l) tok] h (fun v h' => v = .list 1 (srows l) .no ∧ h' = h) := by
  refine Call.gc (Q := fun v h' => v = .list 1 (srows l) .no ∧ Ext h h') (Call.weak (Q := fun v h' => ∃ tk, v = .list 1 (srows l) tk ∧ Ext h h') ?_ fun v h' ⟨tk, hv, hE⟩ => ⟨_, _, hv ▸ .noTok, .refl _, rfl, hE⟩) fun v h' hq => ⟨by rw [hq.1]; exact srows_plain l trivial, hq.2, hq.1⟩
  cases l with
  | nil =>
    refine ⟨⟨_, Go.Proofs.Tryz.func34, by kernel_rfl, by kernel_rfl⟩, fun Γ w us H hv => ?_⟩
    obtain ⟨y1, rfl⟩ : ∃ y1, us = [y1] := by
      have hl := hv.len
      match us, hl with
      | [y1], _ => exact ⟨y1, rfl⟩
    have r1 := hv.at_ 0 (by simp) (by simp)
    simp only [List.getElem_cons_zero] at r1
    obtain ⟨base, c, rfl⟩ : ∃ base c, y1 = .slice base 0 c := by
      cases r1 with
      | _ => exact ⟨_, _, rfl⟩
    refine (Go.Proofs.YtlmgpkopcgcbgaaGreatDoorSlz.sclone_zero base c w).mono fun e w' hh => ?_
    obtain ⟨⟨b', rfl⟩, hb⟩ := hh
    exact ⟨_, Γ, _, h, rfl, .refl Γ, .nilf, H.grown hb, .full, rfl, .refl h⟩
  | cons x l =>
    obtain ⟨tk1, h2, hap, hT2, hT3, hT4, hT5, hT6⟩ := (show TokU h .full from trivial).app
    have xl := srows_len l
    have e : srows (x :: l) = [.v (.string (bs x))] :: srows l := rfl
    rw [e]
    simp at hl
    refine Call.bodyF b_slices_Clone_string_string rfl rfl ?_
    unfold c_slices_Clone_string_string
    repeat' (first
| ((with_reducible apply opsF.op rfl); case hs => first | exact tHT | exact tHS)
| (with_reducible first | apply opsF.nil | apply seqF.nn | apply vcF.seq | apply vcF.region | apply vcF.skip | apply vcF.ret | apply seqF.r)
| ((with_reducible apply opsF.call); case hx => exact tAG)
| ((with_reducible apply vcF.cond); case hx => exact tEV) <;> ((intro hc; try simp only [Int.reduceLT, Int.reduceLE, Int.reduceEq, Int.reduceNe, Int.cast_ofNat_Int, Int.reduceNeg, reduceCtorEq, ne_eq, ge_iff_le, gt_iff_lt, beq_iff_eq, beq_eq_false_iff_ne, bne_iff_ne, bne_eq_false_iff_eq, nrm, *] at hc) <;> try (exfalso; omega))
| ((with_reducible first | apply retF.r | apply retF.nn); case hv => exact tRS)
| ((with_reducible apply opsF.op rfl); (case hs => exact is_app (r := [.v (.string (bs x))]) (new := srows l) tEV tEV rfl hap (by simp only [List.length_nil, List.length_cons]; omega) rfl)))
    all_goals exact ⟨_, rfl, Ext.transX (.refl h) hT6 (fun _ x => x.elim) (fun t ht => by cases ht)⟩
end Go.Abs.F
