/- What the proof needs, part 22: Layer 6: a peer's session: all that it says, and the mails, when all that it asks is answered with 250: the plain side; Layer 6: a peer's session: a new one; Layer 6: a peer's session: what it says or asks next; Layer 6: a peer's session, all that it asks answered with 250: what it says, and the mails; Layer 6: a peer's session: commands, bodies, as it is told them: the plain side; Layer 6: commands in any order: the plain side. -/
import Derived.Test.YtlmgpkopcgcbgaaGreatDoorQServeNone21
import Derived.Test.YtlmgpkopcgcbgaaGreatDoorQServeNone20
/- Layer 6: a peer's session: all that it says, and the mails, when all that it asks is answered with 250: the plain side. -/
namespace Go.Abs.F
open Go Go.Abs
set_option maxRecDepth 10000
set_option linter.unusedSimpArgs false
set_option linter.unusedVariables false
def SV.aN (s : SV) : Nat := if s.asked.isSome = true then 1 else 0
theorem aN_none {s : SV} (h : s.asked = none) : s.aN = 0 := by unfold SV.aN; rw [h]; rfl
/-- What holds of a session to which no more than so many bytes have come. -/
structure SV.In (s : SV) (N : Nat) : Prop where
  out : s.out.length + s.wait.length + s.aN ≤ N
  host : s.host.length ≤ 1000000
  size : 0 ≤ s.size ∧ s.size ≤ 1000000
  bs : 0 ≤ s.bsize ∧ s.bsize + (s.wait.length : Int) ≤ (N : Int)
  tx : s.text.length + s.wait.length ≤ N
  rc : s.rcpts.length + s.wait.length + s.aN ≤ N
  ev : ∀ e ∈ s.out, e.rc.length ≤ N ∧ e.bd.length ≤ N
  ak : ∀ e, s.asked = some e → e.kind ≠ 0
/-- What a line may change. -/
structure Ef (s s' : SV) (d : Nat) : Prop where
  wait : s'.wait = s.wait
  host : s'.host = s.host
  size : s'.size = s.size
  out : s'.out.length + s'.aN ≤ s.out.length + 2
  bs : 0 ≤ s'.bsize ∧ s'.bsize ≤ s.bsize + (d : Int)
  tx : s'.text.length ≤ s.text.length + d
  rc : s'.rcpts.length ≤ s.rcpts.length
  ev : ∀ e ∈ s'.out, e ∈ s.out ∨ (e.rc.length ≤ s.rcpts.length ∧ e.bd.length ≤ s.text.length)
  ak : ∀ e, s'.asked = some e → e.kind ≠ 0
theorem ef_same {s : SV} (s' : SV) (ha : s.asked = none) (hb : 0 ≤ s.bsize) (e1 : s'.wait = s.wait) (e2 : s'.host = s.host) (e3 : s'.size = s.size) (e4 : s'.bsize = s.bsize ∨ s'.bsize = 0) (e5 : s'.text = s.text ∨ s'.text = []) (e6 : s'.rcpts = s.rcpts ∨ s'.rcpts = [])
    (q : (∃ e, s'.out = s.out ++ [e] ∧ e.rc.length ≤ s.rcpts.length ∧ e.bd.length ≤ s.text.length) ∨ (∃ e f, s'.out = s.out ++ [e] ++ [f] ∧ e.rc = [] ∧ e.bd = [] ∧ f.rc = [] ∧ f.bd = [] ∧ s'.asked = none) ∨ s'.out = s.out) (d : Nat) (qa : s'.asked = none ∨ ∃ e, s'.asked = some e ∧ e.kind ≠ 0) : Ef s s' d := by
  refine ⟨e1, e2, e3, ?_, ?_, ?_, ?_, ?_, fun e he => by
    rcases qa with qa | ⟨f, qa, q2⟩
    · rw [qa] at he; cases he
    · rw [qa] at he; injection he with he; subst he; exact q2⟩
  · have h1 : s'.aN ≤ 1 := by unfold SV.aN; split <;> omega
    rcases q with ⟨e, q, _⟩ | ⟨e, f, q, _, _, _, _, q2⟩ | q
    · rw [q, List.length_append, List.length_singleton]; omega
    · rw [q, List.length_append, List.length_append, List.length_singleton, List.length_singleton, aN_none q2]; omega
    · rw [q]; omega
  · rcases e4 with e4 | e4 <;> rw [e4] <;> omega
  · rcases e5 with e5 | e5 <;> rw [e5]
    · omega
    · simp
  · rcases e6 with e6 | e6 <;> rw [e6]
    · omega
    · simp
  · intro x hx
    rcases q with ⟨e, q, q1, q2⟩ | ⟨e, f, q, r1, r2, r3, r4, _⟩ | q
    · rw [q, List.mem_append, List.mem_singleton] at hx
      rcases hx with hx | rfl
      · exact .inl hx
      · exact .inr ⟨q1, q2⟩
    · rw [q, List.mem_append, List.mem_append, List.mem_singleton, List.mem_singleton] at hx
      rcases hx with (hx | rfl) | rfl
      · exact .inl hx
      · exact .inr (by rw [r1, r2]; simp)
      · exact .inr (by rw [r3, r4]; simp)
    · rw [q] at hx; exact .inl hx
theorem say_ef {s : SV} (s' : SV) (ha : s.asked = none) (hb : 0 ≤ s.bsize) (c : Int) (e0 : s'.out = s.out) (e1 : s'.wait = s.wait) (e2 : s'.host = s.host) (e3 : s'.size = s.size) (e4 : s'.bsize = s.bsize ∨ s'.bsize = 0) (e5 : s'.text = s.text ∨ s'.text = []) (e6 : s'.rcpts = s.rcpts ∨ s'.rcpts = []) (d : Nat) (ea : s'.asked = s.asked) : Ef s (s'.say c) d :=
  ef_same (s'.say c) ha hb e1 e2 e3 e4 e5 e6 (.inl ⟨evSay (plainS c), by show s'.out ++ _ = _; rw [e0], by simp [evSay], by simp [evSay]⟩) d (.inl (ea.trans ha))
theorem put_ef {s : SV} (s' : SV) (e : Ev) (ha : s.asked = none) (hb : 0 ≤ s.bsize) (e0 : s'.out = s.out ++ [e]) (e1 : s'.wait = s.wait) (e2 : s'.host = s.host) (e3 : s'.size = s.size) (e4 : s'.bsize = s.bsize ∨ s'.bsize = 0) (e5 : s'.text = s.text ∨ s'.text = []) (e6 : s'.rcpts = s.rcpts ∨ s'.rcpts = []) (h1 : e.rc.length ≤ s.rcpts.length) (h2 : e.bd.length ≤ s.text.length) (d : Nat) (qa : s'.asked = none ∨ ∃ e, s'.asked = some e ∧ e.kind ≠ 0) : Ef s s' d :=
  ef_same s' ha hb e1 e2 e3 e4 e5 e6 (.inl ⟨e, e0, h1, h2⟩) d qa
theorem command_ef (s : SV) (k : Int) (t : L8) (ha : s.asked = none) (hb : 0 ≤ s.bsize) : Ef s (s.command k t) 0 := by
  unfold SV.command
  split
  · exact say_ef s ha hb _ rfl rfl rfl rfl (.inl rfl) (.inl rfl) (.inl rfl) 0 rfl
  split
  · exact say_ef s ha hb _ rfl rfl rfl rfl (.inl rfl) (.inl rfl) (.inl rfl) 0 rfl
  unfold SV.doVerb
  split
  · exact say_ef s.greet ha hb _ rfl rfl rfl rfl (.inr rfl) (.inr rfl) (.inr rfl) 0 rfl
  split
  · exact put_ef s.greet.hello (evSay (fmtB 250 (helloL s.greet))) ha hb rfl rfl rfl rfl (.inr rfl) (.inr rfl) (.inr rfl) (by simp [evSay]) (by simp [evSay]) 0 (.inl ha)
  split
  · exact say_ef s.reset ha hb _ rfl rfl rfl rfl (.inr rfl) (.inr rfl) (.inr rfl) 0 rfl
  split
  · exact say_ef s ha hb _ rfl rfl rfl rfl (.inl rfl) (.inl rfl) (.inl rfl) 0 rfl
  split
  · exact say_ef s ha hb _ rfl rfl rfl rfl (.inl rfl) (.inl rfl) (.inl rfl) 0 rfl
  split
  · exact ef_same (s.say 221).shut ha hb rfl rfl rfl (.inl rfl) (.inl rfl) (.inl rfl) (.inr (.inl ⟨evSay (plainS 221), evShut, rfl, rfl, rfl, rfl, rfl, ha⟩)) 0 (.inl ha)
  split
  · unfold SV.mail
    split
    · exact say_ef s ha hb _ rfl rfl rfl rfl (.inl rfl) (.inl rfl) (.inl rfl) 0 rfl
    split
    · exact say_ef s ha hb _ rfl rfl rfl rfl (.inl rfl) (.inl rfl) (.inl rfl) 0 rfl
    · exact put_ef (s.ask ⟨2, (verbS t).2.2.1, (verbS t).2.2.2.1, [], [], []⟩) ⟨2, (verbS t).2.2.1, (verbS t).2.2.2.1, [], [], []⟩ ha hb rfl rfl rfl rfl (.inl rfl) (.inl rfl) (.inl rfl) (by simp) (by simp) 0 (.inr ⟨_, rfl, by simp⟩)
  split
  · unfold SV.rcpt
    split
    · exact say_ef s ha hb _ rfl rfl rfl rfl (.inl rfl) (.inl rfl) (.inl rfl) 0 rfl
    split
    · exact say_ef s ha hb _ rfl rfl rfl rfl (.inl rfl) (.inl rfl) (.inl rfl) 0 rfl
    · exact put_ef (s.ask ⟨3, (verbS t).2.2.1, -1, [], [], []⟩) ⟨3, (verbS t).2.2.1, -1, [], [], []⟩ ha hb rfl rfl rfl rfl (.inl rfl) (.inl rfl) (.inl rfl) (by simp) (by simp) 0 (.inr ⟨_, rfl, by simp⟩)
  split
  · unfold SV.data
    split
    · exact say_ef s ha hb _ rfl rfl rfl rfl (.inl rfl) (.inl rfl) (.inl rfl) 0 rfl
    · exact put_ef { s.say 354 with body := true } (evSay (plainS 354)) ha hb rfl rfl rfl rfl (.inl rfl) (.inl rfl) (.inl rfl) (by simp [evSay]) (by simp [evSay]) 0 (.inl ha)
  exact ef_same s ha hb rfl rfl rfl (.inl rfl) (.inl rfl) (.inl rfl) (.inr (.inr rfl)) 0 (.inl ha)
theorem undot_len (t : L8) : (undot t).length ≤ t.length := by
  unfold undot
  split
  · rw [List.length_tail]; omega
  · omega
theorem content_ef (s : SV) (k : Int) (t : L8) (ha : s.asked = none) (hb : 0 ≤ s.bsize) : Ef s (s.content k t) (t.length + 2) := by
  unfold SV.content
  split
  · exact ef_same { s with bad := true } ha hb rfl rfl rfl (.inl rfl) (.inl rfl) (.inl rfl) (.inr (.inr rfl)) _ (.inl ha)
  split
  · unfold SV.whole
    dsimp only
    split
    · exact say_ef ({ s with body := false } : SV).reset ha hb _ rfl rfl rfl rfl (.inr rfl) (.inr rfl) (.inr rfl) _ rfl
    split
    · exact say_ef ({ s with body := false } : SV).reset ha hb _ rfl rfl rfl rfl (.inr rfl) (.inr rfl) (.inr rfl) _ rfl
    · exact put_ef (({ s with body := false } : SV).ask ⟨4, [], -1, s.sndr, s.rcpts, s.text⟩) ⟨4, [], -1, s.sndr, s.rcpts, s.text⟩ ha hb rfl rfl rfl rfl (.inl rfl) (.inl rfl) (.inl rfl) (by simp) (by simp) _ (.inr ⟨_, rfl, by simp⟩)
  · have hu := undot_len t
    unfold SV.line
    dsimp only
    split
    · refine ⟨rfl, rfl, rfl, ?_, ⟨?_, ?_⟩, ?_, Nat.le_refl _, fun e he => .inl he, fun e he => by have he : s.asked = some e := he; rw [ha] at he; cases he⟩
      · rw [aN_none (by exact ha)]; exact Nat.le_add_right _ _
      · show (0 : Int) ≤ s.bsize + _; omega
      · show s.bsize + (((undot t).length + 2 : Nat) : Int) ≤ s.bsize + ((t.length + 2 : Nat) : Int); omega
      · show (s.text ++ [undot t]).length ≤ _; rw [List.length_append, List.length_singleton]; omega
    · refine ⟨rfl, rfl, rfl, ?_, ⟨?_, ?_⟩, ?_, Nat.le_refl _, fun e he => .inl he, fun e he => by have he : s.asked = some e := he; rw [ha] at he; cases he⟩
      · rw [aN_none (by exact ha)]; exact Nat.le_add_right _ _
      · show (0 : Int) ≤ s.bsize + _; omega
      · show s.bsize + (((undot t).length + 2 : Nat) : Int) ≤ s.bsize + ((t.length + 2 : Nat) : Int); omega
      · show s.text.length ≤ _; omega
theorem lineS_le (most : Int) (a : L8) : (lineS most a).2.length ≤ a.length := by
  unfold lineS
  split
  · simp
  · split
    · simp
    · exact Nat.le_refl _
theorem take_ef (s : SV) (a r : L8) (ha : s.asked = none) (hb : 0 ≤ s.bsize) : Ef { s with wait := r } (s.take a r) (a.length + 2) := by
  unfold SV.take
  split
  · have q := content_ef { s with wait := r } (lineS s.most a).1 (lineS s.most a).2 ha hb
    have hl := lineS_le s.most a
    exact ⟨q.wait, q.host, q.size, q.out, ⟨q.bs.1, by have := q.bs.2; omega⟩, by have := q.tx; omega, q.rc, q.ev, q.ak⟩
  · have q := command_ef { s with wait := r } (lineS s.most a).1 (lineS s.most a).2 ha hb
    exact ⟨q.wait, q.host, q.size, q.out, ⟨q.bs.1, by have := q.bs.2; omega⟩, by have := q.tx; omega, q.rc, q.ev, q.ak⟩
theorem take_wait {s : SV} {a r : L8} (ha : s.asked = none) (hb : 0 ≤ s.bsize) : (s.take a r).wait = r := (take_ef s a r ha hb).wait
theorem SV.In.take {s : SV} {N : Nat} (h : s.In N) (ho : s.out = []) (ha : s.asked = none) {a r : L8} (hc : cutL s.wait = some (a, r)) : (s.take a r).In N := by
  have q := take_ef s a r ha h.bs.1
  have hl := cutL_len hc
  have w := q.wait
  have h1 := q.out
  have h2 := q.bs
  have h3 := q.tx
  have h4 := q.rc
  dsimp only at w h1 h2 h3 h4
  have g0 := h.out
  have g1 := h.bs
  have g2 := h.tx
  have g3 := h.rc
  rw [ho, List.length_nil] at h1 g0
  rw [aN_none ha] at g0 g3
  refine ⟨by rw [w]; omega, by rw [q.host]; exact h.host, by rw [q.size]; exact h.size, ⟨h2.1, by rw [w]; omega⟩, by rw [w]; omega, ?_, fun e he => ?_, q.ak⟩
  · rw [w]
    have : (s.take a r).aN ≤ 1 := by unfold SV.aN; split <;> omega
    omega
  · rcases q.ev e he with k | ⟨k1, k2⟩
    · dsimp only at k; rw [ho] at k; cases k
    · dsimp only at k1 k2; exact ⟨by omega, by omega⟩
theorem SV.In.pop {s : SV} {N : Nat} (h : s.In N) {e : Ev} {q : List Ev} (ho : s.out = e :: q) : ({ s with out := q } : SV).In N := by
  have g0 := h.out
  rw [ho, List.length_cons] at g0
  exact ⟨by show q.length + s.wait.length + s.aN ≤ N; omega, h.host, h.size, h.bs, h.tx, h.rc, fun x hx => h.ev x (by rw [ho]; exact List.mem_cons_of_mem _ hx), h.ak⟩
theorem SV.In.feed {s : SV} {N : Nat} (h : s.In N) (b : L8) : (s.feed b).In (N + b.length) := by
  have g0 := h.out
  have g1 := h.bs
  have g2 := h.tx
  have g3 := h.rc
  unfold SV.feed
  split
  · exact ⟨by omega, h.host, h.size, ⟨g1.1, by omega⟩, by omega, by omega, fun e he => by have := h.ev e he; omega, h.ak⟩
  · have e : (s.wait ++ b).length = s.wait.length + b.length := List.length_append
    refine ⟨?_, h.host, h.size, ⟨g1.1, ?_⟩, ?_, ?_, fun e he => by have := h.ev e he; omega, h.ak⟩
    · show s.out.length + (s.wait ++ b).length + s.aN ≤ _; omega
    · show s.bsize + ((s.wait ++ b).length : Int) ≤ _; omega
    · show s.text.length + (s.wait ++ b).length ≤ _; omega
    · show s.rcpts.length + (s.wait ++ b).length + s.aN ≤ _; omega
theorem SV.In.sz {s : SV} {N : Nat} (h : s.In N) (hN : N ≤ 999999999) : s.Sz :=
  ⟨by have := h.out; omega, h.host, h.size, by have := h.bs; omega, by have := h.tx; omega, by have := h.out; omega⟩
theorem SV.In.mono {s : SV} {N M : Nat} (h : s.In N) (hN : N ≤ M) : s.In M :=
  ⟨by have := h.out; omega, h.host, h.size, by have := h.bs; omega, by have := h.tx; omega, by have := h.rc; omega, fun e he => by have := h.ev e he; omega, h.ak⟩
/-- Lines are taken till something is said or asked, or none is there. -/
inductive Setl : SV → SV → Prop
  | stop {s : SV} (h : s.out ≠ [] ∨ s.asked.isSome = true ∨ s.over = true ∨ cutL s.wait = none) : Setl s s
  | go {s t : SV} {a r : L8} (h1 : s.out = []) (h2 : s.asked = none) (h3 : s.over = false) (h4 : cutL s.wait = some (a, r)) (k : Setl (s.take a r) t) : Setl s t
theorem Setl.in {s t : SV} {N : Nat} (k : Setl s t) (h : s.In N) : t.In N := by
  induction k with
  | stop => exact h
  | go h1 h2 h3 h4 k ih => exact ih (h.take h1 h2 h4)
end Go.Abs.F
/- Layer 6: a peer's session: a new one. -/
namespace Go.Abs.F
open Go Go.Abs
set_option maxRecDepth 10000
set_option maxHeartbeats 20000000
set_option linter.unusedSimpArgs false
set_option linter.unusedVariables false
variable {w0 : World}
theorem is_mxx {σ : Fm} {h : AH} {x y : Opd} {a b : Int} (hx : evF σ x = .v (.int .i64 a)) (hy : evF σ y = .v (.int .i64 b)) (hb : b ≤ a) : istep (.mnx true [x, y]) (evF σ) h = some (.v (.int .i64 a), h) := by
  simp only [istep, List.map_cons, List.map_nil, hx, hy, List.foldl_cons, List.foldl_nil, Option.map_some, if_true]
  rw [if_neg (by omega)]
def newS0 (size rmax : Int) : SV := ⟨[104], size, rmax, false, [], [], none, false, false, [], [], false, false, 0, [], false⟩
def newS (size rmax : Int) : SV := (newS0 size rmax).say 220
/-- What a new session is: objects of its own. -/
structure SvNew (x : SK) (s : SV) (R : List Tok) (h h' : AH) : Prop where
  o : ∃ ap tq tr tt tl, SvO h' x s ap tq tr tt tl ∧ Toks h' (tq :: tr :: tt :: tl :: R)
  e : Fr [] h h'
  f : ∀ i ∈ x.ids, h.n ≤ i
theorem Fr.fresh {I J : List Nat} {h h1 h2 : AH} (a : Fr J h h1) (b : Fr I h1 h2) (k : ∀ i ∈ I, h.n ≤ i) : Fr J h h2 :=
  ⟨Nat.le_trans a.n b.n, Nat.le_trans a.nt b.nt, fun i hi hn => (b.o i (Nat.lt_of_lt_of_le hi a.n) fun x => by have := k i x; omega).trans (a.o i hi hn)⟩
theorem snew_call (hP : PowTab w0) (size rmax : Int) (R : List Tok) (h : AH) (hT : Toks h R) (h1 : 1 ≤ size) (h2 : size ≤ 65536) (h3 : 1 ≤ rmax) (h4 : rmax ≤ 20) :
    Call P w0 serve_New [.agg [.v (.string (bs [104])), .v (.int .i64 size), .v (.int .i64 rmax), .v (.bool false)]] h (fun v h' => ∃ x, v = .ptr x.id 0 ∧ SvNew x (newS size rmax) R h h') := by
  have hd : ∀ h, Call P w0 addr_Domain [.v (.string (bs [104]))] h (fun v h' => v = .v (.bool true) ∧ h' = h) := fun h => by
    have q := (domain_call (w0 := w0) [104] h (by simp)).gc (Q' := fun v => v = .v (.bool (domainS [104]))) fun v h' hq => ⟨hq.1 ▸ .v _, hq.2, hq.1⟩
    rw [show domainS [104] = true by decide] at q
    exact q
  have S0 : ∀ (hh : AH) (j l : Nat), hh.objs j = some (.cells (vcel ⟨j, l⟩ (newS0 size rmax) (.v (.pointer none)) .full .full .full)) → hh.objs l = some (.cells [.list 1 [] .full]) → j < hh.n → l < hh.n → j ≠ l → SvO hh ⟨j, l⟩ (newS0 size rmax) (.v (.pointer none)) .full .full .full .full := fun hh j l a1 a2 a3 a4 a5 => ⟨a1, rfl, a2, ⟨a3, a4⟩, a5⟩
  have T0 : ∀ {hh : AH}, Ext h hh → Toks hh (.full :: .full :: .full :: .full :: R) := fun e => (hT.ext e).full.full.full.full
  have hsy := fun (hh : AH) O T => ssay_call (w0 := w0) hP ⟨h.n + 2, h.n + 1⟩ (newS0 size rmax) (.v (.pointer none)) .full .full .full .full (.full :: .full :: .full :: R) 220 hh O T (Nat.zero_le _)
  unfold vcel newS0 at S0
  dsimp only at S0
  refine Call.bodyF b_serve_New rfl rfl ?_
  unfold c_serve_New
  repeat' (first
| ((with_reducible apply opsF.op rfl); (case hs => exact is_mxx tEV tEV (by omega)))
| ((with_reducible apply opsF.op rfl); (case hs => exact is_mn tEV tEV (by omega)))
| ((with_reducible first | apply opsF.op rfl | apply dopsF.op rfl); case hs => first | exact tHT | exact tHS)
| (with_reducible first | apply opsF.nil | apply seqF.nn | apply vcF.seq | apply vcF.region | apply vcF.dregion | apply vcF.skip | apply vcF.ret | apply seqF.r | apply dopsF.nil | apply stabsF.nil | apply stabsF.cons | apply dopsF.cont)
| ((with_reducible first | apply opsF.call | apply dopsF.call); case hx => exact tAG)
| ((with_reducible first | apply opsF.want | apply dopsF.want | apply stabF.want); (case hg => exact tEV); case hb => exact tNB)
| ((with_reducible first | apply opsF.skip | apply dopsF.skip | apply stabF.skip); (case hg => exact tEV); case hb => exact tNB)
| (first | ((with_reducible first | apply opsF.case | apply dopsF.case); case hg => exact tEV) | ((with_reducible apply vcF.cond); case hx => exact tEV)) <;> ((intro hc; try simp only [Int.reduceLT, Int.reduceLE, Int.reduceEq, Int.reduceNe, Int.cast_ofNat_Int, Int.reduceNeg, reduceCtorEq, ne_eq, ge_iff_le, gt_iff_lt, beq_iff_eq, beq_eq_false_iff_ne, bne_iff_ne, bne_eq_false_iff_eq, nrm, *] at hc) <;> try (exfalso; omega))
| ((with_reducible first | apply opsF.und | apply dopsF.und); case hg => rfl)
| ((with_reducible apply stabF.und); rfl)
| ((with_reducible apply stabF.op); (case hs => first | exact tHT | exact tHS); case hv => exact tSV)
| ((with_reducible first | apply retF.r | apply retF.nn); case hv => exact tRS)
| ((refine Call.use (hd _) ?_))
| ((refine (lnew_call _).mono fun v h1 hp => ?_); obtain ⟨rfl, rfl⟩ := hp)
| ((refine (hsy _ (S0 _ _ _ (by simp (disch := omega) only [alloc_at, alloc_n, set_at, set_n, if_pos, if_neg, eq_self, if_true]; rfl) (by simp (disch := omega) only [alloc_at, alloc_n, set_at, set_n, if_pos, if_neg, eq_self, if_true]) (by simp only [alloc_n, set_n]; omega) (by simp only [alloc_n, set_n]; omega) (by omega)) (T0 (by repeat' (first | exact Ext.refl _ | (refine Ext.set ?_ (by first | exact Nat.le_refl _ | (simp only [alloc_n, set_n]; omega) | (simp only [alloc_n, set_n, drop_n]; omega)) _) | (refine Ext.trans ?_ (Ext.alloc _ _)) | (refine Ext.drop ?_ (by first | exact Nat.le_refl _ | (simp only [alloc_n, set_n, drop_n]; omega))))))).mono fun v h5 hp => ?_); obtain ⟨tq5, O5, T5, F5⟩ := hp)
| fail)
  all_goals exact ⟨⟨h.n + 2, h.n + 1⟩, rfl, ⟨_, tq5, _, _, _, O5, T5⟩, Fr.fresh (Fr.ext (by repeat' (first | exact Ext.refl _ | (refine Ext.set ?_ (by first | exact Nat.le_refl _ | (simp only [alloc_n, set_n]; omega) | (simp only [alloc_n, set_n, drop_n]; omega)) _) | (refine Ext.trans ?_ (Ext.alloc _ _)) | (refine Ext.drop ?_ (by first | exact Nat.le_refl _ | (simp only [alloc_n, set_n, drop_n]; omega)))))) F5 (by simp [SK.ids]), by simp [SK.ids]⟩
end Go.Abs.F
/- Layer 6: a peer's session: what it says or asks next. -/
namespace Go.Abs.F
open Go Go.Abs
set_option maxRecDepth 10000
set_option maxHeartbeats 20000000
set_option linter.unusedSimpArgs false
set_option linter.unusedVariables false
variable {w0 : World}
/-- What the word is. -/
def NextP (x : SK) (s : SV) (R : List Tok) (h : AH) (v : AV) (h' : AH) : Prop := match s.out with
  | [] => v = .tup [.agg ev0, .v (.bool false)] ∧ SvQ x s R h h'
  | e :: q => v = .tup [.agg (erow e), .v (.bool true)] ∧ SvQ x { s with out := q } R h h'
/-- In the loop. -/
structure NxI (x : SK) (s : SV) (R : List Tok) (h : AH) (σ : Fm) (hh : AH) : Prop where
  o : ∃ ap tq tr tt tl, SvO hh x s ap tq tr tt tl ∧ Toks hh (tq :: tr :: tt :: tl :: R)
  f : Fr x.ids h hh
  g0 : σ 0 = .ptr x.id 0
  g2 : σ 2 = .ptr h.n 0
  ob : hh.objs h.n = some (.cells ev0)
  lt : h.n < hh.n
theorem Fr.after {I J : List Nat} {h h1 h2 : AH} (a : Fr J h h1) (b : Fr I h1 h2) (k : ∀ i ∈ I, i ∈ J ∨ h.n ≤ i) : Fr J h h2 :=
  ⟨Nat.le_trans a.n b.n, Nat.le_trans a.nt b.nt, fun i hi hn => (b.o i (Nat.lt_of_lt_of_le hi a.n) fun x => by
    rcases k i x with q | q
    · exact hn q
    · omega).trans (a.o i hi hn)⟩
/-- The object of the answer is set, and others that are new. -/
theorem SvO.out {hh h2 : AH} {x : SK} {s s' : SV} {ap : AV} {tq tr tt tl tq' : Tok} {i : Nat} (O : SvO hh x s ap tq tr tt tl) (F : Fr [x.id, i] hh h2) (ob : hh.objs i = some (.cells ev0)) (ak : ∀ e, s.asked = some e → e.kind ≠ 0) (hi : ¬ i ∈ x.ids) (o2 : h2.objs x.id = some (.cells (vcel x s' ap tq' tr tt))) (es : s'.wait = s.wait) (ea : s'.asked = s.asked) : SvO h2 x s' ap tq' tr tt tl := by
  have hi2 : x.lid ≠ i := fun e => hi (by simp [SK.ids, e])
  refine ⟨o2, ?_, ?_, ⟨Nat.lt_of_lt_of_le O.lt.1 F.n, Nat.lt_of_lt_of_le O.lt.2 F.n⟩, O.ne⟩
  · rw [ea]
    have a := O.a
    cases hq : s.asked with
    | none => rw [hq] at a; exact a
    | some e =>
      rw [hq] at a
      obtain ⟨aid, a1, a2, a3, a4⟩ := a
      refine ⟨aid, a1, ?_, Nat.lt_of_lt_of_le a3 F.n, a4⟩
      refine (F.o aid a3 fun hm => ?_).trans a2
      simp only [List.mem_cons, List.not_mem_nil, or_false] at hm
      rcases hm with rfl | rfl
      · exact a4 (by simp [SK.ids])
      · rw [a2] at ob
        have q := ak e hq
        unfold erow ev0 at ob
        injection ob with ob
        injection ob with ob
        injection ob with ob
        injection ob with ob
        injection ob with _ ob
        exact q ob
  · rw [es]
    refine (F.o x.lid O.lt.2 ?_).trans O.l
    simp only [List.mem_cons, List.not_mem_nil, or_false]
    rintro (e | e)
    · exact O.ne e.symm
    · exact hi2 e
theorem snext_call (hP : PowTab w0) (hE : ErrVars w0) (hM : MaxLen w0) (x : SK) (s s' : SV) (ap : AV) (tq tr tt tl : Tok) (R : List Tok) (N : Nat) (h : AH) (H : SvO h x s ap tq tr tt tl) (hT : Toks h (tq :: tr :: tt :: tl :: R)) (k : Setl s s') (hi : s.In N) (hN : N ≤ 999999999) :
    Call P w0 serve_Server_Next [.ptr x.id 0] h (fun v h' => NextP x s' R h v h') := by
  have hid := H.lt.1
  have hlid := H.lt.2
  have hi' := k.in hi
  have hni : ¬ h.n ∈ x.ids := by simp [SK.ids]; omega
  have I0 : ∀ σ : Fm, σ 0 = .ptr x.id 0 → σ 2 = .ptr h.n 0 → NxI x s R h σ (h.alloc (.cells ev0)) := fun σ a b => ⟨⟨ap, tq, tr, tt, tl, H.ext (Ext.alloc _ _), hT.alloc⟩, Fr.ext (Ext.alloc _ _), a, b, by rw [alloc_at, if_pos rfl], by rw [alloc_n]; omega⟩
  have hob := H.o
  unfold vcel at hob
  unfold ev0 at I0
  refine Call.bodyF b_serve_Server_Next rfl rfl ?_
  unfold c_serve_Server_Next
  repeat' (first
| (with_reducible refine vcF.cut (a := .block 0 _) (fun σ hh => NxI x s' R h σ hh) ?_ ?_)
| ((with_reducible first | apply opsF.op rfl | apply dopsF.op rfl); case hs => first | exact tHT | exact tHS)
| (with_reducible first | apply opsF.nil | apply seqF.nn | apply vcF.seq | apply vcF.region | apply vcF.dregion | apply vcF.skip | apply vcF.block | apply vcF.exit | apply vcF.ret | apply vcF.loop | apply seqF.e | apply seqF.r | apply blkF.nn | apply blkF.e | apply blkF.r | apply blkF.o rfl | apply dopsF.nil | apply stabsF.nil | apply stabsF.cons | apply dopsF.cont)
| ((with_reducible first | apply opsF.call | apply dopsF.call); case hx => exact tAG)
| ((with_reducible first | apply opsF.want | apply dopsF.want | apply stabF.want); (case hg => exact tEV); case hb => exact tNB)
| ((with_reducible first | apply opsF.skip | apply dopsF.skip | apply stabF.skip); (case hg => exact tEV); case hb => exact tNB)
| (first | ((with_reducible first | apply opsF.case | apply dopsF.case); case hg => exact tEV) | ((with_reducible apply vcF.cond); case hx => exact tEV)) <;> ((intro hc; try simp only [Int.reduceLT, Int.reduceLE, Int.reduceEq, Int.reduceNe, Int.cast_ofNat_Int, Int.reduceNeg, reduceCtorEq, ne_eq, ge_iff_le, gt_iff_lt, beq_iff_eq, beq_eq_false_iff_ne, bne_iff_ne, bne_eq_false_iff_eq, nrm, *] at hc) <;> try (exfalso; omega))
| ((with_reducible first | apply opsF.und | apply dopsF.und); case hg => rfl)
| ((with_reducible apply stabF.und); rfl)
| ((with_reducible apply stabF.op); (case hs => first | exact tHT | exact tHS); case hv => exact tSV)
| ((with_reducible first | apply retF.r | apply retF.nn); case hv => exact tRS)
| fail)
  rotate_right
  · clear I0 hob hi k H hT
    rintro σ hh J
    obtain ⟨⟨ap, tq, tr, tt, tl, O, T⟩, F, g0, g2, ob, lt⟩ := J
    have gob := O.o
    have gid := O.lt.1
    have gne : ¬ h.n = x.id := by omega
    have gne2 : ¬ x.id = h.n := by omega
    have hlo : s'.out.length ≤ N := by have := hi'.out; omega
    unfold NextP
    have ob0 := ob
    unfold ev0 at ob
    cases ho : s'.out with
    | nil =>
      have S := fun (h2 : AH) F2 o2 => O.out (h2 := h2) (s' := s') (tq' := tq) (i := h.n) F2 ob0 hi'.ak hni o2 rfl rfl
      unfold vcel at gob S
      rw [ho] at gob S
      rw [show erows [] = [] from rfl] at gob S
      dsimp only
      repeat' (first
| ((with_reducible first | apply opsF.op rfl | apply dopsF.op rfl); case hs => first | exact tHT | exact tHS)
| (with_reducible first | apply opsF.nil | apply seqF.nn | apply vcF.seq | apply vcF.region | apply vcF.dregion | apply vcF.skip | apply vcF.block | apply vcF.exit | apply vcF.ret | apply vcF.loop | apply seqF.e | apply seqF.r | apply blkF.nn | apply blkF.e | apply blkF.r | apply blkF.o rfl | apply dopsF.nil | apply stabsF.nil | apply stabsF.cons | apply dopsF.cont)
| ((with_reducible first | apply opsF.call | apply dopsF.call); case hx => exact tAG)
| ((with_reducible first | apply opsF.want | apply dopsF.want | apply stabF.want); (case hg => exact tEV); case hb => exact tNB)
| ((with_reducible first | apply opsF.skip | apply dopsF.skip | apply stabF.skip); (case hg => exact tEV); case hb => exact tNB)
| (first | ((with_reducible first | apply opsF.case | apply dopsF.case); case hg => exact tEV) | ((with_reducible apply vcF.cond); case hx => exact tEV)) <;> ((intro hc; try simp only [Int.reduceLT, Int.reduceLE, Int.reduceEq, Int.reduceNe, Int.cast_ofNat_Int, Int.reduceNeg, reduceCtorEq, ne_eq, ge_iff_le, gt_iff_lt, beq_iff_eq, beq_eq_false_iff_ne, bne_iff_ne, bne_eq_false_iff_eq, nrm, *] at hc) <;> try (exfalso; omega))
| ((with_reducible first | apply opsF.und | apply dopsF.und); case hg => rfl)
| ((with_reducible apply stabF.und); rfl)
| ((with_reducible apply stabF.op); (case hs => first | exact tHT | exact tHS); case hv => exact tSV)
| ((with_reducible first | apply retF.r | apply retF.nn); case hv => exact tRS))
      all_goals exact ⟨rfl, ⟨ap, tq, tr, tt, tl, S _ (by repeat' (first | exact Fr.refl _ _ | (refine Fr.set ?_ (by first | exact .inr (Nat.le_refl _) | exact .inl (.head _) | exact .inl (.tail _ (.head _)) | exact .inr (by omega)) _) | (refine Fr.alloc ?_ _))) (by simp (disch := omega) only [alloc_at, alloc_n, set_at, set_n, if_pos, if_neg, eq_self, if_true]; exact gob), T.set⟩, Fr.after F (I := [x.id, h.n]) (by repeat' (first | exact Fr.refl _ _ | (refine Fr.set ?_ (by first | exact .inr (Nat.le_refl _) | exact .inl (.head _) | exact .inl (.tail _ (.head _)) | exact .inr (by omega)) _) | (refine Fr.alloc ?_ _))) (by simp [SK.ids])⟩
    | cons e q =>
      have S := fun (h2 : AH) F2 o2 => O.out (h2 := h2) (s' := { s' with out := q }) (tq' := tq) (i := h.n) F2 ob0 hi'.ak hni o2 rfl rfl
      have hev := hi'.ev e (by rw [ho]; simp)
      have hql : q.length ≤ N := by rw [ho, List.length_cons] at hlo; omega
      have xl := erows_len q
      unfold vcel at gob S
      rw [ho] at gob
      dsimp only at S
      rw [show erows (e :: q) = erow e :: erows q from rfl] at gob
      have c1 := fun tok h => sclone_call (w0 := w0) e.rc tok h (by omega)
      have c2 := fun tok h => sclone_call (w0 := w0) e.bd tok h (by omega)
      have c3 := fun tok h => sclip_call (w0 := w0) e.rc tok h (by omega)
      have c4 := fun tok h => sclip_call (w0 := w0) e.bd tok h (by omega)
      unfold erow at gob ⊢
      dsimp only
      clear hev hlo ho ob0
      generalize erows q = Q at *
      repeat' (first
| ((with_reducible first | apply opsF.op rfl | apply dopsF.op rfl); case hs => first | exact tHT | exact tHS)
| (with_reducible first | apply opsF.nil | apply seqF.nn | apply vcF.seq | apply vcF.region | apply vcF.dregion | apply vcF.skip | apply vcF.block | apply vcF.exit | apply vcF.ret | apply vcF.loop | apply seqF.e | apply seqF.r | apply blkF.nn | apply blkF.e | apply blkF.r | apply blkF.o rfl | apply dopsF.nil | apply stabsF.nil | apply stabsF.cons | apply dopsF.cont)
| ((with_reducible first | apply opsF.call | apply dopsF.call); case hx => exact tAG)
| ((with_reducible first | apply opsF.want | apply dopsF.want | apply stabF.want); (case hg => exact tEV); case hb => exact tNB)
| ((with_reducible first | apply opsF.skip | apply dopsF.skip | apply stabF.skip); (case hg => exact tEV); case hb => exact tNB)
| (first | ((with_reducible first | apply opsF.case | apply dopsF.case); case hg => exact tEV) | ((with_reducible apply vcF.cond); case hx => exact tEV)) <;> ((intro hc; try simp only [Int.reduceLT, Int.reduceLE, Int.reduceEq, Int.reduceNe, Int.cast_ofNat_Int, Int.reduceNeg, reduceCtorEq, ne_eq, ge_iff_le, gt_iff_lt, beq_iff_eq, beq_eq_false_iff_ne, bne_iff_ne, bne_eq_false_iff_eq, nrm, *] at hc) <;> try (exfalso; omega))
| ((with_reducible first | apply opsF.und | apply dopsF.und); case hg => rfl)
| ((with_reducible apply stabF.und); rfl)
| ((with_reducible apply stabF.op); (case hs => first | exact tHT | exact tHS); case hv => exact tSV)
| ((with_reducible first | apply retF.r | apply retF.nn); case hv => exact tRS)
| ((refine Call.use (c1 _ _) ?_))
| ((refine Call.use (c2 _ _) ?_))
| ((refine Call.use (c3 _ _) ?_))
| ((refine Call.use (c4 _ _) ?_))
| fail)
      all_goals exact ⟨rfl, ⟨ap, tq, tr, tt, tl, S _ (by repeat' (first | exact Fr.refl _ _ | (refine Fr.set ?_ (by first | exact .inr (Nat.le_refl _) | exact .inl (.head _) | exact .inl (.tail _ (.head _)) | exact .inr (by omega)) _) | (refine Fr.alloc ?_ _))) (by simp (disch := omega) only [alloc_at, alloc_n, set_at, set_n, if_pos, if_neg, eq_self, if_true]; simp), (by repeat' (first | exact T | refine Toks.set ?_ | refine Toks.alloc ?_))⟩, Fr.after F (I := [x.id, h.n]) (by repeat' (first | exact Fr.refl _ _ | (refine Fr.set ?_ (by first | exact .inr (Nat.le_refl _) | exact .inl (.head _) | exact .inl (.tail _ (.head _)) | exact .inr (by omega)) _) | (refine Fr.alloc ?_ _))) (by simp [SK.ids])⟩
  · have J0 := I0
    clear I0 hob
    refine LpF.ind rfl (fun i : Nat => i) (fun i σ hh => ∃ s1, NxI x s1 R h σ hh ∧ Setl s1 s' ∧ s1.In N ∧ s1.wait.length = i) ?_ (i := s.wait.length) ⟨s, J0 _ rfl rfl, k, hi, rfl⟩
    clear J0 k hi H hT
    rintro i σ hh ⟨s1, J, k1, hi1, hw⟩
    obtain ⟨⟨ap, tq, tr, tt, tl, O, T⟩, F, g0, g2, ob, lt⟩ := J
    have gob := O.o
    have ha := O.a
    have xl := erows_len s1.out
    have hst := sstep_call (w0 := w0) hP hE hM x s1 ap tq tr tt tl R hh O T (hi1.sz hN)
    have hlo : s1.out.length ≤ N := by have := hi1.out; omega
    unfold vcel at gob
    by_cases ho : s1.out = []
    · rw [ho] at gob
      rw [show erows [] = [] from rfl] at gob
      cases hq : s1.asked with
      | some e =>
        have es : s' = s1 := by
          cases k1 with
          | stop _ => rfl
          | go h1 h2 h3 h4 _ => rw [hq] at h2; cases h2
        subst es
        rw [hq] at ha
        obtain ⟨aid, rfl, ha1, ha2, ha3⟩ := ha
        clear hst
        repeat' (first
| ((with_reducible first | apply opsF.op rfl | apply dopsF.op rfl); case hs => first | exact tHT | exact tHS)
| (with_reducible first | apply opsF.nil | apply seqF.nn | apply vcF.seq | apply vcF.region | apply vcF.dregion | apply vcF.skip | apply vcF.block | apply vcF.exit | apply vcF.ret | apply vcF.loop | apply seqF.e | apply seqF.r | apply blkF.nn | apply blkF.e | apply blkF.r | apply blkF.o rfl | apply dopsF.nil | apply stabsF.nil | apply stabsF.cons | apply dopsF.cont)
| ((with_reducible first | apply opsF.call | apply dopsF.call); case hx => exact tAG)
| ((with_reducible first | apply opsF.want | apply dopsF.want | apply stabF.want); (case hg => exact tEV); case hb => exact tNB)
| ((with_reducible first | apply opsF.skip | apply dopsF.skip | apply stabF.skip); (case hg => exact tEV); case hb => exact tNB)
| (first | ((with_reducible first | apply opsF.case | apply dopsF.case); case hg => exact tEV) | ((with_reducible apply vcF.cond); case hx => exact tEV)) <;> ((intro hc; try simp only [Int.reduceLT, Int.reduceLE, Int.reduceEq, Int.reduceNe, Int.cast_ofNat_Int, Int.reduceNeg, reduceCtorEq, ne_eq, ge_iff_le, gt_iff_lt, beq_iff_eq, beq_eq_false_iff_ne, bne_iff_ne, bne_eq_false_iff_eq, nrm, *] at hc) <;> try (exfalso; omega))
| ((with_reducible first | apply opsF.und | apply dopsF.und); case hg => rfl)
| ((with_reducible apply stabF.und); rfl)
| ((with_reducible apply stabF.op); (case hs => first | exact tHT | exact tHS); case hv => exact tSV)
| ((with_reducible first | apply retF.r | apply retF.nn); case hv => exact tRS))
        all_goals exact ⟨⟨_, tq, tr, tt, tl, O, T⟩, F, g0, g2, ob, lt⟩
      | none =>
        rw [hq] at ha
        have ea : ap = .v (.pointer none) := ha
        subst ea
        cases hv : s1.over with
        | true =>
          have es : s' = s1 := by
            cases k1 with
            | stop _ => rfl
            | go h1 h2 h3 h4 _ => rw [hv] at h3; cases h3
          subst es
          rw [hv] at gob
          clear hst
          repeat' (first
| ((with_reducible first | apply opsF.op rfl | apply dopsF.op rfl); case hs => first | exact tHT | exact tHS)
| (with_reducible first | apply opsF.nil | apply seqF.nn | apply vcF.seq | apply vcF.region | apply vcF.dregion | apply vcF.skip | apply vcF.block | apply vcF.exit | apply vcF.ret | apply vcF.loop | apply seqF.e | apply seqF.r | apply blkF.nn | apply blkF.e | apply blkF.r | apply blkF.o rfl | apply dopsF.nil | apply stabsF.nil | apply stabsF.cons | apply dopsF.cont)
| ((with_reducible first | apply opsF.call | apply dopsF.call); case hx => exact tAG)
| ((with_reducible first | apply opsF.want | apply dopsF.want | apply stabF.want); (case hg => exact tEV); case hb => exact tNB)
| ((with_reducible first | apply opsF.skip | apply dopsF.skip | apply stabF.skip); (case hg => exact tEV); case hb => exact tNB)
| (first | ((with_reducible first | apply opsF.case | apply dopsF.case); case hg => exact tEV) | ((with_reducible apply vcF.cond); case hx => exact tEV)) <;> ((intro hc; try simp only [Int.reduceLT, Int.reduceLE, Int.reduceEq, Int.reduceNe, Int.cast_ofNat_Int, Int.reduceNeg, reduceCtorEq, ne_eq, ge_iff_le, gt_iff_lt, beq_iff_eq, beq_eq_false_iff_ne, bne_iff_ne, bne_eq_false_iff_eq, nrm, *] at hc) <;> try (exfalso; omega))
| ((with_reducible first | apply opsF.und | apply dopsF.und); case hg => rfl)
| ((with_reducible apply stabF.und); rfl)
| ((with_reducible apply stabF.op); (case hs => first | exact tHT | exact tHS); case hv => exact tSV)
| ((with_reducible first | apply retF.r | apply retF.nn); case hv => exact tRS))
          all_goals exact ⟨⟨_, tq, tr, tt, tl, O, T⟩, F, g0, g2, ob, lt⟩
        | false =>
          rw [hv] at gob
          unfold SV.step at hst
          cases hc : cutL s1.wait with
          | none =>
            have es : s' = s1 := by
              cases k1 with
              | stop _ => rfl
              | go h1 h2 h3 h4 _ => rw [hc] at h4; cases h4
            subst es
            rw [hc] at hst
            dsimp only [Option.isSome] at hst
            repeat' (first
| ((with_reducible first | apply opsF.op rfl | apply dopsF.op rfl); case hs => first | exact tHT | exact tHS)
| (with_reducible first | apply opsF.nil | apply seqF.nn | apply vcF.seq | apply vcF.region | apply vcF.dregion | apply vcF.skip | apply vcF.block | apply vcF.exit | apply vcF.ret | apply vcF.loop | apply seqF.e | apply seqF.r | apply blkF.nn | apply blkF.e | apply blkF.r | apply blkF.o rfl | apply dopsF.nil | apply stabsF.nil | apply stabsF.cons | apply dopsF.cont)
| ((with_reducible first | apply opsF.call | apply dopsF.call); case hx => exact tAG)
| ((with_reducible first | apply opsF.want | apply dopsF.want | apply stabF.want); (case hg => exact tEV); case hb => exact tNB)
| ((with_reducible first | apply opsF.skip | apply dopsF.skip | apply stabF.skip); (case hg => exact tEV); case hb => exact tNB)
| (first | ((with_reducible first | apply opsF.case | apply dopsF.case); case hg => exact tEV) | ((with_reducible apply vcF.cond); case hx => exact tEV)) <;> ((intro hc; try simp only [Int.reduceLT, Int.reduceLE, Int.reduceEq, Int.reduceNe, Int.cast_ofNat_Int, Int.reduceNeg, reduceCtorEq, ne_eq, ge_iff_le, gt_iff_lt, beq_iff_eq, beq_eq_false_iff_ne, bne_iff_ne, bne_eq_false_iff_eq, nrm, *] at hc) <;> try (exfalso; omega))
| ((with_reducible first | apply opsF.und | apply dopsF.und); case hg => rfl)
| ((with_reducible apply stabF.und); rfl)
| ((with_reducible apply stabF.op); (case hs => first | exact tHT | exact tHS); case hv => exact tSV)
| ((with_reducible first | apply retF.r | apply retF.nn); case hv => exact tRS)
| ((refine hst.mono fun v h3 hp => ?_); obtain ⟨rfl, ⟨⟨ap3, tq3, tr3, tt3, tl3, O3, T3⟩, F3⟩⟩ := hp)
| fail)
            all_goals exact ⟨⟨ap3, tq3, tr3, tt3, tl3, O3, T3⟩, F.trans F3, g0, g2, (F3.o _ lt hni).trans ob, Nat.lt_of_lt_of_le lt F3.n⟩
          | some p =>
            obtain ⟨a, r⟩ := p
            have k2 : Setl (s1.take a r) s' := by
              cases k1 with
              | stop h => rcases h with h | h | h | h
                          · exact absurd ho h
                          · rw [hq] at h; cases h
                          · rw [hv] at h; cases h
                          · rw [hc] at h; cases h
              | go h1 h2 h3 h4 k3 => rw [hc] at h4; injection h4 with h4; injection h4 with h5 h6; subst h5 h6; exact k3
            have hw2 : (s1.take a r).wait.length < i := by rw [take_wait hq hi1.bs.1]; have := cutL_len hc; omega
            have hi2 := hi1.take ho hq hc
            rw [hc] at hst
            dsimp only [Option.isSome] at hst
            generalize s1.take a r = s2 at *
            repeat' (first
| ((with_reducible first | apply opsF.op rfl | apply dopsF.op rfl); case hs => first | exact tHT | exact tHS)
| (with_reducible first | apply opsF.nil | apply seqF.nn | apply vcF.seq | apply vcF.region | apply vcF.dregion | apply vcF.skip | apply vcF.block | apply vcF.exit | apply vcF.ret | apply vcF.loop | apply seqF.e | apply seqF.r | apply blkF.nn | apply blkF.e | apply blkF.r | apply blkF.o rfl | apply dopsF.nil | apply stabsF.nil | apply stabsF.cons | apply dopsF.cont)
| ((with_reducible first | apply opsF.call | apply dopsF.call); case hx => exact tAG)
| ((with_reducible first | apply opsF.want | apply dopsF.want | apply stabF.want); (case hg => exact tEV); case hb => exact tNB)
| ((with_reducible first | apply opsF.skip | apply dopsF.skip | apply stabF.skip); (case hg => exact tEV); case hb => exact tNB)
| (first | ((with_reducible first | apply opsF.case | apply dopsF.case); case hg => exact tEV) | ((with_reducible apply vcF.cond); case hx => exact tEV)) <;> ((intro hc; try simp only [Int.reduceLT, Int.reduceLE, Int.reduceEq, Int.reduceNe, Int.cast_ofNat_Int, Int.reduceNeg, reduceCtorEq, ne_eq, ge_iff_le, gt_iff_lt, beq_iff_eq, beq_eq_false_iff_ne, bne_iff_ne, bne_eq_false_iff_eq, nrm, *] at hc) <;> try (exfalso; omega))
| ((with_reducible first | apply opsF.und | apply dopsF.und); case hg => rfl)
| ((with_reducible apply stabF.und); rfl)
| ((with_reducible apply stabF.op); (case hs => first | exact tHT | exact tHS); case hv => exact tSV)
| ((with_reducible first | apply retF.r | apply retF.nn); case hv => exact tRS)
| ((refine hst.mono fun v h3 hp => ?_); obtain ⟨rfl, ⟨⟨ap3, tq3, tr3, tt3, tl3, O3, T3⟩, F3⟩⟩ := hp)
| fail)
            all_goals exact ⟨s2.wait.length, hw2, s2, ⟨⟨ap3, tq3, tr3, tt3, tl3, O3, T3⟩, F.trans F3, g0, g2, (F3.o _ lt hni).trans ob, Nat.lt_of_lt_of_le lt F3.n⟩, k2, hi2, rfl⟩
    · have es : s' = s1 := by
        cases k1 with
        | stop _ => rfl
        | go h1 h2 h3 h4 _ => exact absurd h1 ho
      subst es
      have hl0 : 1 ≤ s'.out.length := by
        cases hq : s'.out with
        | nil => exact absurd hq ho
        | cons a l => simp
      clear hst ho
      repeat' (first
| ((with_reducible first | apply opsF.op rfl | apply dopsF.op rfl); case hs => first | exact tHT | exact tHS)
| (with_reducible first | apply opsF.nil | apply seqF.nn | apply vcF.seq | apply vcF.region | apply vcF.dregion | apply vcF.skip | apply vcF.block | apply vcF.exit | apply vcF.ret | apply vcF.loop | apply seqF.e | apply seqF.r | apply blkF.nn | apply blkF.e | apply blkF.r | apply blkF.o rfl | apply dopsF.nil | apply stabsF.nil | apply stabsF.cons | apply dopsF.cont)
| ((with_reducible first | apply opsF.call | apply dopsF.call); case hx => exact tAG)
| ((with_reducible first | apply opsF.want | apply dopsF.want | apply stabF.want); (case hg => exact tEV); case hb => exact tNB)
| ((with_reducible first | apply opsF.skip | apply dopsF.skip | apply stabF.skip); (case hg => exact tEV); case hb => exact tNB)
| (first | ((with_reducible first | apply opsF.case | apply dopsF.case); case hg => exact tEV) | ((with_reducible apply vcF.cond); case hx => exact tEV)) <;> ((intro hc; try simp only [Int.reduceLT, Int.reduceLE, Int.reduceEq, Int.reduceNe, Int.cast_ofNat_Int, Int.reduceNeg, reduceCtorEq, ne_eq, ge_iff_le, gt_iff_lt, beq_iff_eq, beq_eq_false_iff_ne, bne_iff_ne, bne_eq_false_iff_eq, nrm, *] at hc) <;> try (exfalso; omega))
| ((with_reducible first | apply opsF.und | apply dopsF.und); case hg => rfl)
| ((with_reducible apply stabF.und); rfl)
| ((with_reducible apply stabF.op); (case hs => first | exact tHT | exact tHS); case hv => exact tSV)
| ((with_reducible first | apply retF.r | apply retF.nn); case hv => exact tRS))
      all_goals exact ⟨⟨ap, tq, tr, tt, tl, O, T⟩, F, g0, g2, ob, lt⟩
end Go.Abs.F
/- Layer 6: a peer's session, all that it asks answered with 250: what it says, and the mails. -/
namespace Go.Abs.F
open Go Go.Abs
set_option maxRecDepth 60000
set_option maxHeartbeats 20000000
set_option linter.unusedSimpArgs false
set_option linter.unusedVariables false
variable {w0 : World}
end Go.Abs.F
/- Layer 6: a peer's session: commands, bodies, as it is told them: the plain side. -/
namespace Go.Abs.F
open Go Go.Abs
set_option maxRecDepth 10000
set_option linter.unusedSimpArgs false
set_option linter.unusedVariables false
theorem lineS_ok {most : Int} {a : L8} (h : (a.length : Int) + 2 ≤ most) (h0 : 0 ∉ a) (h1 : 10 ∉ a) (h2 : 13 ∉ a) : lineS most a = (1, a) := by
  unfold lineS
  rw [if_neg (by omega), if_neg]
  intro e
  rw [List.any_eq_true] at e
  obtain ⟨x, hx, e⟩ := e
  simp only [Bool.or_eq_true, decide_eq_true_eq] at e
  rcases e with (rfl | rfl) | rfl
  · exact h0 hx
  · exact h1 hx
  · exact h2 hx
theorem take_cmd {s : SV} {a r : L8} (hb : s.body = false) (hl : a.length ≤ 510) (h0 : 0 ∉ a) (h1 : 10 ∉ a) (h2 : 13 ∉ a) : s.take a r = ({ s with wait := r } : SV).command 1 a := by
  unfold SV.take
  rw [if_neg (by rw [hb]; simp)]
  have e : s.most = 512 := by unfold SV.most; rw [if_neg (by rw [hb]; simp)]
  rw [e, lineS_ok (by omega) h0 h1 h2]
theorem command_ok {s : SV} {a : L8} {v : VS} (h : verbS a = (0, v)) : s.command 1 a = s.doVerb v := by
  unfold SV.command
  rw [if_neg (by simp), h, if_neg (by simp)]
/-- What is kept of a body. -/
def keptT (size : Int) : Int → List L8 → List L8 → List L8
  | _, tx, [] => tx
  | z, tx, u :: l => keptT size (z + ((u.length + 2 : Nat) : Int)) (if z + ((u.length + 2 : Nat) : Int) ≤ size then tx ++ [u] else tx) l
/-! what is said to a command -/
theorem dv_QUIT (s : SV) (a : L8) (z : Int) (w : Bool) : s.doVerb (nQUIT, a, z, w) = (s.say 221).shut := by
  unfold SV.doVerb
  dsimp only
  rw [if_neg (by decide), if_neg (by decide), if_neg (by decide), if_neg (by decide), if_neg (by decide), if_pos rfl]
end Go.Abs.F
/- Layer 6: commands in any order: the plain side. -/
namespace Go.Abs.F
open Go Go.Abs
set_option maxRecDepth 10000
set_option linter.unusedSimpArgs false
set_option linter.unusedVariables false
def bQUIT : L8 := [81, 85, 73, 84]
theorem p220 : plainS 220 = [50, 50, 48, 32, 114, 101, 97, 100, 121, 13, 10] := by kernel_rfl
theorem p221 : plainS 221 = [50, 50, 49, 32, 98, 121, 101, 13, 10] := by kernel_rfl
end Go.Abs.F
