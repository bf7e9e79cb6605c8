/- A program logic over abstract states, 29: ranges over functions. -/
import Derived.Test.YtnpdmkbfphcioaaGreatDoorGc
import Derived.RangeFuncIn
import Derived.RangeFuncRecord
import Derived.RangeFuncLeaves
namespace Go.Abs
open Go Go.RowKit
set_option linter.unusedVariables false
set_option linter.unusedSimpArgs false
/-- An object's block turns, and the object is forgotten. -/
theorem WR.lose {w0 : World} {Γ : Con} {h : AH} {w : World} (H : WR w0 Γ h w) {id b : Nat} {o : AObj} (ho : h.objs id = some o) (hb : Γ.rho id = some b) {w' : World} (hc : Chg w w' b) : WR w0 Γ (h.drop id) w' := by
  obtain ⟨b', hb', hge, hat, hF⟩ := H.obj ho
  obtain rfl : b = b' := by rw [hb] at hb'; injection hb'
  have hd : ∀ {i o}, (h.drop id).objs i = some o → h.objs i = some o ∧ i ≠ id := by
    intro i o hi
    simp only [AH.drop] at hi
    split at hi
    · cases hi
    · exact ⟨hi, by assumption⟩
  have hs : ∀ {i}, ((h.drop id).objs i).isSome → (h.objs i).isSome ∧ i ≠ id := fun hi => by
    obtain ⟨o, ho⟩ := Option.isSome_iff_exists.1 hi
    exact ⟨by rw [(hd ho).1]; rfl, (hd ho).2⟩
  refine ⟨hc.below hge H.below, ?_, ?_, fun hi hj => H.inj (hs hi).1 (hs hj).1, ?_, ?_, H.tinj, H.tnew⟩
  · intro k off x hx
    have : k ≠ b := by rintro rfl; rw [hF off] at hx; cases hx
    exact (hc.cell (a := ⟨k, off, none⟩) this).trans (H.fcell hx)
  · intro i oi hi
    obtain ⟨hi1, hi2⟩ := hd hi
    obtain ⟨bi, h1, h2, h3, h4⟩ := H.obj hi1
    refine ⟨bi, h1, h2, h3.at_ (hc.other bi ?_), h4⟩
    rintro rfl
    exact hi2 (H.inj (by rw [hi1]; rfl) (by rw [ho]; rfl) h1 hb)
  · intro i bi hi
    have := H.rlt hi
    rw [hc.size]; exact this
  · intro t T ht
    obtain ⟨h1, ⟨h2, vs, e, fr, h3, h4, h5⟩, h6⟩ := H.tok ht
    refine ⟨h1, ⟨h2, vs, e, fr, (hc.other T.blk ?_).trans h3, h4, h5⟩, fun i hi => h6 i (hs hi).1⟩
    rintro rfl
    exact h6 id (by rw [ho]; rfl) hb
theorem putObj_chg (w : World) (b : Nat) (o : Obj) : Chg w (w.putObj b o) b := putBlk_chg w b o
/-- What waits for a round's end. -/
def rndQ (i l : Nat) (R : LpR) (fr : List AV) (K : AV → AH → Prop) : AExit → List AV → AH → Prop
  | .normal, _, h => h.objs i = some (.lp l R .busy none fr) ∧ K (.v (.bool true)) (h.set i (.lp l R .ready none fr))
  | .exit id, _, h => h.objs i = some (.lp l R .busy none fr) ∧ K (.v (.bool false)) (h.set i (.lp l R .done (some (.exit id)) fr))
  | .ret, _, h => h.objs i = some (.lp l R .busy none fr) ∧ K (.v (.bool false)) (h.set i (.lp l R .done (some .ret) fr))
section
variable {P : Program} {w0 : World}
theorem lp_turn {Γ : Con} {h : AH} {w : World} (H : WR w0 Γ h w) {i l : Nat} {R : LpR} {st st' : LoopState} {pend pend' : Option Code} {fr : List AV} (ho : h.objs i = some (.lp l R st pend fr)) :
    ∃ tmps d, w.heap[l]? = some (.loop { state := st, pending := pend, fn := R.fn, tmps := tmps, params := R.ps, assign := R.asg, body := R.body, defers := d }) ∧ tmps.size = fr.length ∧ (∀ (i : Nat) (h : i < fr.length) (h' : i < tmps.size), RV Γ fr[i] tmps[i]) ∧
      WR w0 Γ (h.set i (.lp l R st' pend' fr)) (w.putObj l (.loop { state := st', pending := pend', fn := R.fn, tmps := tmps, params := R.ps, assign := R.asg, body := R.body, defers := d })) := by
  obtain ⟨b, hb, hge, ⟨rfl, tmps, d, hh, hsz, hfr⟩, hF⟩ := H.obj ho
  refine ⟨tmps, d, hh, hsz, hfr, H.turn ho hb (putObj_chg _ _ _) ⟨rfl, tmps, d, World.putObj_heap_same (size_pos_of hh), hsz, hfr⟩ fun vs t f e => ?_⟩
  rw [hh] at e; cases e
/-- A round, out of the body of the loop. -/
theorem Yld.of {ia ib : IC} {rows rows' : List Nat} {i l p : Nat} {R : LpR} {fr : List AV} {a : AV} {h : AH} {K : AV → AH → Prop} (ho : h.objs i = some (.lp l R .ready none fr)) (hps : R.ps = #[p]) (hca : comp P rows R.asg = some ia) (hcb : comp P rows' R.body = some ib)
    (hv : vc P w0 ia (fun e fr1 h1 => e = .normal ∧ h1.objs i = some (.lp l R .ready none fr) ∧ vc P w0 ib (rndQ i l R fr K) fr1 (h1.set i (.lp l R .busy none fr))) (fr.set p a) h) : Yld P w0 l [a] h K := by
  intro Γ w vs H ha
  obtain ⟨x, rfl⟩ : ∃ x, vs = [x] := by
    have := ha.len
    match vs, this with
    | [x], _ => exact ⟨x, rfl⟩
  have hax : RV Γ a x := ha.at_ 0 (by simp) (by simp)
  obtain ⟨tmps, d, hh, hsz, hfr, _⟩ := lp_turn H (st' := .busy) (pend' := none) ho
  have hy := run_yield (P := P) (args := #[x]) hh (by simp [hps])
  refine ⟨_, _, _, _, hy, ?_⟩
  simp only [hps]
  refine roundIn_of_wpIn (F := fen none) trivial ?_
  have hfr2 : FR Γ (fr.set p a) { tmps := (#[p].zip #[x]).foldl (fun tmps (t, a) => tmps.setIfInBounds t a) tmps, defers := [] } := by
    have e : (#[p].zip #[x]).foldl (fun tmps (t, a) => tmps.setIfInBounds t a) tmps = tmps.setIfInBounds p x := by
      rw [show (#[p].zip #[x]) = #[(p, x)] from by simp]
      simp
    rw [e]
    refine ⟨by simp [hsz], fun k hk hk' => ?_⟩
    simp only [List.length_set] at hk
    simp only [Array.size_setIfInBounds] at hk'
    by_cases hpk : p = k
    · subst hpk
      simp only [List.getElem_set_self, Array.getElem_setIfInBounds_self]
      exact hax
    · rw [List.getElem_set_ne hpk, Array.getElem_setIfInBounds_ne _ hpk]
      exact hfr k hk hk'
  refine wpIn_mono (vc_sound hca hv (some l) Γ w _ H hfr2) fun e a1 w1 hp => ?_
  obtain ⟨hd1, ae, Γ1, fr1, h1, hex, hle1, hfr1, H1, rfl, ho1, hvb⟩ := hp
  cases e <;> simp only [exitOf] at hex
  obtain ⟨tmps1, d1, hh1, _, _, HB⟩ := lp_turn H1 (st' := .busy) (pend' := none) ho1
  refine ⟨_, run_beginRound hh1 rfl, ?_⟩
  refine wpIn_mono (vc_sound hcb hvb (some l) Γ1 _ _ HB hfr1) fun e a2 w2 hp => ?_
  obtain ⟨hd2, ae, Γ2, fr2, h2, hex, hle2, hfr2, H2, hk⟩ := hp
  have fin : ∀ (jump : Option Code) (K2 : Prop), h2.objs i = some (.lp l R .busy none fr) → K (.v (.bool jump.isNone)) (h2.set i (.lp l R (if jump.isNone then .ready else .done) jump fr)) → ∃ v w', (Instr.endRound l jump).run P w2 = .ok v w' ∧ ∃ x Γ' v' h', Ending.returned v = .returned x ∧ Γ.le Γ' ∧ RV Γ' v' x ∧ WR w0 Γ' h' w' ∧ K v' h' := by
    intro jump _ hob hK
    obtain ⟨tmps2, d2, hh2, _, _, HE⟩ := lp_turn H2 (st' := if jump.isNone then .ready else .done) (pend' := jump) hob
    exact ⟨_, _, run_endRound jump hh2, _, Γ2, _, _, rfl, hle1.trans hle2, .v _, HE, hK⟩
  cases e <;> cases ae <;> simp only [exitOf] at hex
  · exact fin none True hk.1 hk.2
  · subst hex; exact fin (some (.exit _)) True hk.1 hk.2
  · exact fin (some .ret) True hk.1 hk.2
/-- A range over a function, at a function's own level. -/
theorem range_wp {ps : Array Tmp} {asg body : Code} {X : Operand} {x : Opd} {t : TypeId} {g : FuncId} {first caps : List AV} {fr : List AV} {h : AH} {Γ : Con} {w : World} {a : Act} (H : WR w0 Γ h w) (hf : FR Γ fr a) (hX : copd P t X = some x) (hx : ev fr x = .func (.func g) first caps)
    {K : Nat → Option Code → AH → Prop}
    (hc : ∀ R l bd, R.ps = ps → R.asg = asg → R.body = body → Call P w0 g (first ++ [.func (.yield l) [] []] ++ caps) ((h.alloc (.dfr bd)).alloc (.lp l R .ready none fr)) fun v h' => ∃ st pend, h'.objs (h.n + 1) = some (.lp l R st pend fr) ∧ st ≠ .busy ∧ K bd pend (h'.drop (h.n + 1)))
    {Q : Exit → Act → World → Prop}
    (hQ : ∀ bd pend Γ' h' w', Γ.le Γ' → Γ'.rho h.n = some bd → WR w0 Γ' h' w' → K bd pend h' → match pend with
      | none => Q .normal { a with defers := { target := .collected bd, args := #[] } :: a.defers } w'
      | some c => c.wpIn (fen none) 0 P Q { a with defers := { target := .collected bd, args := #[] } :: a.defers } w') :
    (Code.rangeFunc X ps asg body).wpIn (fen none) 0 P Q a w := by
  refine wpIn_rangeFunc fun fn _ => ?_
  have hxr := hf.eval hX
  rw [hx] at hxr
  obtain ⟨vf, vcs, hXv, h1, h2, h3, h4⟩ := hxr.inv_func
  have HA := H.new (.deferred (some [])) (.dfr w.heap.size) (fun w' hw' => ⟨rfl, hw'⟩)
  have hle1 := H.le_obj w.heap.size
  have HB := HA.new (.loop { state := .ready, pending := none, fn := fn, tmps := a.tmps, params := ps, assign := asg, body := body, defers := w.heap.size }) (.lp (w.heap.size + 1) ⟨fn, ps, asg, body⟩ .ready none fr)
    (fun w' hw' => ⟨by simp, a.tmps, w.heap.size, hw', hf.size, fun i hi hi' => (hf.at_ i hi hi').mono (hle1.trans (HA.le_obj _))⟩)
  have hle2 := HA.le_obj (w.alloc (.deferred (some []))).heap.size
  have hcl := hc ⟨fn, ps, asg, body⟩ (w.heap.size + 1) w.heap.size rfl rfl rfl
  have r1 : RVs Γ first vf.toList := ⟨by simpa using h1, fun i hi hi' => by rw [Array.getElem_toList]; exact h3 i hi (by simpa using hi')⟩
  have r2 : RVs Γ caps vcs.toList := ⟨by simpa using h2, fun i hi hi' => by rw [Array.getElem_toList]; exact h4 i hi (by simpa using hi')⟩
  have ry : RVs Γ [AV.func (.yield (w.heap.size + 1)) [] []] [Value.func (.yield (w.heap.size + 1)) #[] #[]] := .cons (RV.func rfl rfl (fun i hi => by simp at hi) (fun i hi => by simp at hi)) .nil
  have hrun := hcl.2 _ _ _ HB ((((r1.append ry).append r2).mono hle1).mono hle2)
  have hev : a.eval X = .func (.func g) vf vcs := hXv
  refine ⟨w.heap.size + 1, [{ target := .collected w.heap.size, args := #[] }], ((w.alloc (.deferred (some []))).alloc (.loop { state := .ready, pending := none, fn := fn, tmps := a.tmps, params := ps, assign := asg, body := body, defers := w.heap.size })), { target := .fn (.func g) vcs, args := vf ++ #[Value.func (.yield (w.heap.size + 1)) #[] #[]] }, ((w.alloc (.deferred (some []))).alloc (.loop { state := .ready, pending := none, fn := fn, tmps := a.tmps, params := ps, assign := asg, body := body, defers := w.heap.size })), g, (vf.toList ++ [Value.func (.yield (w.heap.size + 1)) #[] #[]] ++ vcs.toList).toArray, ((w.alloc (.deferred (some []))).alloc (.loop { state := .ready, pending := none, fn := fn, tmps := a.tmps, params := ps, assign := asg, body := body, defers := w.heap.size })), run_enterLoop_outer fn a.tmps ps asg body, ?_, fun _ _ => trivial, ?_, (fun h => by cases h), ?_⟩
  · simp only [resolve, rangeCall, hev, Deferred.ofValue, Sem.run_bind, Sem.run_pure, Result.andThen_ok, List.map_toArray, List.map_cons, List.map_nil]
    rfl
  · simp only [invoke]
    rw [run_callFunc hcl.1]
    congr 2
    simp
  · refine fen_calls.2 (hrun.mono fun e w3 hh => ?_)
    obtain ⟨y, Γ3, v, h3', rfl, hle3, _, H3, st, pend, hob, hst, hK⟩ := hh
    obtain ⟨b, hb, hge, ⟨rfl, tmps, d, hhl, _, _⟩, _⟩ := H3.obj hob
    refine ⟨pend, w3.putObj (w.heap.size + 1) (.loop { state := .exhausted, pending := pend, fn := fn, tmps := tmps, params := ps, assign := asg, body := body, defers := d }), run_endLoop hhl hst, ?_⟩
    have hrho : Γ3.rho h.n = some w.heap.size := hle3.rho (hle2.rho (by simp [Con.withObj]))
    have := hQ w.heap.size pend Γ3 _ _ ((hle1.trans hle2).trans hle3) hrho (H3.lose hob hb (putObj_chg w3 (w.heap.size + 1) (.loop { state := .exhausted, pending := pend, fn := fn, tmps := tmps, params := ps, assign := asg, body := body, defers := d }))) hK
    cases pend with
    | none => exact this
    | some c => exact this
end
/-! a function's body that holds a range over a function -/
def seqs : List Code → Code → Code
  | [], c => c
  | a :: as, c => .seq a (seqs as c)
def splitR : Code → Option (List Code × Code × Nat × Operand × Nat × Code × Code × Code)
  | .seq a b => match a with
    | .seq r (.block b0 (.rangeFunc X ps asg body)) => match ps.toList with
      | [p] => some ([], r, b0, X, p, asg, body, b)
      | _ => none
    | a => (splitR b).map fun q => (a :: q.1, q.2)
  | _ => none
theorem splitR_eq : ∀ {c : Code} {pre : List Code} {r : Code} {b0 : Nat} {X : Operand} {p : Nat} {asg body e : Code}, splitR c = some (pre, r, b0, X, p, asg, body, e) → c = seqs pre (.seq (.seq r (.block b0 (.rangeFunc X #[p] asg body))) e)
  | .seq a b, pre, r, b0, X, p, asg, body, e, h => by
    unfold splitR at h
    split at h
    · split at h
      · rename_i q hq
        simp only [Option.some.injEq, Prod.mk.injEq] at h
        obtain ⟨rfl, rfl, rfl, rfl, rfl, rfl, rfl, rfl⟩ := h
        have key : ∀ ps : Array Nat, ps.toList = [q] → ps = #[q] := fun ps hp => by apply Array.ext'; simpa using hp
        rw [key _ hq]
        rfl
      · cases h
    · simp only [Option.map_eq_some_iff, Prod.mk.injEq] at h
      obtain ⟨⟨pre', q⟩, hq, rfl, rfl⟩ := h
      rw [splitR_eq hq]; rfl
  | .skip, _, _, _, _, _, _, _, _, h | .region .., _, _, _, _, _, _, _, _, h | .cond .., _, _, _, _, _, _, _, _, h | .block .., _, _, _, _, _, _, _, _, h | .loop .., _, _, _, _, _, _, _, _, h | .rangeFunc .., _, _, _, _, _, _, _, _, h | .exit .., _, _, _, _, _, _, _, _, h | .scope .., _, _, _, _, _, _, _, _, h
  | .label .., _, _, _, _, _, _, _, _, h | .goto .., _, _, _, _, _, _, _, _, h | .ret, _, _, _, _, _, _, _, _, h | .refuse .., _, _, _, _, _, _, _, _, h => by simp [splitR] at h
def comps (P : Program) (rows : List Nat) : List Code → Option (List IC)
  | [] => some []
  | c :: cs => match comp P rows c, comps P rows cs with
    | some i, some is => some (i :: is)
    | _, _ => none
/-- The parts of a body that holds a range over a function. -/
structure RB where
  pre : List IC
  r : IC
  b0 : Nat
  x : Opd
  p : Nat
  ia : IC
  ib : IC
  e : IC
def compR (P : Program) (rows : List Nat) (c : Code) : Option RB := match splitR c with
  | some (pre, r, b0, X, p, asg, body, e) => match comps P rows pre, comp P rows r, copd P 0 X, comp P rows asg, comp P rows body, comp P rows e with
    | some pre, some r, some x, some ia, some ib, some e => some ⟨pre, r, b0, x, p, ia, ib, e⟩
    | _, _, _, _, _, _ => none
  | none => none
def getBodyR (P : Program) (f : FuncId) (rows : List Nat) : Option (Nat × RB × List ARes) := match P.funcs[f]? with
  | some fn => match fn.body with
    | some c => match compR P rows c, compRes P fn.results.toList with
      | some b, some rs => if fn.name == "runtime.NumGoroutine" then none else some (fn.ntmps, b, rs)
      | _, _ => none
    | none => none
  | none => none
structure HasBodyR (P : Program) (f : FuncId) (nt : Nat) (b : RB) (rs : List ARes) : Prop where
  out : ∃ rows, getBodyR P f rows = some (nt, b, rs)
theorem HasBodyR.of {P : Program} {f : FuncId} {nt : Nat} {b : RB} {rs : List ARes} (rows : List Nat) (h : getBodyR P f rows = some (nt, b, rs)) : HasBodyR P f nt b rs := ⟨rows, h⟩
section
variable {P : Program} {w0 : World}
def preF (P : Program) (w0 : World) (n : Nat) : List IC → (Fm → AH → Prop) → (AExit → Fm → AH → Prop) → Fm → AH → Prop
  | [], K, _, σ, h => K σ h
  | i :: is, K, Q, σ, h => vcF P w0 n i (seqF (preF P w0 n is K Q) Q) σ h
/-- What a function hands back, the block for deferred calls being forgotten. -/
def retM (i bd : Nat) (rs : List ARes) (Q : AV → AH → Prop) : AExit → Fm → AH → Prop
  | .exit _, _, _ => False
  | _, σ, h => h.objs i = some (.dfr bd) ∧ match aresF σ (h.drop i) rs with
    | some v => Q v (h.drop i)
    | none => False
/-- Behind a range over a function. -/
def rngF (P : Program) (w0 : World) (n : Nat) (b : RB) (i bd : Nat) (rs : List ARes) (Q : AV → AH → Prop) (σ : Fm) : Option Code → AH → Prop
  | none, h => vcF P w0 n b.e (retM i bd rs Q) σ h
  | some .ret, h => retM i bd rs Q .ret σ h
  | some (.exit id), h => if id = b.b0 then vcF P w0 n b.e (retM i bd rs Q) σ h else False
  | _, _ => False
/-- The range itself. -/
def rangeF (P : Program) (w0 : World) (n : Nat) (b : RB) (rs : List ARes) (Q : AV → AH → Prop) (σ : Fm) (h : AH) : Prop :=
  ∃ g first caps, evF σ b.x = .func (.func g) first caps ∧ ∀ (fr : List AV) (R : LpR) (l bd : Nat), fr.length = n → frF fr = σ → R.ps = #[b.p] → (∃ rows, comp P rows R.asg = some b.ia) → (∃ rows, comp P rows R.body = some b.ib) →
    Call P w0 g (first ++ [.func (.yield l) [] []] ++ caps) ((h.alloc (.dfr bd)).alloc (.lp l R .ready none fr)) fun _ h' => ∃ st pend, h'.objs (h.n + 1) = some (.lp l R st pend fr) ∧ st ≠ .busy ∧ rngF P w0 n b h.n bd rs Q σ pend (h'.drop (h.n + 1))
theorem preF_sound {n : Nat} {rows : List Nat} {ro : Option Nat} {Q : Exit → Act → World → Prop} {QF : AExit → Fm → AH → Prop} {c : Code} {K : Fm → AH → Prop} {Γ0 : Con} {D : List Deferred}
    (hK : ∀ (fr : List AV) (h : AH) (Γ : Con) (w : World) (a : Act), fr.length = n → a.defers = D → Γ0.le Γ → WR w0 Γ h w → FR Γ fr a → K (frF fr) h → c.wpIn (fen ro) 0 P Q a w)
    (hQ : ∀ (e : Exit) (ae : AExit) (fr : List AV) (h : AH) (Γ : Con) (w : World) (a : Act), exitOf e ae → e ≠ .normal → fr.length = n → a.defers = D → Γ0.le Γ → WR w0 Γ h w → FR Γ fr a → QF ae (frF fr) h → Q e a w) :
    ∀ {cs : List Code} {is : List IC}, comps P rows cs = some is → is.all (icOk n) = true → ∀ {fr : List AV} {h : AH} {Γ : Con} {w : World} {a : Act}, fr.length = n → a.defers = D → Γ0.le Γ → WR w0 Γ h w → FR Γ fr a → preF P w0 n is K QF (frF fr) h → (seqs cs c).wpIn (fen ro) 0 P Q a w
  | [], is, hc, hok, fr, h, Γ, w, a, hl, hd, hle, H, hf, hv => by
    simp only [comps, Option.some.injEq] at hc
    subst hc
    exact hK fr h Γ w a hl hd hle H hf hv
  | x :: cs, is, hc, hok, fr, h, Γ, w, a, hl, hd, hle, H, hf, hv => by
    simp only [comps] at hc
    split at hc
    · rename_i i is' hi his
      injection hc with hc
      subst hc
      simp only [List.all_cons, Bool.and_eq_true] at hok
      refine wpIn_seq (wpIn_mono (vc_sound hi (vcF_sound hl hok.1 hv) ro Γ w a H hf) fun e a' w' hp => ?_)
      obtain ⟨hd1, ae, Γ1, fr1, h1, hex, hle1, hf1, H1, hl1, hq⟩ := hp
      cases e <;> cases ae <;> simp only [exitOf] at hex
      · exact preF_sound hK hQ his hok.2 hl1 (hd1.trans hd) (hle.trans hle1) H1 hf1 hq
      · exact hQ _ (.exit _) fr1 h1 Γ1 w' a' hex (by simp) hl1 (hd1.trans hd) (hle.trans hle1) H1 hf1 hq
      · exact hQ _ .ret fr1 h1 Γ1 w' a' trivial (by simp) hl1 (hd1.trans hd) (hle.trans hle1) H1 hf1 hq
    · cases hc
theorem leaves_empty {fn : Func} {tmps : Array Value} {R : Ending → World → Prop} {w : World} {v : Value} (hr : (results fn tmps).run P w = .ok v w) (h : R (.returned v) w) : LeavesInM (fen none) 0 P fn tmps R [] .returning w := ⟨v, hr, h⟩
/-- A function whose body holds a range over a function. -/
theorem Call.bodyR {f : FuncId} {nt : Nat} {b : RB} {rs : List ARes} (hb : HasBodyR P f nt b rs) {args : List AV} {h : AH} {Q : AV → AH → Prop} (hl : Nat.ble args.length nt = true) (hok1 : b.pre.all (icOk nt) = true) (hok2 : icOk nt b.r = true) (hok3 : icOk nt b.e = true)
    (hv : preF P w0 nt b.pre (fun σ h => vcF P w0 nt b.r (seqF (rangeF P w0 nt b rs Q) (retF rs Q)) σ h) (retF rs Q) (argF args) h) : Call P w0 f args h Q := by
  obtain ⟨rows, hg⟩ := hb.out
  unfold getBodyR at hg
  split at hg
  · rename_i fn hfn
    split at hg
    · rename_i c hbody
      split at hg
      · rename_i b' rs' hcR hres
        split at hg
        · cases hg
        · rename_i hname
          simp only [Option.some.injEq, Prod.mk.injEq] at hg
          obtain ⟨rfl, rfl, rfl⟩ := hg
          unfold compR at hcR
          split at hcR
          · rename_i pre r b0 X p asg body e hsp
            split at hcR
            · rename_i preI rI x ia ib eI h1 h2 h3 h4 h5 h6
              injection hcR with hcR
              subst hcR
              rw [splitR_eq hsp] at hbody
              simp only at hok1 hok2 hok3 hv
              refine ⟨⟨fn, hfn, by rw [hbody]; rfl, by simpa using hname⟩, fun Γ w vs H hvs => ?_⟩
              have hlen := hvs.len
              have hl' : args.length ≤ fn.ntmps := Nat.le_of_ble_eq_true hl
              refine fen_calls.1 (callsIn_of_wp_marks (F := fen none) (n := 0) hfn hbody trivial ?_)
              have hfr : FR Γ (args ++ List.replicate (fn.ntmps - args.length) (.v undef)) { tmps := vs.toArray ++ Array.replicate (fn.ntmps - vs.toArray.size) undef, defers := [] } := by
                refine ⟨by simp [hlen], fun i hi hi' => ?_⟩
                simp only [List.length_append, List.length_replicate] at hi
                by_cases hlt : i < args.length
                · rw [List.getElem_append_left hlt]
                  have : i < vs.toArray.size := by simp; omega
                  rw [Array.getElem_append_left this]
                  simpa using hvs.at_ i hlt (by omega)
                · rw [List.getElem_append_right (by omega), Array.getElem_append_right (by simp; omega)]
                  simp only [List.getElem_replicate, Array.getElem_replicate]
                  exact .v _
              rw [← argF_eq args (fn.ntmps - args.length)] at hv
              have fin0 : ∀ {fr : List AV} {h' : AH} {Γ' : Con} {w' : World} {a' : Act}, a'.defers = [] → Γ.le Γ' → WR w0 Γ' h' w' → FR Γ' fr a' → (match aresF (frF fr) h' rs' with | some v => Q v h' | none => False) → LeavesInM (fen none) 0 P fn a'.tmps (fun e w' => ∃ x Γ' v h', e = .returned x ∧ Γ.le Γ' ∧ RV Γ' v x ∧ WR w0 Γ' h' w' ∧ Q v h') a'.defers .returning w' := by
                intro fr h' Γ' w' a' hd hle H' hf' hm
                rw [hd]
                split at hm
                · rename_i v hv'
                  rw [← aresF_eq] at hv'
                  obtain ⟨x, hx, hxv⟩ := run_results (P := P) H' hf' hres hv'
                  exact leaves_empty hx ⟨x, Γ', v, h', rfl, hle, hxv, H', hm⟩
                · exact hm.elim
              have finM : ∀ {fr : List AV} {h' : AH} {Γ' : Con} {w' : World} {a' : Act} {i bd : Nat}, a'.defers = [{ target := .collected bd, args := #[] }] → Γ'.rho i = some bd → Γ.le Γ' → WR w0 Γ' h' w' → FR Γ' fr a' → retM i bd rs' Q .ret (frF fr) h' → LeavesInM (fen none) 0 P fn a'.tmps (fun e w' => ∃ x Γ' v h', e = .returned x ∧ Γ.le Γ' ∧ RV Γ' v x ∧ WR w0 Γ' h' w' ∧ Q v h') a'.defers .returning w' := by
                intro fr h' Γ' w' a' i bd hd hrho hle H' hf' hm
                obtain ⟨hob, hm⟩ := hm
                obtain ⟨bb, hb', _, ⟨hbd, hh⟩, _⟩ := H'.obj hob
                obtain rfl : bb = bd := hbd
                have HL := H'.lose hob hb' (putObj_chg w' bb (.deferred none))
                rw [hd]
                refine ⟨by simp, .inl ⟨bb, _, rfl, run_takeDeferred hh, ?_⟩⟩
                split at hm
                · rename_i v hv'
                  rw [← aresF_eq] at hv'
                  obtain ⟨x, hx, hxv⟩ := run_results (P := P) HL hf' hres hv'
                  exact leaves_empty hx ⟨x, Γ', v, _, rfl, hle, hxv, HL, hm⟩
                · exact hm.elim
              refine preF_sound (n := fn.ntmps) (ro := none) (QF := retF rs' Q) (Γ0 := Γ) (D := []) ?_ ?_ h1 hok1 (by simp; omega) rfl (.refl _) H hfr hv
              · intro fr1 hh1 Γ1 w1 a1 hl1 hd1 hle1 H1 hf1 hk
                refine wpIn_seq (wpIn_seq (wpIn_mono (vc_sound h2 (vcF_sound hl1 hok2 hk) none Γ1 w1 a1 H1 hf1) fun e a2 w2 hp => ?_))
                obtain ⟨hd2, ae, Γ2, fr2, hh2, hex, hle2, hf2, H2, hl2, hq⟩ := hp
                have hdd : a2.defers = [] := hd2.trans hd1
                cases e <;> cases ae <;> simp only [exitOf] at hex
                · obtain ⟨g, first, caps, hx, hcall⟩ := hq
                  have hx' : ev fr2 x = .func (.func g) first caps := by rw [evF_eq]; exact hx
                  refine wpIn_block (range_wp (t := 0) H2 hf2 h3 hx' (K := fun bd pend h' => rngF P w0 fn.ntmps ⟨preI, rI, b0, x, p, ia, ib, eI⟩ hh2.n bd rs' Q (frF fr2) pend h') (fun R l bd q1 q2 q3 => hcall fr2 R l bd hl2 rfl q1 ⟨rows, by rw [q2]; exact h4⟩ ⟨rows, by rw [q3]; exact h5⟩) ?_)
                  intro bd pend Γ3 h3' w3 hle3 hrho H3 hk3
                  have hf3 : FR Γ3 fr2 { a2 with defers := { target := .collected bd, args := #[] } :: a2.defers } := ⟨hf2.size, fun i u v => (hf2.at_ i u v).mono hle3⟩
                  have hd3 : ({ a2 with defers := { target := .collected bd, args := #[] } :: a2.defers } : Act).defers = [{ target := .collected bd, args := #[] }] := by simp [hdd]
                  have hG : Γ.le Γ3 := (hle1.trans hle2).trans hle3
                  have contE := fun hv => wpIn_mono (vc_sound h6 (vcF_sound (Q := retM hh2.n bd rs' Q) hl2 hok3 hv) none Γ3 w3 _ H3 hf3) (Q' := bodyPostM (fen none) 0 P fn (fun e w' => ∃ x Γ' v h', e = .returned x ∧ Γ.le Γ' ∧ RV Γ' v x ∧ WR w0 Γ' h' w' ∧ Q v h')) fun e a4 w4 hp => by
                    obtain ⟨hd4, ae, Γ4, fr4, hh4, hex, hle4, hf4, H4, hl4, hq⟩ := hp
                    have hd5 := hd4.trans hd3
                    cases e <;> cases ae <;> simp only [exitOf] at hex
                    · exact finM hd5 (hle4.rho hrho) (hG.trans hle4) H4 hf4 hq
                    · exact hq.elim
                    · exact finM hd5 (hle4.rho hrho) (hG.trans hle4) H4 hf4 hq
                  match pend, hk3 with
                  | none, hk3 => exact contE hk3
                  | some .ret, hk3 => exact wpIn_ret (finM hd3 hrho hG H3 hf3 hk3)
                  | some (.exit id), hk3 =>
                    simp only [rngF] at hk3
                    split at hk3
                    · rename_i hid
                      refine wpIn_exit ?_
                      show (if id = b0 then _ else _)
                      rw [if_pos hid]
                      exact contE hk3
                    · exact hk3.elim
                · exact hq.elim
                · exact fin0 hdd (hle1.trans hle2) H2 hf2 hq
              · intro e ae fr1 hh1 Γ1 w1 a1 hex hne hl1 hd1 hle1 H1 hf1 hq
                cases e <;> cases ae <;> simp only [exitOf] at hex
                · exact absurd rfl hne
                · exact hq.elim
                · exact fin0 hd1 hle1 H1 hf1 hq
            · cases hcR
          · cases hcR
      · cases hg
    · cases hg
  · cases hg
end
end Go.Abs
