/- What the proof needs, part 8: A program logic over abstract states, 16: code, calls, and what is to be shown of them. -/
import Derived.Test.YtlmgpkopcgcbgaaGreatDoorQServeParts7
import Derived.OrdersIn
import Derived.TacticsIn
import Derived.ControlIn
/- A program logic over abstract states, 16: code, calls, and what is to be shown of them. -/
namespace Go.Abs
open Go Go.RowKit
set_option linter.unusedVariables false
set_option linter.unusedSimpArgs false

inductive AExit where
  | normal
  | exit (id : Nat)
  | ret
def exitOf : Exit → AExit → Prop
  | .normal, .normal => True
  | .exit i, .exit j => i = j
  | .ret, .ret => True
  | _, _ => False

structure IOper where
  dst : Option Nat
  op : IOp
  guard : Option (Nat × Bool)

inductive IC where
  | skip
  | region (ops : List IOper)
  | dregion (ops : List (IOper × List IOper))
  | dalts (ls : List (List (IOper × List IOper)))
  | seq (a b : IC)
  | cond (x : Opd) (a b : IC)
  | block (id : Nat) (b : IC)
  | loop (b : IC)
  | exit (id : Nat)
  | ret

/-! compiled -/
def compGuard (ops : Array Oper) : Option (Nat × Bool) → Option (Option (Nat × Bool))
  | none => some none
  | some (j, b) => match ops[j]? with
    | some o => match o.dst with
      | some d => some (some (d, b))
      | none => none
    | none => none
def IOp.isCall : IOp → Bool
  | .call _ _ | .callv _ _ => true
  | _ => false
/-- A call of a Go function. -/
def callOf (P : Program) : Op → Option IOp
  | .call ⟨.value (.func f), args, ts⟩ => (cargs P ts.toList args.toList).map (.call f)
  | .call ⟨.value X, args, ts⟩ => match copd P 0 X, cargs P ts.toList args.toList with
    | some x, some xs => some (.callv x xs)
    | _, _ => none
  | _ => none
def compOper (P : Program) (rows : List Nat) (ops : Array Oper) (o : Oper) : Option IOper :=
  match compGuard ops o.guard with
  | some g => match callOf P o.op with
    | some i => some ⟨o.dst, i, g⟩
    | none => match compOp P rows o with
      | some i => if i.isCall then none else some ⟨o.dst, i, g⟩
      | none => none
  | none => none
def compOps (P : Program) (rows : List Nat) (ops : Array Oper) : List Oper → Option (List IOper)
  | [] => some []
  | o :: os => match compOper P rows ops o, compOps P rows ops os with
    | some i, some is => some (i :: is)
    | _, _ => none
/-! regions whose order is drawn -/
def Opd.slots : Opd → List Nat
  | .tmp t => [t]
  | .cst _ => []
def IOp.opds : IOp → List Opd
  | .mv x | .box x | .load x _ | .nilc x | .un _ x | .convI _ x | .convS x | .s2b _ x | .b2s x | .cvb x | .mki _ x | .fad x _ | .fld x _ _ | .ext x _ | .len _ x | .cap x | .rng x | .nxt x => [x]
  | .pick c a b => [c, a, b]
  | .new _ | .newT .. | .mkm => []
  | .build _ ps => ps.map (·.2.2)
  | .lit _ _ _ ps | .litRow _ _ _ ps => ps.map (·.2)
  | .store x y _ | .bin _ _ x y | .iaL _ x y | .iaA _ _ x y | .ixS x y | .ixA _ _ _ x y | .look _ _ _ x y | .del _ x y | .app _ _ x y | .cpy _ x y | .mks _ _ _ x y => [x, y]
  | .upd _ m k x => [m, k, x]
  | .mkf _ fs cs => fs ++ cs
  | .slS x lo hi | .slA _ _ x lo hi => x :: (lo.toList ++ hi.toList)
  | .slL _ x lo hi mx => x :: (lo.toList ++ (hi.toList ++ mx.toList))
  | .mnx _ xs => xs
  | .call _ xs => xs
  | .callv x xs => x :: xs
def IOp.slots (o : IOp) : List Nat := o.opds.flatMap Opd.slots
def IOper.reads (o : IOper) : List Nat := match o.guard with
  | none => o.op.slots
  | some (g, _) => g :: o.op.slots
/-- It leaves the heap as it is. -/
def IOp.quiet : IOp → Bool
  | .box _ | .new _ | .newT .. | .litRow .. | .store .. | .s2b true _ | .cvb _ | .mkm | .mks .. | .upd .. | .del .. | .app .. | .cpy .. | .rng _ | .nxt _ | .call .. | .callv .. => false
  | _ => true
/-- It does not look at the heap either. -/
def IOp.pure : IOp → Bool
  | .mv _ | .pick .. | .build .. | .lit .. | .nilc _ | .bin .. | .un .. | .convI .. | .convS _ | .s2b false _ | .mki .. | .mkf .. | .slS .. | .slL .. | .slA .. | .fad .. | .fld .. | .iaL .. | .iaA .. | .ixS .. | .ixA .. | .ext .. | .len .str _ | .len .sl _ | .cap _ | .mnx .. => true
  | _ => false

def edgesOf (o : Oper) : List Nat := (o.after.toList.filter fun e => Region.binds .any e).map (·.on)
/-- Which operations stand ahead of each, whatever is drawn. -/
def aheadOf : List Oper → List (List Nat) → List (List Nat)
  | [], acc => acc
  | o :: os, acc => aheadOf os (acc ++ [((edgesOf o).flatMap fun k => k :: acc.getD k []).eraseDups])
/-- Everything that is said to stand ahead does. -/
def aheadOk (es : List (List Nat)) (A : Nat → List Nat) : List Nat → Bool
  | [] => true
  | i :: is => (es.getD i []).all (fun k => Nat.blt k i) && (A i).all (fun j => (es.getD i []).any fun k => k == j || (A k).contains j) && aheadOk es A is
/-- An order in which they are looked at: none ahead of what it waits for; those that are loud in one order. -/
def ordOk (n : Nat) (A : Nat → List Nat) (ld : Nat → Bool) : List Nat → List Nat → Bool
  | done, [] => (List.range n).all fun i => done.contains i
  | done, m :: r => Nat.blt m n && !done.contains m && (A m).all (fun k => done.contains k) && done.all (fun l => !ld l || (A m).contains l) && ordOk n A ld (m :: done) r
def meet (o : Option Nat) (l : List Nat) : Bool := match o with
  | some d => l.contains d
  | none => false
def sameDst (a b : Option Nat) : Bool := match a, b with
  | some d, some e => d == e
  | _, _ => false
/-- Slots of i and j do not get in each other's way. -/
def pairOk (A : Nat → List Nat) (ld : Nat → Bool) (oi oj : IOper) (i j : Nat) : Bool :=
  (!meet oi.dst oj.reads || (A j).contains i || (ld i && (A i).contains j)) &&
  (!sameDst oi.dst oj.dst || (ld i && ld j) || ((ld i || ld j) && ((A i).contains j || (A j).contains i)))
def pairsOk (A : Nat → List Nat) (ld : Nat → Bool) (l : List (IOper × Nat)) : Bool :=
  l.all fun p => l.all fun q => p.2 == q.2 || pairOk A ld p.1 q.1 p.2 q.2
def quietOk (ld : Nat → Bool) (l : List (IOper × Nat)) : Bool := l.all fun p => ld p.2 || (p.1.op.quiet && !meet p.1.dst p.1.reads)

/-- What is loud: what changes the heap, and what writes a slot that others read ahead of it. -/
def loudOf (A : Nat → List Nat) (l : List (IOper × Nat)) (p : IOper × Nat) : Bool :=
  !p.1.op.quiet || meet p.1.dst p.1.reads || l.any fun q => !(q.2 == p.2) && ((meet p.1.dst q.1.reads && !(A q.2).contains p.2) || sameDst p.1.dst q.1.dst)
/-- The order: what is quiet as soon as it may, what is loud as late as it may. -/
def ordOf (A : Nat → List Nat) (ld : Nat → Bool) (n : Nat) : Nat → List Nat → List Nat
  | 0, done => done.reverse
  | f + 1, done =>
    let rs := (List.range n).filter fun i => !done.contains i && (A i).all fun k => done.contains k
    match rs.find? (fun i => !ld i) with
    | some i => ordOf A ld n f (i :: done)
    | none => match rs with
      | i :: _ => ordOf A ld n f (i :: done)
      | [] => done.reverse
/-- With each operation those whose values must stand behind it too. -/
def withChecks (A : Nat → List Nat) (ld : Nat → Bool) (is : List IOper) : List Nat → List Nat → List (IOper × List IOper)
  | _, [] => []
  | done, m :: r => match is[m]? with
    | some i => (i, if ld m then (done.filter fun j => !ld j && !(A m).contains j).filterMap fun j => match is[j]? with
        | some o => if o.op.pure then none else some o
        | none => none
      else []) :: withChecks A ld is (m :: done) r
    | none => []
def dcomp (P : Program) (ops : Array Oper) (is : List IOper) : Option (List (IOper × List IOper)) :=
  let es := ops.toList.map edgesOf
  let ah := aheadOf ops.toList []
  let A := fun i => ah.getD i []
  let l := is.zipIdx
  let lds := l.map (loudOf A l)
  let ld := fun i => lds.getD i true
  let ord := ordOf A ld is.length is.length []
  if P.follows .mixedOrders && is.length == ops.size && aheadOk es A (List.range is.length) && ordOk is.length A ld [] ord && pairsOk A ld l && quietOk ld l then some (withChecks A ld is [] ord) else none
/-! a variable that may be made at any time: what is made ahead of which call -/
def IOp.isNew : IOp → Bool
  | .new _ | .newT .. | .mks .. => true
  | _ => false
/-- The first j of C stand ahead of m; it stands ahead of the others, and of what waits for those. -/
def altA (A : Nat → List Nat) (m : Nat) (C : List Nat) (j i : Nat) : List Nat :=
  if i = m then A i ++ C.take j else if (C.drop j).any (fun c => c == i || (A i).contains c) then A i ++ [m] else A i
def chainOk (A : Nat → List Nat) : List Nat → Bool
  | [] => true
  | c :: r => r.all (fun d => (A d).contains c && !(c == d)) && chainOk A r
def dcompJ (is : List IOper) (A : Nat → List Nat) : Option (List (IOper × List IOper)) :=
  let l := is.zipIdx
  let lds := l.map (loudOf A l)
  let ld := fun i => lds.getD i true
  let ord := ordOf A ld is.length is.length []
  if ordOk is.length A ld [] ord && pairsOk A ld l && quietOk ld l then some (withChecks A ld is [] ord) else none
def altsOf (is : List IOper) (A : Nat → List Nat) (m : Nat) (C : List Nat) : Nat → Option (List (List (IOper × List IOper)))
  | 0 => (dcompJ is (altA A m C 0)).map fun l => [l]
  | j + 1 => match altsOf is A m C j, dcompJ is (altA A m C (j + 1)) with
    | some ls, some l => some (ls ++ [l])
    | _, _ => none
def dcompA (P : Program) (ops : Array Oper) (is : List IOper) : Option (List (List (IOper × List IOper))) :=
  let es := ops.toList.map edgesOf
  let ah := aheadOf ops.toList []
  let A := fun i => ah.getD i []
  let l := is.zipIdx
  let lds := l.map (loudOf A l)
  match (List.range is.length).find? (fun m => ((is[m]?).map fun o => o.op.isNew).getD false && (A m).all fun k => !lds.getD k true) with
  | some m =>
    let C := (List.range is.length).filter fun c => !(c == m) && lds.getD c true && !(A c).contains m
    if P.follows .mixedOrders && is.length == ops.size && aheadOk es A (List.range is.length) && Nat.blt m is.length && !C.contains m && chainOk A C then altsOf is A m C C.length else none
  | none => none
def plainD : List (IOper × List IOper) → Option (List IOper)
  | [] => some []
  | (i, []) :: r => (plainD r).map (i :: ·)
  | _ => none
def comp (P : Program) (rows : List Nat) : Code → Option IC
  | .skip => some .skip
  | .region _ ops false => (compOps P rows ops ops.toList).map .region
  | .region _ ops true => match compOps P rows ops ops.toList with
    | some is => match dcomp P ops is with
      | some l => match plainD l with
        | some is => some (.region is)
        | none => some (.dregion l)
      | none => match dcompA P ops is with
        | some ls => some (.dalts ls)
        | none => none
    | none => none
  | .seq a b => match comp P rows a, comp P rows b with
    | some a, some b => some (.seq a b)
    | _, _ => none
  | .cond X a b => match copd P 0 X, comp P rows a, comp P rows b with
    | some x, some a, some b => some (.cond x a b)
    | _, _, _ => none
  | .block id b => (comp P rows b).map (.block id)
  | .loop b => (comp P rows b).map .loop
  | .exit id => some (.exit id)
  | .ret => some .ret
  | .label _ => some .skip
  | .scope c => comp P rows c
  | _ => none

/-! what is shown of calls and code -/
def callable (P : Program) (f : FuncId) : Prop := ∃ fn, P.funcs[f]? = some fn ∧ fn.body.isNone = false ∧ (fn.name == "runtime.NumGoroutine") = false
def Call (P : Program) (w0 : World) (f : FuncId) (args : List AV) (h : AH) (Q : AV → AH → Prop) : Prop :=
  callable P f ∧ ∀ (Γ : Con) (w : World) (vs : List Value), WR w0 Γ h w → RVs Γ args vs → Calls P f vs.toArray w fun e w' => ∃ x Γ' v h', e = .returned x ∧ Γ.le Γ' ∧ RV Γ' v x ∧ WR w0 Γ' h' w' ∧ Q v h'
theorem Call.mono {P : Program} {w0 : World} {f : FuncId} {args : List AV} {h : AH} {Q Q' : AV → AH → Prop} (hc : Call P w0 f args h Q) (hq : ∀ v h', Q v h' → Q' v h') : Call P w0 f args h Q' :=
  ⟨hc.1, fun Γ w vs H hv => (hc.2 Γ w vs H hv).mono fun e w' ⟨x, Γ', v, h', h1, h2, h3, h4, h5⟩ => ⟨x, Γ', v, h', h1, h2, h3, h4, hq v h' h5⟩⟩

/-- Every function, to whatever depth; outside of rounds, or in the round of a loop over a function. -/
def fen (ro : Option Nat) : Fence := { Fence.wide with round := ro }
theorem fen_calls {ro : Option Nat} {n : Nat} {P : Program} {f : FuncId} {args : Array Value} {w : World} {R : Ending → World → Prop} : CallsIn (fen ro) n P f args w R ↔ Calls P f args w R := callsIn_wide (n := n)
theorem put_defers (a : Act) (d : Option Nat) (x : Value) : (a.put d x).defers = a.defers := by cases d <;> rfl
def Post (w0 : World) (D : List Deferred) (Γ : Con) (Q : AExit → List AV → AH → Prop) : Exit → Act → World → Prop := fun e a w =>
  a.defers = D ∧ ∃ ae Γ' fr h, exitOf e ae ∧ Γ.le Γ' ∧ FR Γ' fr a ∧ WR w0 Γ' h w ∧ Q ae fr h
def W (P : Program) (w0 : World) (c : Code) (Q : AExit → List AV → AH → Prop) (fr : List AV) (h : AH) : Prop :=
  ∀ (ro : Option Nat) (Γ : Con) (w : World) (a : Act), WR w0 Γ h w → FR Γ fr a → c.wpIn (fen ro) 0 P (Post w0 a.defers Γ Q) a w
/-- A loop over compiled code. -/
def Lp (P : Program) (w0 : World) (b : IC) (Q : AExit → List AV → AH → Prop) (fr : List AV) (h : AH) : Prop :=
  ∀ (rows : List Nat) (c : Code), comp P rows c = some b → W P w0 (.loop c) Q fr h

def wantd (g : Option (Nat × Bool)) (fr : List AV) : Bool :=
  match g with
  | none => true
  | some (d, b) => match fr.getD d (.v undef) with
    | .v (.bool t) => t == b
    | _ => false
/-- An append to a row that is an object of which the capacity is known. -/
def AppR (sz eb : Nat) (h : AH) (id off len : Nat) (cap : Option Nat) (src : Option (List (List AV))) (K : AV → AH → Prop) : Prop :=
  ∃ c cs new, cap = some c ∧ h.objs id = some (.cells cs) ∧ src = some new ∧ off = 0 ∧ len ≤ c ∧ c * sz ≤ cs.length ∧ (len + new.length) * eb ≤ 140737488355328 ∧
    (new = [] → K (.row id 0 len (some c)) h) ∧
    (new ≠ [] → len + new.length ≤ c → K (.row id 0 (len + new.length) (some c)) (h.set id (.cells (wrL cs (len * sz) new.flatten)))) ∧
    (c < len + new.length → ∀ C spare, len + new.length ≤ C → spare.length = (C - (len + new.length)) * sz → K (.row h.n 0 (len + new.length) (some C)) (h.alloc (.cells (cs.take (len * sz) ++ (new.flatten ++ spare)))))
theorem AppR.mono {sz eb : Nat} {h : AH} {id off len : Nat} {cap : Option Nat} {src : Option (List (List AV))} {K K' : AV → AH → Prop} (hK : ∀ v h', K v h' → K' v h') (hv : AppR sz eb h id off len cap src K) : AppR sz eb h id off len cap src K' := by
  obtain ⟨c, cs, new, h1, h2, h3, h4, h5, h6, h7, h8, h9, h10⟩ := hv
  exact ⟨c, cs, new, h1, h2, h3, h4, h5, h6, h7, fun a => hK _ _ (h8 a), fun a b => hK _ _ (h9 a b), fun a C s b d => hK _ _ (h10 a C s b d)⟩
/-- A round of a loop over a function, from the function's side. -/
def Yld (P : Program) (w0 : World) (l : Nat) (args : List AV) (h : AH) (K : AV → AH → Prop) : Prop :=
  ∀ (Γ : Con) (w : World) (vs : List Value), WR w0 Γ h w → RVs Γ args vs → ∃ f tmps asg body, (Instr.yield l vs.toArray).run P w = .ok (.round l f tmps asg body) w ∧
    RoundIn (fen none) 0 P l f tmps asg body w fun e w' => ∃ x Γ' v h', e = .returned x ∧ Γ.le Γ' ∧ RV Γ' v x ∧ WR w0 Γ' h' w' ∧ K v h'
theorem Yld.mono {P : Program} {w0 : World} {l : Nat} {args : List AV} {h : AH} {K K' : AV → AH → Prop} (hK : ∀ v h', K v h' → K' v h') (hv : Yld P w0 l args h K) : Yld P w0 l args h K' := fun Γ w vs H ha => by
  obtain ⟨f, tmps, asg, body, h1, h2⟩ := hv Γ w vs H ha
  exact ⟨f, tmps, asg, body, h1, h2.mono fun e w' ⟨x, Γ', v, h', a, b, c, d, e⟩ => ⟨x, Γ', v, h', a, b, c, d, hK _ _ e⟩⟩
def vcOp (P : Program) (w0 : World) (op : IOp) (fr : List AV) (h : AH) (K : AV → AH → Prop) : Prop :=
  match op with
  | .app sz eb x y => match ev fr x with
    | .row id off len cap => AppR sz eb h id off len cap (srcRows sz h (ev fr y)) K
    | _ => match istep (.app sz eb x y) (ev fr) h with
      | some (v, h') => K v h'
      | none => False
  | .call f xs => Call P w0 f (xs.map (ev fr)) h K
  | .callv x xs => match ev fr x with
    | .func (.func f) first caps => Call P w0 f (first ++ xs.map (ev fr) ++ caps) h K
    | .func (.yield l) [] [] => Yld P w0 l (xs.map (ev fr)) h K
    | _ => False
  | op => match istep op (ev fr) h with
    | some (v, h') => K v h'
    | none => False
def vcOps (P : Program) (w0 : World) : List IOper → (List AV → AH → Prop) → List AV → AH → Prop
  | [], Q, fr, h => Q fr h
  | o :: os, Q, fr, h => if wantd o.guard fr then vcOp P w0 o.op fr h fun v h' => vcOps P w0 os Q (put fr o.dst v) h' else vcOps P w0 os Q (put fr o.dst (.v undef)) h
/-- What an operation yielded it yields yet. -/
def stab (o : IOper) (fr : List AV) (h : AH) : Prop :=
  if wantd o.guard fr then match istep o.op (ev fr) h with
    | some (v, _) => match o.dst with
      | some d => fr.getD d (.v undef) = v
      | none => True
    | none => False
  else True
def stabs : List IOper → List AV → AH → Prop
  | [], _, _ => True
  | o :: os, fr, h => stab o fr h ∧ stabs os fr h
def vcD (P : Program) (w0 : World) : List (IOper × List IOper) → (List AV → AH → Prop) → List AV → AH → Prop
  | [], Q, fr, h => Q fr h
  | (o, cs) :: os, Q, fr, h => if wantd o.guard fr then vcOp P w0 o.op fr h fun v h' => stabs cs (put fr o.dst v) h' ∧ vcD P w0 os Q (put fr o.dst v) h' else vcD P w0 os Q (put fr o.dst (.v undef)) h
def seqQ (K : List AV → AH → Prop) (Q : AExit → List AV → AH → Prop) : AExit → List AV → AH → Prop
  | .normal, fr, h => K fr h
  | e, fr, h => Q e fr h
def blkQ (id : Nat) (Q : AExit → List AV → AH → Prop) : AExit → List AV → AH → Prop
  | .exit i, fr, h => if i = id then Q .normal fr h else Q (.exit i) fr h
  | e, fr, h => Q e fr h
def vc (P : Program) (w0 : World) : IC → (AExit → List AV → AH → Prop) → List AV → AH → Prop
  | .skip, Q, fr, h => Q .normal fr h
  | .region ops, Q, fr, h => vcOps P w0 ops (Q .normal) fr h
  | .dregion ops, Q, fr, h => vcD P w0 ops (Q .normal) fr h
  | .dalts ls, Q, fr, h => ∀ l ∈ ls, vcD P w0 l (Q .normal) fr h
  | .seq a b, Q, fr, h => vc P w0 a (seqQ (vc P w0 b Q) Q) fr h
  | .cond x a b, Q, fr, h => match ev fr x with
    | .v (.bool t) => if t then vc P w0 a Q fr h else vc P w0 b Q fr h
    | _ => False
  | .block id b, Q, fr, h => vc P w0 b (blkQ id Q) fr h
  | .loop b, Q, fr, h => Lp P w0 b Q fr h
  | .exit id, Q, fr, h => Q (.exit id) fr h
  | .ret, Q, fr, h => Q .ret fr h

section
variable {P : Program} {w0 : World}

theorem Post.weaken {D : List Deferred} {Γ Γ' : Con} (hl : Γ.le Γ') {Q : AExit → List AV → AH → Prop} {e : Exit} {a : Act} {w : World} (h : Post w0 D Γ' Q e a w) : Post w0 D Γ Q e a w := by
  obtain ⟨hd, ae, Γ'', fr, h', h1, h2, h3, h4, h5⟩ := h
  exact ⟨hd, ae, Γ'', fr, h', h1, hl.trans h2, h3, h4, h5⟩

theorem compOper_inv {rows : List Nat} {ops : Array Oper} {o : Oper} {i : IOper} (hc : compOper P rows ops o = some i) :
    i.dst = o.dst ∧ compGuard ops o.guard = some i.guard ∧ (callOf P o.op = some i.op ∨ compOp P rows o = some i.op ∧ i.op.isCall = false) := by
  unfold compOper at hc
  split at hc
  · rename_i g hg
    split at hc
    · rename_i ip hip
      injection hc with hc
      subst hc
      exact ⟨rfl, hg, .inl hip⟩
    · split at hc
      · rename_i ip hip
        split at hc
        · cases hc
        · rename_i hn
          injection hc with hc
          subst hc
          exact ⟨rfl, hg, .inr ⟨hip, by simpa using hn⟩⟩
      · cases hc
  · cases hc
theorem wantd_eq {ops : Array Oper} {o : Oper} {g : Option (Nat × Bool)} (hg : compGuard ops o.guard = some g) {Γ : Con} {fr : List AV} {a : Act} (hf : FR Γ fr a) : Region.wanted o (yielded ops a.tmps) = wantd g fr := by
  unfold compGuard at hg
  split at hg
  · rename_i hgd
    injection hg with hg
    subst hg
    simp [Region.wanted, hgd, wantd]
  · rename_i j b hgd
    split at hg
    · rename_i o' ho'
      split at hg
      · rename_i d hd
        injection hg with hg
        subst hg
        simp only [Region.wanted, hgd, wantd, yielded, ho', Option.bind_some, hd]
        by_cases hdl : d < fr.length
        · have hda : d < a.tmps.size := by rw [hf.size]; exact hdl
          have hrv := hf.at_ d hdl hda
          rw [Array.getElem?_eq_getElem hda, List.getD_eq_getElem?_getD, List.getElem?_eq_getElem hdl]
          simp only [Option.getD_some]
          generalize a.tmps[d] = x at hrv
          generalize fr[d] = y at hrv
          cases hrv with
          | v x => cases x <;> simp
          | _ => simp
        · have hdn : fr.length ≤ d := Nat.le_of_not_lt hdl
          rw [Array.getElem?_eq_none (by rw [hf.size]; exact hdn), List.getD_eq_getElem?_getD, List.getElem?_eq_none hdn]
          simp [undef]
      · cases hg
    · cases hg

/-- A call's operation. -/
theorem op_call {ro : Option Nat} {o : Oper} {a : Act} {w : World} {f : FuncId} {vs : List Value} (hnd : ∀ c, o.op ≠ .defer c) (hr : (execOp a.eval o).run P w = .ok (.enter f vs.toArray) w) {next : Act → World → Prop} {Q : Exit → Act → World → Prop} (hc : Calls P f vs.toArray w fun e w' => ∃ x, e = .returned x ∧ next (a.put o.dst x) w') : o.wpIn (fen ro) 0 P a w next Q := by
  refine ⟨fun _ _ => trivial, ?_⟩
  rw [Oper.semAt_eq _ _ _ hnd, hr]
  refine ⟨(fun h => by cases h), fen_calls.2 (hc.mono fun e w' hh => ?_)⟩
  obtain ⟨x, rfl, hx⟩ := hh
  exact hx
theorem op_plain {ro : Option Nat} {o : Oper} {a : Act} {w w' : World} (hnd : ∀ c, o.op ≠ .defer c) {next : Act → World → Prop} {Q : Exit → Act → World → Prop} {x : Value} (hr : (execOp a.eval o).run P w = .ok (.value x) w' ∨ (execOp a.eval o).run P w = .ok .skip w' ∧ x = undef) (hn : next (a.put o.dst x) w') : o.wpIn (fen ro) 0 P a w next Q := by
  refine ⟨fun _ _ => trivial, ?_⟩
  rw [Oper.semAt_eq _ _ _ hnd]
  rcases hr with hr | ⟨hr, rfl⟩
  · rw [hr]; exact hn
  · rw [hr]; exact hn
theorem comp_nodefer {rows : List Nat} {o : Oper} {i : IOp} (hc : compOp P rows o = some i) : ∀ c, o.op ≠ .defer c := by
  intro c h
  unfold compOp at hc
  rw [h] at hc
  cases hc
theorem run_callFunc {f : FuncId} (hf : callable P f) (args : Array Value) (w : World) : (callFunc f args).run P w = .ok (.enter f args) w := by
  obtain ⟨fn, h1, h2, h3⟩ := hf
  unfold callFunc
  simp only [Sem.run_bind, run_program, Result.andThen_ok, h1, h3, h2, Bool.false_eq_true, if_false, Sem.run_pure]
theorem callOf_inv {op : Op} {i : IOp} (hc : callOf P op = some i) : (∃ f xs args ts, i = .call f xs ∧ op = .call { callee := .value (.func f), args := args, argTypes := ts } ∧ cargs P ts.toList args.toList = some xs) ∨
    ∃ x xs X args ts, i = .callv x xs ∧ op = .call { callee := .value X, args := args, argTypes := ts } ∧ copd P 0 X = some x ∧ cargs P ts.toList args.toList = some xs := by
  unfold callOf at hc
  split at hc
  · simp only [Option.map_eq_some_iff] at hc
    obtain ⟨xs, hxs, rfl⟩ := hc
    exact .inl ⟨_, _, _, _, rfl, rfl, hxs⟩
  · split at hc
    · rename_i hx hxs
      injection hc with hc
      subst hc
      exact .inr ⟨_, _, _, _, _, rfl, rfl, hx, hxs⟩
    · cases hc
  · cases hc
theorem app_inv {rows : List Nat} {o : Oper} {sz eb : Nat} {x y : Opd} (hc : compOp P rows o = some (.app sz eb x y)) {Γ : Con} {fr : List AV} {a : Act} (hf : FR Γ fr a) :
    ∃ t u X Y, o.op = .call { callee := .builtin .append, args := #[X, Y], argTypes := #[t, u] } ∧ (∃ e i z, P.underlying t = some (.slice e) ∧ P.info? e = some i ∧ i.zero = some z ∧ i.size = sz ∧ z.cells.size = sz ∧ i.bytes = eb ∧ z.cells.toList.all (·.oneCell') = true) ∧ slOrStr P u ∧ 0 < eb ∧ RV Γ (ev fr x) (a.eval X) ∧ RV Γ (ev fr y) (a.eval Y) := by
  have c1n : ∀ {t X} {f : Opd → IOp}, (∀ z, f z ≠ .app sz eb x y) → c1 P t X f ≠ some (.app sz eb x y) := fun hn hh => by
    obtain ⟨z, e, _⟩ := c1_inv hh hf
    exact hn z e.symm
  have c2n : ∀ {t X u Y} {f : Opd → Opd → IOp}, (∀ z w, f z w ≠ .app sz eb x y) → c2 P t X u Y f ≠ some (.app sz eb x y) := fun hn hh => by
    obtain ⟨z, w, e, _⟩ := c2_inv hh hf
    exact hn z w e.symm
  have c3n : ∀ {t X u Y s Z} {f : Opd → Opd → Opd → IOp}, (∀ z w v, f z w v ≠ .app sz eb x y) → c3 P t X u Y s Z f ≠ some (.app sz eb x y) := fun hn hh => by
    obtain ⟨z, w, v, e, _⟩ := c3_inv hh hf
    exact hn z w v e.symm
  unfold compOp at hc
  split at hc <;> rename_i hop
  case h_29 c =>
    obtain ⟨callee, args, ts⟩ := c
    unfold compCall at hc
    split at hc <;> rename_i hcal <;> (try (simp only at hcal; subst hcal))
    case h_3 =>
      split at hc
      · rename_i X Y t u hargs hts
        simp only at hargs hts
        obtain rfl := toList2 hargs
        obtain rfl := toList2 hts
        have key : ∀ el, P.underlying t = some (.slice el) → slOrStr P u → (match P.info? el with
            | some i => match i.zero with
              | some z => if z.cells.size == i.size && i.bytes != 0 && z.cells.toList.all (·.oneCell') then c2 P t X u Y (.app i.size i.bytes) else none
              | none => none
            | none => none) = some (.app sz eb x y) → ∃ t u X Y, o.op = .call { callee := .builtin .append, args := #[X, Y], argTypes := #[t, u] } ∧ (∃ e i z, P.underlying t = some (.slice e) ∧ P.info? e = some i ∧ i.zero = some z ∧ i.size = sz ∧ z.cells.size = sz ∧ i.bytes = eb ∧ z.cells.toList.all (·.oneCell') = true) ∧ slOrStr P u ∧ 0 < eb ∧ RV Γ (ev fr x) (a.eval X) ∧ RV Γ (ev fr y) (a.eval Y) := by
          intro el hu hxt hc
          split at hc
          · rename_i inf hin
            split at hc
            · rename_i z hz
              split at hc
              · rename_i hb
                simp only [Bool.and_eq_true, beq_iff_eq, bne_iff_ne, ne_eq] at hb
                obtain ⟨x', y', e, hx, hy⟩ := c2_inv hc hf
                injection e with e1 e2 e3 e4
                subst e1; subst e2; subst e3; subst e4
                exact ⟨_, _, _, _, hop, ⟨_, _, _, hu, hin, hz, rfl, hb.1.1, rfl, hb.2⟩, hxt, Nat.pos_of_ne_zero hb.1.2, hx, hy⟩
              · cases hc
            · cases hc
          · cases hc
        split at hc
        · rename_i hu hv; exact key _ hu (.inl ⟨_, hv⟩) hc
        · rename_i hu hv; exact key _ hu (.inr hv) hc
        · cases hc
      · cases hc
    all_goals (repeat' split at hc) <;> first
      | (cases hc; done)
      | (exact absurd hc (c1n (fun z e => by cases e)))
      | (exact absurd hc (c2n (fun z w e => by cases e)))
      | (simp only [Option.map_eq_some_iff] at hc; obtain ⟨_, _, hc⟩ := hc; cases hc)
  all_goals (repeat' split at hc) <;> first
    | (cases hc; done)
    | (exact absurd hc (c1n (fun z e => by cases e)))
    | (exact absurd hc (c2n (fun z w e => by cases e)))
    | (exact absurd hc (c3n (fun z w v e => by cases e)))
    | (simp only [Option.map_eq_some_iff] at hc; obtain ⟨_, _, hc⟩ := hc; (repeat' split at hc) <;> cases hc)
    | (injection hc with hc; (repeat' split at hc) <;> cases hc)
/-- What an append to a row comes to. -/
theorem run_appR {t tx ty e : TypeId} {i : TypeInfo} {z : Value} {sz eb : Nat} (hte : P.underlying t = some (.slice e)) (hi : P.info? e = some i) (hz : i.zero = some z) (hsz : i.size = sz) (hzs : z.cells.size = sz) (hib : i.bytes = eb) (hz1 : z.cells.toList.all (·.oneCell') = true)
    (hxt : slOrStr P tx) (heb : 0 < eb) {Γ : Con} {h : AH} {w : World} (H : WR w0 Γ h w) {id off len : Nat} {cap : Option Nat} {A : AV} {x y : Value} (hx : RV Γ (.row id off len cap) x) (hy : RV Γ A y) {K : AV → AH → Prop} (hv : AppR sz eb h id off len cap (srcRows sz h A) K) :
    ∃ Γ' v w' a h', (Builtin.append_ #[t, tx] ty #[x, y]).run P w = .ok v w' ∧ Γ.le Γ' ∧ RV Γ' a v ∧ WR w0 Γ' h' w' ∧ K a h' := by
  obtain ⟨c, cs, new, rfl, ho, hsrc, rfl, hlc, hcs, hbd, hk0, hk1, hk2⟩ := hv
  subst hsz; subst hib
  obtain ⟨ns, hly, hfn, hcn, hnl, hnsz, _⟩ := srcRows_sound (P := P) H hsrc hy
  obtain ⟨b, c', hb, rfl, _, hcap⟩ := hx.inv_row
  obtain rfl := hcap c rfl
  by_cases hne : new = []
  · subst hne
    have hn0 : ns = [] := List.eq_nil_of_length_eq_zero (by simpa using hnl)
    subst hn0
    exact ⟨Γ, _, w, _, h, append_none hte hi hxt hly (hfn w (fun a v hv => hv)) hlc, .refl Γ, hx, H, hk0 rfl⟩
  · have hfl : new.flatten.length = new.length * i.size := flat_len hnsz
    by_cases hroom : len + new.length ≤ c
    · have hmul : (len + new.length) * i.size ≤ c * i.size := Nat.mul_le_mul_right _ hroom
      rw [Nat.add_mul] at hmul
      obtain ⟨w', hst, HW⟩ := H.store P ho hb hcn (off := len * i.size) (by rw [hfl]; omega)
      have hrun := append_room (ty := ty) hte hi hxt hly (hfn w (fun a v hv => hv)) hroom (b := b) (o := 0) (by rw [Nat.zero_add]; exact hst)
      exact ⟨Γ, _, w', _, _, hrun, .refl Γ, .row hb hroom (fun k hk => by cases hk; rfl), HW, hk1 hne hroom⟩
    · obtain ⟨b2, hb2, hge, ⟨vs, el, fr, hh, hl, hat⟩, hF⟩ := H.obj ho
      obtain rfl : b = b2 := by rw [hb] at hb2; injection hb2
      have hlen0 : len * i.size ≤ cs.length := Nat.le_trans (Nat.mul_le_mul_right _ hlc) hcs
      have hus : (vs.toList.take (len * i.size)).length = len * i.size := by rw [List.length_take, Array.length_toList]; omega
      have hcus : Cells Γ (cs.take (len * i.size)) (vs.toList.take (len * i.size)) := by
        refine ⟨by rw [hus, List.length_take]; omega, fun k hk hk' => ?_, fun y hy => ?_⟩
        · simp only [List.length_take, Array.length_toList] at hk hk'
          rw [List.getElem_take, List.getElem_take, Array.getElem_toList]
          exact (hat k (by omega) (by omega)).1
        · obtain ⟨k, hk, rfl⟩ := List.getElem_of_mem hy
          simp only [List.length_take, Array.length_toList] at hk
          rw [List.getElem_take, Array.getElem_toList]
          exact (hat k (by omega) (by omega)).2.1
      have hfo : (Builtin.firstCells i.size len (.slice (some ⟨b, 0, none⟩) len c)).run P w.drew = .ok (vs.toList.take (len * i.size)).toArray w.drew := by
        refine run_firstCells_some (P := P) w.drew _ _ ⟨b, 0, none⟩ _ c _ hus (fun j v hv => ?_)
        rw [addr_add, Nat.zero_add]
        rw [List.getElem?_take] at hv
        split at hv
        · rw [Array.getElem?_toList] at hv
          show w.cell? ⟨b, j, none⟩ = some v
          simp only [World.cell?, hh]
          exact hv
        · cases hv
      have hrun := append_grow (ty := ty) hte hi hz hxt hly hfo (hfn w.drew (fun a v hv => hv)) (by omega) hbd heb
      have hcapg := grownCap_ge w (len + new.length) c e
      generalize hcapv : grownCap w (len + new.length) c e = C at hrun hcapg
      have hzl : (Builtin.zeroCells z.cells (C - (len + new.length))).size = (C - (len + new.length)) * i.size := by simp [size_zeroCells, hzs]
      have hz0 : Cells Γ (z.cells.toList.map AV.v) z.cells.toList := by
        refine ⟨by simp, fun k hk hk' => ?_, fun y hy => List.all_eq_true.1 hz1 y hy⟩
        rw [List.getElem_map]; exact .v _
      have hspare : Cells Γ ((List.replicate (C - (len + new.length)) (z.cells.toList.map AV.v)).flatten) (Builtin.zeroCells z.cells (C - (len + new.length))).toList := litCells hz0 _
      have hspl : ((List.replicate (C - (len + new.length)) (z.cells.toList.map AV.v)).flatten).length = (C - (len + new.length)) * i.size := by
        rw [← hspare.len, Array.length_toList, hzl]
      have hall := hcus.append (hcn.append hspare)
      have HN := H.drew.new (.cells ((vs.toList.take (len * i.size) ++ ns).toArray ++ Builtin.zeroCells z.cells (C - (len + new.length))) e) (.cells (cs.take (len * i.size) ++ (new.flatten ++ (List.replicate (C - (len + new.length)) (z.cells.toList.map AV.v)).flatten)))
        (fun w' hw' => objAt_cells hw' (by
          have e1 : ((vs.toList.take (len * i.size) ++ ns).toArray ++ Builtin.zeroCells z.cells (C - (len + new.length))).toList = vs.toList.take (len * i.size) ++ (ns ++ (Builtin.zeroCells z.cells (C - (len + new.length))).toList) := by simp
          rw [e1]
          exact hall.mono (H.drew.le_obj _)))
      refine ⟨_, _, _, _, _, hrun, H.drew.le_obj _, .row (b := w.heap.size) (by simp [Con.withObj]) hcapg (fun k hk => by cases hk; rfl), HN, hk2 (by omega) C _ hcapg hspl⟩
/-- One operation, and what follows. -/
theorem vcOp_sound {rows : List Nat} {ops : Array Oper} {o : Oper} {i : IOper} (hc : compOper P rows ops o = some i) {Γ : Con} {h : AH} {w : World} {fr : List AV} {a : Act} (H : WR w0 Γ h w) (hf : FR Γ fr a) {K : AV → AH → Prop} (hv : vcOp P w0 i.op fr h K) {next : Act → World → Prop} {Q : Exit → Act → World → Prop}
    (hn : ∀ v h' Γ' x w', K v h' → Γ.le Γ' → RV Γ' v x → WR w0 Γ' h' w' → next (a.put o.dst x) w') {ro : Option Nat} : o.wpIn (fen ro) 0 P a w next Q := by
  obtain ⟨hd, hg, hop⟩ := compOper_inv hc
  rcases hop with hcall | ⟨hco, hnc⟩
  · rcases callOf_inv hcall with ⟨f, xs, args, ts, hi, hop, hxs⟩ | ⟨x, xs, X, args, ts, hi, hop, hx, hxs⟩
    · rw [hi] at hv
      simp only [vcOp] at hv
      have hrv := cargs_inv hf hxs
      refine op_call (f := f) (vs := args.toList.map a.eval) (fun c h => by rw [hop] at h; cases h) ?_ ((hv.2 Γ w _ H hrv).mono fun e w' hh => ?_)
      · unfold execOp
        simp only [hop, resolve, Act.eval, Deferred.ofValue, Sem.run_bind, Sem.run_pure, Result.andThen_ok, invoke]
        rw [run_callFunc hv.1]
        have e : args.map a.eval = (args.toList.map a.eval).toArray := by apply Array.ext'; simp
        simp [e]
      · obtain ⟨y, Γ', v, h', h1, h2, h3, h4, h5⟩ := hh
        exact ⟨y, h1, hn v h' Γ' y w' h5 h2 h3 h4⟩
    · rw [hi] at hv
      simp only [vcOp] at hv
      split at hv
      · rename_i f first caps hxv
        have hrv := cargs_inv hf hxs
        have hxr := hf.eval hx
        rw [hxv] at hxr
        obtain ⟨vf, vcs, hX, h1, h2, h3, h4⟩ := hxr.inv_func
        have r1 : RVs Γ first vf.toList := ⟨by simpa using h1, fun i hi hi' => by rw [Array.getElem_toList]; exact h3 i hi (by simpa using hi')⟩
        have r2 : RVs Γ caps vcs.toList := ⟨by simpa using h2, fun i hi hi' => by rw [Array.getElem_toList]; exact h4 i hi (by simpa using hi')⟩
        refine op_call (f := f) (vs := vf.toList ++ args.toList.map a.eval ++ vcs.toList) (fun c h => by rw [hop] at h; cases h) ?_ ((hv.2 Γ w _ H ((r1.append hrv).append r2)).mono fun e w' hh => ?_)
        · unfold execOp
          simp only [hop, resolve, hX, Deferred.ofValue, Sem.run_bind, Sem.run_pure, Result.andThen_ok, invoke]
          rw [run_callFunc hv.1]
          simp
        · obtain ⟨y, Γ', v, h', h1, h2, h3, h4, h5⟩ := hh
          exact ⟨y, h1, hn v h' Γ' y w' h5 h2 h3 h4⟩
      · rename_i l hxv
        have hrv := cargs_inv hf hxs
        have hxr := hf.eval hx
        rw [hxv] at hxr
        obtain ⟨vf, vcs, hX, h1, h2, _, _⟩ := hxr.inv_func
        obtain rfl : vf = #[] := by simpa using h1
        obtain rfl : vcs = #[] := by simpa using h2
        obtain ⟨f, tmps, asg, body, hy, hR⟩ := hv Γ w _ H hrv
        refine ⟨fun _ _ => trivial, ?_⟩
        have hr : (execOp a.eval o).run P w = .ok (.round l f tmps asg body) w := by
          unfold execOp
          simp only [hop, resolve, hX, Deferred.ofValue, Sem.run_bind, Sem.run_pure, Result.andThen_ok, invoke]
          have e : (args.toList.map a.eval).toArray = args.map a.eval := by apply Array.ext'; simp
          rw [e] at hy
          simpa using hy
        rw [Oper.semAt_eq _ _ _ (fun c h => by rw [hop] at h; cases h), hr]
        refine ⟨(fun h => by cases h), RoundIn.mono hR fun e w' hh => ?_⟩
        obtain ⟨y, Γ', v, h', rfl, h2, h3, h4, h5⟩ := hh
        exact hn v h' Γ' y w' h5 h2 h3 h4
      · exact hv.elim
  · by_cases hAR : ∃ sz eb x y id off len cap, i.op = .app sz eb x y ∧ ev fr x = .row id off len cap
    · obtain ⟨sz, eb, x, y, id, off, len, cap, hio, hxr⟩ := hAR
      rw [hio] at hv hco
      simp only [vcOp, hxr] at hv
      obtain ⟨t, u, X, Y, hop, ⟨e, inf, z, hte, hi, hz, hsz, hzs, hib, hz1⟩, hxt, heb, hx, hy⟩ := app_inv hco hf
      rw [hxr] at hx
      obtain ⟨cn, hex⟩ := exec_builtin (a := a) hop
      obtain ⟨Γ', v, w', av, h', hrun, hle, hvx, HW, hk⟩ := run_appR (ty := o.type) hte hi hz hsz hzs hib hz1 hxt heb H hx hy hv
      have hr : (execOp a.eval o).run P w = .ok (.value v) w' := by
        rw [hex]
        simp only [builtin, List.map_toArray, List.map_cons, List.map_nil, Sem.run_bind, hrun, Result.andThen_ok, Sem.run_pure]
      exact op_plain (comp_nodefer hco) (.inl hr) (hn av h' Γ' v w' hk hle hvx HW)
    have hv2 : ∃ v h', istep i.op (ev fr) h = some (v, h') ∧ K v h' := by
      unfold vcOp at hv
      split at hv
      · rename_i sz eb x y e
        rw [e]
        split at hv
        · rename_i hxr
          exact absurd ⟨_, _, _, _, _, _, _, _, e, hxr⟩ hAR
        · split at hv
          · rename_i v h' he; exact ⟨v, h', he, hv⟩
          · exact hv.elim
      · rename_i e; rw [e] at hnc; simp [IOp.isCall] at hnc
      · rename_i e; rw [e] at hnc; simp [IOp.isCall] at hnc
      · split at hv
        · rename_i v h' he; exact ⟨v, h', he, hv⟩
        · exact hv.elim
    obtain ⟨v, h', he, hk⟩ := hv2
    obtain ⟨Γ', x, w', hr, hl, hvx, HW⟩ := step_sound hco H hf he
    exact op_plain (comp_nodefer hco) hr (hn v h' Γ' x w' hk hl hvx HW)
theorem vcOps_sound {rows : List Nat} {ops : Array Oper} : ∀ {os : List Oper} {is : List IOper}, compOps P rows ops os = some is → ∀ {Γ Γ0 : Con} {h : AH} {w : World} {fr : List AV} {a : Act}, WR w0 Γ h w → FR Γ fr a → Γ0.le Γ → ∀ {Q : AExit → List AV → AH → Prop} {D : List Deferred} {ro : Option Nat}, a.defers = D →
    vcOps P w0 is (Q .normal) fr h → wpListIn (fen ro) 0 P ops (Post w0 D Γ0 Q) os a w
  | [], is, hc, Γ, Γ0, h, w, fr, a, H, hf, hl, Q, D, ro, hD, hv => by
    simp only [compOps, Option.some.injEq] at hc
    subst hc
    exact ⟨hD, .normal, Γ, fr, h, trivial, hl, hf, H, hv⟩
  | o :: os, is, hc, Γ, Γ0, h, w, fr, a, H, hf, hl, Q, D, ro, hD, hv => by
    simp only [compOps] at hc
    split at hc
    · rename_i i is' hi his
      injection hc with hc
      subst hc
      obtain ⟨hd, hg, _⟩ := compOper_inv hi
      simp only [vcOps] at hv
      simp only [wpListIn, wantd_eq hg hf]
      cases hw : wantd i.guard fr with
      | true =>
        rw [hw] at hv
        simp only [if_true] at hv ⊢
        refine vcOp_sound hi H hf hv fun v h' Γ' x w' hk hl' hvx HW => ?_
        refine vcOps_sound his HW ?_ (hl.trans hl') ((put_defers _ _ _).trans hD) hk
        rw [hd]
        exact (hf.mono hl').put hvx o.dst
      | false =>
        rw [hw] at hv
        simp only [Bool.false_eq_true, if_false] at hv ⊢
        refine ⟨fun _ _ => trivial, vcOps_sound his H ?_ hl ((put_defers _ _ _).trans hD) hv⟩
        rw [hd]
        exact hf.put (.v _) o.dst
    · cases hc
end
end Go.Abs
