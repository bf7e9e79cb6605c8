/- A program logic over abstract states, 11: the compact operation that an operation of the model comes to. -/
import Derived.Test.YtnpdmkbfphcioaaGreatDoorAbsJ
namespace Go.Abs
open Go Go.RowKit
set_option linter.unusedVariables false
set_option linter.unusedSimpArgs false

def c1 (P : Program) (t : TypeId) (X : Operand) (f : Opd → IOp) : Option IOp := (copd P t X).map f
def c2 (P : Program) (t : TypeId) (X : Operand) (u : TypeId) (Y : Operand) (f : Opd → Opd → IOp) : Option IOp :=
  match copd P t X, copd P u Y with
  | some x, some y => some (f x y)
  | _, _ => none
def c3 (P : Program) (t : TypeId) (X : Operand) (u : TypeId) (Y : Operand) (s : TypeId) (Z : Operand) (f : Opd → Opd → Opd → IOp) : Option IOp :=
  match copd P t X, copd P u Y, copd P s Z with
  | some x, some y, some z => some (f x y z)
  | _, _, _ => none
def copt (P : Program) : Option Operand → Option (Option Opd)
  | none => some none
  | some X => (copd P 0 X).map some
def clist (P : Program) : List Operand → Option (List Opd)
  | [] => some []
  | X :: Xs => match copd P 0 X, clist P Xs with
    | some x, some xs => some (x :: xs)
    | _, _ => none
/-- arguments, each at its type -/
def cargs (P : Program) : List TypeId → List Operand → Option (List Opd)
  | _, [] => some []
  | ts, X :: Xs => match copd P (ts.headD 0) X, cargs P ts.tail Xs with
    | some x, some xs => some (x :: xs)
    | _, _ => none
def szsOf (P : Program) : Nat → TypeId → List Nat
  | 0, _ => []
  | d + 1, t => match P.underlying t with
    | some (.struct fs) => (fs.toList.map fun f => szsOf P d f.type).flatten
    | some (.array n e) => (List.replicate n (szsOf P d e)).flatten
    | some (.slice e) => [P.cellsOf e]
    | _ => [0]
def zeroOf (P : Program) (t : TypeId) : Option (List AV) :=
  match P.info? t with
  | some i => match i.zero with
    | some z => if z.cells.toList.all (·.oneCell') then some (zeroA (szsOf P 20 t) z.cells.toList) else none
    | none => none
  | none => none
/-- The zero value of a type, whole. -/
def zeroV (P : Program) (t : TypeId) : Option AV :=
  match P.info? t with
  | some i => match i.zero with
    | some (.agg cs) => if cs.toList.all (·.oneCell') then some (.agg (zeroA (szsOf P 20 t) cs.toList)) else none
    | some (.slice none 0 0) => some (.list (elSz P t) [] .full)
    | some z => some (.v z)
    | none => none
  | none => none
def cpartsS (P : Program) (fs : Array Field) : List (Nat × Operand) → Option (List (Nat × Nat × Opd))
  | [] => some []
  | (i, X) :: r => match fs[i]? with
    | some f => match P.info? f.type, copd P f.type X, cpartsS P fs r with
      | some inf, some x, some ps => some ((f.offset, inf.size, x) :: ps)
      | _, _, _ => none
    | none => none
def cpartsA (P : Program) (e : TypeId) (sz : Nat) : List (Nat × Operand) → Option (List (Nat × Nat × Opd))
  | [] => some []
  | (i, X) :: r => match copd P e X, cpartsA P e sz r with
    | some x, some ps => some ((i * sz, sz, x) :: ps)
    | _, _ => none
def cpartsL (P : Program) (e : TypeId) : List (Nat × Operand) → Option (List (Nat × Opd))
  | [] => some []
  | (i, X) :: r => match copd P e X, cpartsL P e r with
    | some x, some ps => some ((i, x) :: ps)
    | _, _ => none
def isU8 (P : Program) (t : TypeId) : Bool := match P.underlying t with | some (.int .u8) => true | _ => false

def compCall (P : Program) (c : Call) : Option IOp :=
  match c.callee with
  | .builtin .len => match c.args.toList, c.argTypes.toList with
    | [X], [t] => match P.underlying t with
      | some .string => c1 P t X (.len .str)
      | some (.slice _) => c1 P t X (.len .sl)
      | some (.map _ _) => c1 P t X (.len .map)
      | _ => none
    | _, _ => none
  | .builtin .cap => match c.args.toList, c.argTypes.toList with
    | [X], [t] => match P.underlying t with
      | some (.slice _) => c1 P t X .cap
      | _ => none
    | _, _ => none
  | .builtin .append => match c.args.toList, c.argTypes.toList with
    | [X, Y], [t, u] => match P.underlying t, P.underlying u with
      | some (.slice e), some (.slice _) | some (.slice e), some .string => match P.info? e with
        | some i => match i.zero with
          | some z => if z.cells.size == i.size && i.bytes != 0 && z.cells.toList.all (·.oneCell') then c2 P t X u Y (.app i.size i.bytes) else none
          | none => none
        | none => none
      | _, _ => none
    | _, _ => none
  | .builtin .copy => match c.args.toList, c.argTypes.toList with
    | [X, Y], [t, u] => match P.underlying t with
      | some (.slice e) => match P.info? e with
        | some i => c2 P t X u Y (.cpy i.size)
        | none => none
      | _ => none
    | _, _ => none
  | .builtin .min => (clist P c.args.toList).map (.mnx false)
  | .builtin .max => (clist P c.args.toList).map (.mnx true)
  | .builtin .delete => match c.args.toList, c.argTypes.toList with
    | [X, Y], [t, u] => match P.underlying t with
      | some (.map k _) => match ckOf P k with
        | some ck => c2 P t X u Y (.del ck)
        | none => none
      | _ => none
    | _, _ => none
  | .value (.func f) => (cargs P c.argTypes.toList c.args.toList).map (.call f)
  | .value X => match copd P 0 X, cargs P c.argTypes.toList c.args.toList with
    | some x, some xs => some (.callv x xs)
    | _, _ => none
  | _ => none

/-- A type of which the new objects' type is kept in mind: strings.Builder. -/
def keptT (P : Program) (t : TypeId) : Bool := match P.underlying t with
  | some (.struct fs) => match fs[0]? with
    | some f => f.name == "addr" && f.pkgPath == "strings"
    | none => false
  | _ => false
def bldZ : List AV → Bool
  | [.v (.pointer none), .list 1 [] .full] => true
  | _ => false
theorem bldZ_out {z : List AV} (h : bldZ z = true) : z = [.v (.pointer none), .list 1 [] .full] := by
  unfold bldZ at h
  split at h
  · rfl
  · cases h
def compOp (P : Program) (rows : List Nat) (o : Oper) : Option IOp :=
  match o.op with
  | .move X | .assign X => c1 P o.type X .mv
  | .pick C A B => c3 P 0 C o.type A o.type B .pick
  | .alloc e => (zeroOf P e).map fun z => if keptT P e && bldZ z then .newT e z else .new z
  | .box e X => c1 P e X .box
  | .build t ps => match P.underlying t, zeroOf P t with
    | some (.struct fs), some z => if fs.toList.all (fun f => (P.info? f.type).isSome) then (cpartsS P fs ps.toList).map (.build z) else none
    | some (.array _ e), some z => match P.info? e with
      | some i => (cpartsA P e i.size ps.toList).map (.build z)
      | none => none
    | _, _ => none
  | .buildSlice t n ps => match P.underlying t with
    | some (.slice e) => match P.info? e, zeroOf P e, cpartsL P e ps.toList with
      | some i, some z, some qs => if z.length == i.size && i.size != 0 && decide (n * i.size ≤ 2 ^ 24) then
          some (if (o.dst.map fun d => rows.contains d).getD false then .litRow i.size n z qs else .lit i.size n z qs) else none
      | _, _, _ => none
    | _ => none
  | .load t X => match aggSz P t with
    | some s => c1 P 0 X fun x => .load x s
    | none => none
  | .store t X Y => match P.info? t with
    | some i => c2 P 0 X t Y fun x y => .store x y i.size
    | none => none
  | .nilCheck X => c1 P 0 X .nilc
  | .binOp op t X Y _ => match eqOf P t X Y with
    | some k => c2 P t X t Y (.bin op k)
    | none => none
  | .unOp op _ X => c1 P 0 X (.un op)
  | .convert s d X => match P.underlying s, P.underlying d with
    | some (.int _), some (.int k) => c1 P s X (.convI k)
    | some .string, some .string => c1 P s X .convS
    | some .string, some (.slice e) => if isU8 P e then c1 P s X (.s2b ((o.dst.map fun d => rows.contains d).getD false)) else none
    | some (.slice e), some .string => if isU8 P e then c1 P s X .b2s else none
    | _, _ => none
  | .makeInterface t X => match P.underlying t with
    | some (.interface _) => none
    | some _ => c1 P t X (.mki t)
    | none => none
  | .makeFunc fn fs cs => match clist P fs.toList, clist P cs.toList with
    | some fs, some cs => some (.mkf fn fs cs)
    | _, _ => none
  | .makeMap _ none => some .mkm
  | .makeSlice t L C => match P.underlying t with
    | some (.slice e) => match P.info? e, zeroOf P e with
      | some i, some z => if z.length == i.size then c2 P 0 L 0 C (.mks i.size i.bytes z) else none
      | _, _ => none
    | _ => none
  | .slice t X lo hi mx => match P.underlying t with
    | some .string => match copd P t X, copt P lo, copt P hi, mx with
      | some x, some lo, some hi, none => some (.slS x lo hi)
      | _, _, _, _ => none
    | some (.slice e) => match P.info? e with
      | some i => match copd P t X, copt P lo, copt P hi, copt P mx with
        | some x, some lo, some hi, some mx => if mx.isNone || hi.isSome then some (.slL i.size x lo hi mx) else none
        | _, _, _, _ => none
      | none => none
    | some (.array n e) => match P.info? e with
      | some i => match copd P t X, copt P lo, copt P hi, mx with
        | some x, some lo, some hi, none => some (.slA n i.size x lo hi)
        | _, _, _, _ => none
      | none => none
    | _ => none
  | .fieldAddr s X f => match P.underlying s with
    | some (.struct fs) => match fs[f]? with
      | some fd => match P.info? fd.type with
        | some i => if i.size != 0 then c1 P 0 X fun x => .fad x fd.offset else none
        | none => none
      | none => none
    | _ => none
  | .field s X f => match P.underlying s with
    | some (.struct fs) => match fs[f]? with
      | some fd => match aggSz P fd.type with
        | some z => c1 P s X fun x => .fld x fd.offset z
        | none => none
      | none => none
    | _ => none
  | .indexAddr t X I => match P.underlying t with
    | some (.slice e) => match P.info? e with
      | some i => c2 P t X 0 I (.iaL i.size)
      | none => none
    | some (.array n e) => match P.info? e with
      | some i => c2 P 0 X 0 I (.iaA n i.size)
      | none => none
    | _ => none
  | .index t X I => match P.underlying t with
    | some .string => c2 P t X 0 I .ixS
    | some (.array n e) => match P.info? e, aggSz P e with
      | some i, some s => c2 P t X 0 I (.ixA n i.size s.isSome)
      | _, _ => none
    | _ => none
  | .lookup t X K ok => match P.underlying t with
    | some (.map k e) => match ckOf P k, zeroV P e with
      | some ck, some z => c2 P 0 X k K (.look ck z ok)
      | _, _ => none
    | _ => none
  | .mapUpdate t M K X | .insert t M K X => match P.underlying t with
    | some (.map k e) => match ckOf P k with
      | some ck => c3 P 0 M k K e X (.upd ck)
      | none => none
    | _ => none
  | .extract X i => c1 P 0 X fun x => .ext x i
  | .range t X => match P.underlying t with
    | some .string => c1 P t X .rng
    | _ => none
  | .next X true => c1 P 0 X .nxt
  | .call c => compCall P c
  | _ => none

section
variable {P : Program} {w0 : World} {Γ : Con} {h : AH} {w : World} {fr : List AV} {a : Act}

theorem c1_inv {t : TypeId} {X : Operand} {f : Opd → IOp} {i : IOp} (hc : c1 P t X f = some i) (hf : FR Γ fr a) : ∃ x, i = f x ∧ RV Γ (ev fr x) (a.eval X) := by
  simp only [c1, Option.map_eq_some_iff] at hc
  obtain ⟨x, hx, rfl⟩ := hc
  exact ⟨x, rfl, hf.eval hx⟩
theorem c2_inv {t u : TypeId} {X Y : Operand} {f : Opd → Opd → IOp} {i : IOp} (hc : c2 P t X u Y f = some i) (hf : FR Γ fr a) : ∃ x y, i = f x y ∧ RV Γ (ev fr x) (a.eval X) ∧ RV Γ (ev fr y) (a.eval Y) := by
  unfold c2 at hc
  split at hc
  · rename_i x y hx hy
    injection hc with hc
    exact ⟨x, y, hc.symm, hf.eval hx, hf.eval hy⟩
  · cases hc
theorem c3_inv {t u s : TypeId} {X Y Z : Operand} {f : Opd → Opd → Opd → IOp} {i : IOp} (hc : c3 P t X u Y s Z f = some i) (hf : FR Γ fr a) :
    ∃ x y z, i = f x y z ∧ RV Γ (ev fr x) (a.eval X) ∧ RV Γ (ev fr y) (a.eval Y) ∧ RV Γ (ev fr z) (a.eval Z) := by
  unfold c3 at hc
  split at hc
  · rename_i x y z hx hy hz
    injection hc with hc
    exact ⟨x, y, z, hc.symm, hf.eval hx, hf.eval hy, hf.eval hz⟩
  · cases hc
theorem copt_inv {X : Option Operand} {x : Option Opd} (hc : copt P X = some x) (hf : FR Γ fr a) : BndOk Γ (ev fr) x (X.map a.eval) := by
  cases X with
  | none => simp only [copt, Option.some.injEq] at hc; subst hc; exact ⟨trivial⟩
  | some X =>
    simp only [copt, Option.map_eq_some_iff] at hc
    obtain ⟨y, hy, rfl⟩ := hc
    exact ⟨hf.eval hy⟩
/-- Values side by side. -/
structure RVs (Γ : Con) (xs : List AV) (vs : List Value) : Prop where
  len : vs.length = xs.length
  at_ : ∀ (i : Nat) (h : i < xs.length) (h' : i < vs.length), RV Γ xs[i] vs[i]
theorem RVs.nil : RVs Γ [] [] := ⟨rfl, fun i hi => by simp at hi⟩
theorem RVs.cons {x : AV} {v : Value} {xs : List AV} {vs : List Value} (hx : RV Γ x v) (h : RVs Γ xs vs) : RVs Γ (x :: xs) (v :: vs) :=
  ⟨by simp [h.len], fun i hi hi' => by cases i with | zero => exact hx | succ i => exact h.at_ i (by simpa using hi) (by simpa using hi')⟩
theorem RVs.append {xs ys : List AV} {vs us : List Value} (h : RVs Γ xs vs) (h' : RVs Γ ys us) : RVs Γ (xs ++ ys) (vs ++ us) := by
  have hl := h.len; have hl' := h'.len
  refine ⟨by simp [hl, hl'], fun i hi hi' => ?_⟩
  by_cases hlt : i < xs.length
  · rw [List.getElem_append_left hlt, List.getElem_append_left (by omega)]
    exact h.at_ i hlt (by omega)
  · rw [List.getElem_append_right (by omega), List.getElem_append_right (by omega)]
    have := h'.at_ (i - xs.length) (by simp at hi; omega) (by simp at hi'; omega)
    simpa only [hl] using this
theorem RVs.mono {Γ' : Con} (hl : Γ.le Γ') {xs : List AV} {vs : List Value} (h : RVs Γ xs vs) : RVs Γ' xs vs := ⟨h.len, fun i a b => (h.at_ i a b).mono hl⟩
theorem clist_inv (hf : FR Γ fr a) : ∀ {Xs : List Operand} {xs : List Opd}, clist P Xs = some xs → RVs Γ (xs.map (ev fr)) (Xs.map a.eval)
  | [], xs, hc => by simp only [clist, Option.some.injEq] at hc; subst hc; exact .nil
  | X :: Xs, xs, hc => by
    simp only [clist] at hc
    split at hc
    · rename_i x xs' hx hxs
      injection hc with hc
      subst hc
      exact .cons (hf.eval hx) (clist_inv hf hxs)
    · cases hc
theorem cargs_inv (hf : FR Γ fr a) : ∀ {Xs : List Operand} {ts : List TypeId} {xs : List Opd}, cargs P ts Xs = some xs → RVs Γ (xs.map (ev fr)) (Xs.map a.eval)
  | [], ts, xs, hc => by cases ts <;> (simp only [cargs, Option.some.injEq] at hc; subst hc; exact .nil)
  | X :: Xs, ts, xs, hc => by
    simp only [cargs] at hc
    split at hc
    · rename_i x xs' hx hxs
      injection hc with hc
      subst hc
      exact .cons (hf.eval hx) (cargs_inv hf hxs)
    · cases hc
theorem zeroOf_inv {t : TypeId} {z : List AV} (hz : zeroOf P t = some z) : ∃ i v, P.info? t = some i ∧ i.zero = some v ∧ v.cells.toList.all (·.oneCell') = true ∧ z = zeroA (szsOf P 20 t) v.cells.toList ∧ ∀ Γ : Con, Cells Γ z v.cells.toList := by
  unfold zeroOf at hz
  split at hz
  · rename_i i hi
    split at hz
    · rename_i v hv
      split at hz
      · rename_i hall
        injection hz with hz
        subst hz
        exact ⟨i, v, hi, hv, hall, rfl, fun Γ => zeroA_sound _ _ hall⟩
      · cases hz
    · cases hz
  · cases hz
theorem zeroV_inv {t : TypeId} {z : AV} (hz : zeroV P t = some z) : ∃ i v, P.info? t = some i ∧ i.zero = some v ∧ ∀ Γ : Con, RV Γ z v := by
  unfold zeroV at hz
  split at hz
  · rename_i i hi
    split at hz
    · rename_i cs hv
      split at hz
      · rename_i hall
        injection hz with hz
        subst hz
        refine ⟨i, _, hi, hv, fun Γ => ?_⟩
        have hc := zeroA_sound (Γ := Γ) (szsOf P 20 t) _ hall
        have hl := hc.len
        refine .agg (by simpa using hl) (fun j hj => hc.one _ (by simp)) (fun j hj hj' => ?_)
        have := hc.at_ j hj (by simpa using hj')
        rwa [Array.getElem_toList] at this
      · cases hz
    · rename_i hv
      injection hz with hz
      subst hz
      exact ⟨i, _, hi, hv, fun Γ => .nilf⟩
    · rename_i v _ _ hv
      injection hz with hz
      subst hz
      exact ⟨i, _, hi, hv, fun Γ => .v _⟩
    · cases hz
  · cases hz
theorem cpartsS_inv {fs : Array Field} {places : List (Nat × Nat)} (hp : fs.toList.mapM (fun f => (P.info? f.type).map fun i => (f.offset, i.size)) = some places) (hf : FR Γ fr a) :
    ∀ {ps : List (Nat × Operand)} {qs : List (Nat × Nat × Opd)}, cpartsS P fs ps = some qs → Parts Γ (places.toArray[·]?) (qs.map fun p => (p.1, p.2.1, ev fr p.2.2)) (ps.map fun p => (p.1, a.eval p.2))
  | [], qs, hc => by simp only [cpartsS, Option.some.injEq] at hc; subst hc; exact .nil
  | (i, X) :: ps, qs, hc => by
    simp only [cpartsS] at hc
    split at hc
    · rename_i f hfi
      split at hc
      · rename_i inf x ps' hi hx hps
        injection hc with hc
        subst hc
        have hpl : ∀ (l : List Field) (pl : List (Nat × Nat)) (i : Nat), l.mapM (fun f => (P.info? f.type).map fun i => (f.offset, i.size)) = some pl → l[i]? = some f → pl[i]? = some (f.offset, inf.size) := by
          intro l
          induction l with
          | nil => intro pl i _ h2; simp at h2
          | cons g l ih =>
            intro pl i h1 h2
            simp only [List.mapM_cons, Option.bind_eq_bind, Option.pure_def] at h1
            cases hg : P.info? g.type with
            | none => simp [hg] at h1
            | some ig =>
              cases hl : l.mapM (fun f => (P.info? f.type).map fun i => (f.offset, i.size)) with
              | none => simp [hg, hl] at h1
              | some rest =>
                simp [hg, hl] at h1
                subst h1
                cases i with
                | zero =>
                  simp only [List.getElem?_cons_zero, Option.some.injEq] at h2 ⊢
                  subst h2
                  rw [hi] at hg
                  injection hg with hg
                  rw [hg]
                | succ i => exact ih rest i hl (by simpa using h2)
        refine .cons ?_ (hf.eval hx) (cpartsS_inv hp hf hps)
        simp only [List.getElem?_toArray]
        exact hpl _ _ i hp (by simpa using hfi)
      · cases hc
    · cases hc
theorem cpartsA_inv {e : TypeId} {sz : Nat} (hf : FR Γ fr a) : ∀ {ps : List (Nat × Operand)} {qs : List (Nat × Nat × Opd)}, cpartsA P e sz ps = some qs → Parts Γ (fun i => some (i * sz, sz)) (qs.map fun p => (p.1, p.2.1, ev fr p.2.2)) (ps.map fun p => (p.1, a.eval p.2))
  | [], qs, hc => by simp only [cpartsA, Option.some.injEq] at hc; subst hc; exact .nil
  | (i, X) :: ps, qs, hc => by
    simp only [cpartsA] at hc
    split at hc
    · rename_i x ps' hx hps
      injection hc with hc
      subst hc
      exact .cons rfl (hf.eval hx) (cpartsA_inv hf hps)
    · cases hc
theorem cpartsL_inv {e : TypeId} {sz : Nat} (hf : FR Γ fr a) : ∀ {ps : List (Nat × Operand)} {qs : List (Nat × Opd)}, cpartsL P e ps = some qs → Parts Γ (fun i => some (i * sz, sz)) (qs.map fun p => (p.1 * sz, sz, ev fr p.2)) (ps.map fun p => (p.1, a.eval p.2))
  | [], qs, hc => by simp only [cpartsL, Option.some.injEq] at hc; subst hc; exact .nil
  | (i, X) :: ps, qs, hc => by
    simp only [cpartsL] at hc
    split at hc
    · rename_i x ps' hx hps
      injection hc with hc
      subst hc
      exact .cons rfl (hf.eval hx) (cpartsL_inv hf hps)
    · cases hc
end
end Go.Abs
