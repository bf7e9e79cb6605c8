/- What the proof needs, part 1: A program logic over abstract states, 1: abstract values, abstract heaps, and how they stand to the model's world; A program logic over abstract states, 2: the operations of the compact code, and what each does to the abstract state; A program logic over abstract states, 3: each operation of the model does what the compact one says (values alone); A program logic over abstract states, 4: comparisons, arithmetic, conversions; A program logic over abstract states, 5: new objects, stores, rows that never turn, appends: what they do to the relation of heap and world; A program logic over abstract states, 6: lists read, cut and appended to; A program logic over abstract states, 8: cuts, indexes, literals, conversions of bytes; A program logic over abstract states, 9: literals, structs, rows of bytes. -/
import Derived.WalkKit
import Derived.Below
import Derived.Laws.Append
import Derived.Laws.Bits
import Derived.Laws.StructEq
import Derived.Laws.Strings
import Derived.Laws.Rows
import Derived.Laws.AppendOwn
import Derived.Laws.BytesArg
import Derived.Laws.BytesString
import Derived.Laws.MakeOwn
import Derived.Lib.ConvBytes
import Derived.Laws.Tables
/- A program logic over abstract states, 1: abstract values, abstract heaps, and how they stand to the model's world. -/
namespace Go.Abs
open Go Go.RowKit

/-- The right to append to a list: none; none is needed (its capacity is its length: an append makes a new row); by a token's version. -/
inductive Tok where
  | no
  | full
  | own (t v : Nat)

/-- Abstract values. -/
inductive AV where
  | v (x : Value)
  | list (sz : Nat) (rows : List (List AV)) (tok : Tok)
  | row (id off len : Nat) (cap : Option Nat)
  | ptr (id off : Nat)
  | lptr (cells : List AV) (off : Nat)
  | mapr (id : Nat)
  | func (fn : Fn) (first caps : List AV)
  | iface (t : TypeId) (x : AV)
  | agg (cells : List AV)
  | tup (vs : List AV)

instance : Inhabited AV := ⟨.v undef⟩

structure TokAt where
  blk : Nat
  endc : Nat
  size : Nat
  sz : Nat
  elem : TypeId

/-- What the abstract names stand for: cells that never turn, objects' blocks, tokens' rows. -/
structure Con where
  F : Nat → Nat → Option Value
  rho : Nat → Option Nat
  tau : Nat → Nat → Option TokAt

structure Con.le (Γ Γ' : Con) : Prop where
  F : ∀ {b o x}, Γ.F b o = some x → Γ'.F b o = some x
  rho : ∀ {i b}, Γ.rho i = some b → Γ'.rho i = some b
  tau : ∀ {t v T}, Γ.tau t v = some T → Γ'.tau t v = some T
theorem Con.le.refl (Γ : Con) : Γ.le Γ := ⟨fun h => h, fun h => h, fun h => h⟩
theorem Con.le.trans {A B C : Con} (h : A.le B) (k : B.le C) : A.le C := ⟨fun x => k.F (h.F x), fun x => k.rho (h.rho x), fun x => k.tau (h.tau x)⟩

def TokOk (Γ : Con) : Tok → (b o n c sz : Nat) → Prop
  | .no, _, _, _, _, _ => True
  | .full, _, _, n, c, _ => n = c
  | .own t v, b, o, n, c, sz => ∃ T, Γ.tau t v = some T ∧ T.blk = b ∧ (n = c ∨ T.endc = o + n * sz ∧ o + c * sz ≤ T.size ∧ T.sz = sz)
theorem TokOk.mono {Γ Γ' : Con} (hl : Γ.le Γ') {tok : Tok} {b o n c sz : Nat} (h : TokOk Γ tok b o n c sz) : TokOk Γ' tok b o n c sz := by
  cases tok with
  | no => trivial
  | full => exact h
  | own t v =>
    obtain ⟨T, h1, h2⟩ := h
    exact ⟨T, hl.tau h1, h2⟩

/-- How an abstract value stands for a value. -/
inductive RV (Γ : Con) : AV → Value → Prop
  | v (x : Value) : RV Γ (.v x) x
  | nilf {sz : Nat} {base : Option Addr} : RV Γ (.list sz [] .full) (.slice base 0 0)
  | niln {sz : Nat} {base : Option Addr} : RV Γ (.list sz [] .no) (.slice base 0 0)
  | list {sz : Nat} {rows : List (List AV)} {tok : Tok} {b o c : Nat} {u : Nat → Nat → Value} (hc : rows.length ≤ c)
      (hsz : ∀ (i : Nat) (h : i < rows.length), rows[i].length = sz)
      (hF : ∀ i, i < rows.length → ∀ j, j < sz → Γ.F b (o + (i * sz + j)) = some (u i j))
      (h1 : ∀ i, i < rows.length → ∀ j, j < sz → (u i j).oneCell' = true)
      (hr : ∀ (i : Nat) (h : i < rows.length) (j : Nat) (hj : j < rows[i].length), RV Γ rows[i][j] (u i j))
      (ht : TokOk Γ tok b o rows.length c sz) : RV Γ (.list sz rows tok) (.slice (some ⟨b, o, none⟩) rows.length c)
  | row {id off len c b : Nat} {cap : Option Nat} (h : Γ.rho id = some b) (hl : len ≤ c) (hc : ∀ k, cap = some k → k = c) : RV Γ (.row id off len cap) (.slice (some ⟨b, off, none⟩) len c)
  | ptr {id off b : Nat} (h : Γ.rho id = some b) : RV Γ (.ptr id off) (.pointer (some ⟨b, off, none⟩))
  | lptr {cells : List AV} {off b o : Nat} {u : Nat → Value} (hF : ∀ j, j < cells.length → Γ.F b (o + j) = some (u j)) (h1 : ∀ j, j < cells.length → (u j).oneCell' = true)
      (hr : ∀ (j : Nat) (hj : j < cells.length), RV Γ cells[j] (u j)) : RV Γ (.lptr cells off) (.pointer (some ⟨b, o + off, none⟩))
  | mapr {id b : Nat} (h : Γ.rho id = some b) : RV Γ (.mapr id) (.map (some b))
  | func {fn : Fn} {first caps : List AV} {vf vc : Array Value} (h1 : vf.size = first.length) (h2 : vc.size = caps.length)
      (hf : ∀ (i : Nat) (h : i < first.length) (h' : i < vf.size), RV Γ first[i] vf[i]) (hc : ∀ (i : Nat) (h : i < caps.length) (h' : i < vc.size), RV Γ caps[i] vc[i]) : RV Γ (.func fn first caps) (.func fn vf vc)
  | iface {t : TypeId} {x : AV} {y : Value} (h : RV Γ x y) : RV Γ (.iface t x) (.iface t y)
  | agg {cells : List AV} {vs : Array Value} (hs : vs.size = cells.length) (h1 : ∀ (i : Nat) (h : i < vs.size), vs[i].oneCell' = true)
      (hr : ∀ (i : Nat) (h : i < cells.length) (h' : i < vs.size), RV Γ cells[i] vs[i]) : RV Γ (.agg cells) (.agg vs)
  | tup {xs : List AV} {vs : Array Value} (hs : vs.size = xs.length) (hr : ∀ (i : Nat) (h : i < xs.length) (h' : i < vs.size), RV Γ xs[i] vs[i]) : RV Γ (.tup xs) (.tuple vs)

theorem RV.mono {Γ Γ' : Con} (hl : Γ.le Γ') {a : AV} {x : Value} (h : RV Γ a x) : RV Γ' a x := by
  induction h with
  | v x => exact .v x
  | nilf => exact .nilf
  | niln => exact .niln
  | list hc hsz hF h1 _ ht ih => exact .list hc hsz (fun i hi j hj => hl.F (hF i hi j hj)) h1 ih (ht.mono hl)
  | row h hlc hc => exact .row (hl.rho h) hlc hc
  | ptr h => exact .ptr (hl.rho h)
  | lptr hF h1 _ ih => exact .lptr (fun j hj => hl.F (hF j hj)) h1 ih
  | mapr h => exact .mapr (hl.rho h)
  | func h1 h2 _ _ ih1 ih2 => exact .func h1 h2 ih1 ih2
  | iface _ ih => exact .iface ih
  | agg hs h1 _ ih => exact .agg hs h1 ih
  | tup hs _ ih => exact .tup hs ih

/-- Values that fill one cell. -/
def AV.one : AV → Bool
  | .v x => x.oneCell'
  | .agg _ | .tup _ => false
  | _ => true
theorem RV.one {Γ : Con} {a : AV} {x : Value} (h : RV Γ a x) (ho : a.one = true) : x.oneCell' = true := by
  cases h <;> first | rfl | exact ho | (simp [AV.one] at ho)

/-- What a loop over a function keeps, from round to round. -/
structure LpR where
  fn : FuncId
  ps : Array Tmp
  asg : Code
  body : Code
/-- Objects of the abstract heap. -/
inductive AObj where
  | cells (cs : List AV)
  | map (es : List (Value × AV))
  | siter (s : ByteArray) (pos : Nat)
  /-- A strings.Builder (its type): the object of its buffer, how many bytes it has, its capacity. -/
  | bld (T : TypeId) (o : Option Nat) (n cap : Nat)
  /-- A builder's buffer (its elements' type). -/
  | buf (e : TypeId) (l : List UInt8) (cap : Nat)
  /-- A loop over a function (its block): its state, the jump that waits, the frame that each round begins with. -/
  | lp (l : Nat) (R : LpR) (st : LoopState) (pend : Option Code) (fr : List AV)
  /-- A block for deferred calls (its number) in which there is none. -/
  | dfr (b : Nat)

structure AH where
  objs : Nat → Option AObj
  n : Nat
  ver : Nat → Nat
  nt : Nat
  sh : Nat → Option (TypeId × Nat)

def AH.alloc (h : AH) (o : AObj) : AH := { h with objs := fun i => if i = h.n then some o else h.objs i, n := h.n + 1, sh := fun i => if i = h.n then none else h.sh i }
def AH.set (h : AH) (id : Nat) (o : AObj) : AH := { h with objs := fun i => if i = id then some o else h.objs i }
def AH.newTok (h : AH) : AH := { h with ver := fun t => if t = h.nt then 0 else h.ver t, nt := h.nt + 1 }
def AH.bump (h : AH) (t : Nat) : AH := { h with ver := fun s => if s = t then h.ver t + 1 else h.ver s }
def AH.drop (h : AH) (id : Nat) : AH := { h with objs := fun i => if i = id then none else h.objs i }

def free (fr : Nat × Nat) (off : Nat) : Prop := ¬ (fr.1 ≤ off ∧ off < fr.2)

def ObjAt (Γ : Con) (w : World) (b : Nat) : AObj → Prop
  | .cells cs => ∃ vs e fr, w.heap[b]? = some (.cells vs e fr) ∧ cs.length ≤ vs.size ∧ (∀ (i : Nat) (h : i < cs.length) (h' : i < vs.size), RV Γ cs[i] vs[i] ∧ vs[i].oneCell' = true ∧ free fr i)
  | .map es => ∃ ms clock, w.heap[b]? = some (.map ms clock) ∧ ms.size = es.length ∧ ∀ (i : Nat) (h : i < es.length) (h' : i < ms.size), ms[i].key = es[i].1 ∧ RV Γ es[i].2 ms[i].val
  | .siter s pos => w.heap[b]? = some (.stringIter s pos)
  | .bld T o n cap => ∃ p v fr, w.heap[b]? = some (.cells #[p, v] T fr) ∧ free fr 0 ∧ free fr 1 ∧ (p = .pointer none ∨ p = .pointer (some ⟨b, 0, none⟩)) ∧
      ((o = none ∧ n = 0 ∧ cap = 0 ∧ ∃ base, v = .slice base 0 0) ∨ ∃ i g, o = some i ∧ Γ.rho i = some g ∧ v = .slice (some ⟨g, 0, none⟩) n cap)
  | .buf e l cap => ∃ cur fr, w.heap[b]? = some (.cells cur e fr) ∧ cur.size = cap ∧ l.length ≤ cap ∧ (∀ (j : Nat) x, l[j]? = some x → cur[j]? = some (.int .u8 x.toNat)) ∧ fr.2 ≤ l.length
  | .lp l R st pend fr => b = l ∧ ∃ tmps d, w.heap[b]? = some (.loop { state := st, pending := pend, fn := R.fn, tmps := tmps, params := R.ps, assign := R.asg, body := R.body, defers := d }) ∧ tmps.size = fr.length ∧ ∀ (i : Nat) (h : i < fr.length) (h' : i < tmps.size), RV Γ fr[i] tmps[i]
  | .dfr bd => b = bd ∧ w.heap[b]? = some (.deferred (some []))
theorem ObjAt.mono {Γ Γ' : Con} (hl : Γ.le Γ') {w : World} {b : Nat} {o : AObj} (h : ObjAt Γ w b o) : ObjAt Γ' w b o := by
  cases o with
  | cells cs => obtain ⟨vs, e, fr, h1, h2, h3⟩ := h; exact ⟨vs, e, fr, h1, h2, fun i a b => ⟨(h3 i a b).1.mono hl, (h3 i a b).2⟩⟩
  | map es => obtain ⟨ms, c, h1, h2, h3⟩ := h; exact ⟨ms, c, h1, h2, fun i a b => ⟨(h3 i a b).1, (h3 i a b).2.mono hl⟩⟩
  | siter s pos => exact h
  | bld T o n cap =>
    obtain ⟨p, v, fr, h1, h2, h3, h4, h5⟩ := h
    refine ⟨p, v, fr, h1, h2, h3, h4, ?_⟩
    rcases h5 with h5 | ⟨i, g, h5, h6, h7⟩
    · exact .inl h5
    · exact .inr ⟨i, g, h5, hl.rho h6, h7⟩
  | buf e l cap => exact h
  | lp l R st pend fr => obtain ⟨h0, t, d, h1, h2, h3⟩ := h; exact ⟨h0, t, d, h1, h2, fun i a b => (h3 i a b).mono hl⟩
  | dfr bd => exact h
theorem ObjAt.at_ {Γ : Con} {w w' : World} {b : Nat} {o : AObj} (h : ObjAt Γ w b o) (hb : w'.heap[b]? = w.heap[b]?) : ObjAt Γ w' b o := by
  cases o with
  | cells cs => obtain ⟨vs, e, fr, h1, h2⟩ := h; exact ⟨vs, e, fr, hb.trans h1, h2⟩
  | map es => obtain ⟨ms, c, h1, h2⟩ := h; exact ⟨ms, c, hb.trans h1, h2⟩
  | siter s pos => exact hb.trans h
  | bld T o n cap => obtain ⟨p, v, fr, h1, h2⟩ := h; exact ⟨p, v, fr, hb.trans h1, h2⟩
  | buf e l cap => obtain ⟨cur, fr, h1, h2⟩ := h; exact ⟨cur, fr, hb.trans h1, h2⟩
  | lp l R st pend fr => obtain ⟨h0, t, d, h1, h2⟩ := h; exact ⟨h0, t, d, hb.trans h1, h2⟩
  | dfr bd => exact ⟨h.1, hb.trans h.2⟩
theorem ObjAt.lt {Γ : Con} {w : World} {b : Nat} {o : AObj} (h : ObjAt Γ w b o) : b < w.heap.size := by
  have key : ∀ x, w.heap[b]? = some x → b < w.heap.size := fun x hx => (Array.getElem?_eq_some_iff.1 hx).1
  cases o with
  | cells cs => obtain ⟨vs, e, fr, h1, _⟩ := h; exact key _ h1
  | map es => obtain ⟨ms, c, h1, _⟩ := h; exact key _ h1
  | siter s pos => exact key _ h
  | bld T o n cap => obtain ⟨p, v, fr, h1, _⟩ := h; exact key _ h1
  | buf e l cap => obtain ⟨cur, fr, h1, _⟩ := h; exact key _ h1
  | lp l R st pend fr => obtain ⟨_, t, d, h1, _⟩ := h; exact key _ h1
  | dfr bd => exact key _ h.2

def TokBlk (Γ : Con) (w : World) (T : TokAt) : Prop :=
  T.endc ≤ T.size ∧ ∃ vs e fr, w.heap[T.blk]? = some (.cells vs e fr) ∧ vs.size = T.size ∧ ∀ off, T.endc ≤ off → off < T.size → Γ.F T.blk off = none ∧ free fr off

/-- The abstract heap stands for the world, which is below w0's size as w0 was. -/
structure WR (w0 : World) (Γ : Con) (h : AH) (w : World) : Prop where
  below : Below w0.heap.size w0 w
  fcell : ∀ {b o x}, Γ.F b o = some x → w.cell? ⟨b, o, none⟩ = some x
  obj : ∀ {i o}, h.objs i = some o → ∃ b, Γ.rho i = some b ∧ w0.heap.size ≤ b ∧ ObjAt Γ w b o ∧ ∀ off, Γ.F b off = none
  inj : ∀ {i j b}, (h.objs i).isSome → (h.objs j).isSome → Γ.rho i = some b → Γ.rho j = some b → i = j
  rlt : ∀ {i b}, Γ.rho i = some b → i < h.n ∧ b < w.heap.size
  tok : ∀ {t T}, Γ.tau t (h.ver t) = some T → w0.heap.size ≤ T.blk ∧ TokBlk Γ w T ∧ ∀ i, (h.objs i).isSome → Γ.rho i ≠ some T.blk
  tinj : ∀ {t t' T T'}, Γ.tau t (h.ver t) = some T → Γ.tau t' (h.ver t') = some T' → T.blk = T'.blk → t = t'
  tnew : ∀ {t v T}, Γ.tau t v = some T → t < h.nt ∧ v ≤ h.ver t

theorem WR.flt {w0 : World} {Γ : Con} {h : AH} {w : World} (H : WR w0 Γ h w) {b o : Nat} {x : Value} (hx : Γ.F b o = some x) : b < w.heap.size :=
  World.block_lt_of_cell? w ⟨b, o, none⟩ (H.fcell hx)
theorem WR.fnone {w0 : World} {Γ : Con} {h : AH} {w : World} (H : WR w0 Γ h w) {b : Nat} (hb : w.heap.size ≤ b) (o : Nat) : Γ.F b o = none := by
  cases hx : Γ.F b o with
  | none => rfl
  | some x => have := H.flt hx; omega
theorem WR.olt {w0 : World} {Γ : Con} {h : AH} {w : World} (H : WR w0 Γ h w) {i : Nat} (hi : (h.objs i).isSome) : i < h.n := by
  obtain ⟨o, ho⟩ := Option.isSome_iff_exists.1 hi
  obtain ⟨b, hb, _⟩ := H.obj ho
  exact (H.rlt hb).1

/-- The world has drawn. -/
theorem WR.drew {w0 : World} {Γ : Con} {h : AH} {w : World} (H : WR w0 Γ h w) : WR w0 Γ h w.drew where
  below := H.below.drew
  fcell := H.fcell
  obj := H.obj
  inj := H.inj
  rlt := H.rlt
  tok := H.tok
  tinj := H.tinj
  tnew := H.tnew

theorem heap_alloc_old (w : World) (o : Obj) (k : Nat) (h : k < w.heap.size) : (w.alloc o).heap[k]? = w.heap[k]? := Below.heap_alloc w o k h
theorem heap_alloc_new (w : World) (o : Obj) : (w.alloc o).heap[w.heap.size]? = some o := by
  show (w.heap.push o)[w.heap.size]? = _
  simp

/-- A block is laid of which the abstract state need not know. -/
theorem WR.alloc {w0 : World} {Γ : Con} {h : AH} {w : World} (H : WR w0 Γ h w) (O : Obj) : WR w0 Γ h (w.alloc O) where
  below := H.below.alloc H.below.size O
  fcell := fun hx => (World.cell?_alloc_lt _ _ _ (H.flt hx)).trans (H.fcell hx)
  obj := fun ho => by
    obtain ⟨b, h1, h2, h3, h4⟩ := H.obj ho
    exact ⟨b, h1, h2, h3.at_ (heap_alloc_old w O b h3.lt), h4⟩
  inj := H.inj
  rlt := fun hi => ⟨(H.rlt hi).1, by have := (H.rlt hi).2; simp; omega⟩
  tok := fun ht => by
    obtain ⟨h1, ⟨h2, vs, e, fr, h3, h4, h5⟩, h6⟩ := H.tok ht
    exact ⟨h1, ⟨h2, vs, e, fr, (heap_alloc_old w O _ (Array.getElem?_eq_some_iff.1 h3).1).trans h3, h4, h5⟩, h6⟩
  tinj := H.tinj
  tnew := H.tnew

end Go.Abs
/- A program logic over abstract states, 2: the operations of the compact code, and what each does to the abstract state. -/
namespace Go.Abs
set_option linter.unusedVariables false
open Go Go.RowKit

inductive Opd where
  | tmp (t : Nat)
  | cst (a : AV)

def ev (fr : List AV) : Opd → AV
  | .tmp t => fr.getD t (.v undef)
  | .cst a => a

/-- What '==' compares. -/
inductive CK where
  | int | str | bool
inductive LenK where
  | str | sl | map
inductive EqK where
  | other | bool | ptr | iface | slice | func | agg (ks : List CK)

inductive IOp where
  | mv (x : Opd)
  | pick (c a b : Opd)
  | box (x : Opd)
  | new (z : List AV)
  | newT (t : TypeId) (z : List AV)
  | build (z : List AV) (ps : List (Nat × Nat × Opd))
  | lit (sz n : Nat) (z : List AV) (ps : List (Nat × Opd))
  | litRow (sz n : Nat) (z : List AV) (ps : List (Nat × Opd))
  | load (x : Opd) (sz : Option Nat)
  | store (x y : Opd) (sz : Nat)
  | nilc (x : Opd)
  | bin (op : BinOp) (k : EqK) (x y : Opd)
  | un (op : UnOp) (x : Opd)
  | convI (k : IntKind) (x : Opd)
  | convS (x : Opd)
  | s2b (row : Bool) (x : Opd)
  | b2s (x : Opd)
  | mki (t : TypeId) (x : Opd)
  | mkf (fn : Fn) (first caps : List Opd)
  | mkm
  | mks (sz eb : Nat) (z : List AV) (l c : Opd)
  | slS (x : Opd) (lo hi : Option Opd)
  | slL (sz : Nat) (x : Opd) (lo hi mx : Option Opd)
  | slA (n sz : Nat) (x : Opd) (lo hi : Option Opd)
  | fad (x : Opd) (off : Nat)
  | fld (x : Opd) (off : Nat) (sz : Option Nat)
  | iaL (sz : Nat) (x i : Opd)
  | iaA (n sz : Nat) (x i : Opd)
  | ixS (x i : Opd)
  | ixA (n sz : Nat) (isAgg : Bool) (x i : Opd)
  | look (ck : CK) (z : AV) (ok : Bool) (x k : Opd)
  | upd (ck : CK) (m k x : Opd)
  | del (ck : CK) (m k : Opd)
  | ext (x : Opd) (i : Nat)
  | len (k : LenK) (x : Opd)
  | cap (x : Opd)
  | app (sz eb : Nat) (x y : Opd)
  | cpy (sz : Nat) (x y : Opd)
  | mnx (mx : Bool) (xs : List Opd)
  | rng (x : Opd)
  | nxt (x : Opd)
  | call (f : FuncId) (xs : List Opd)
  | callv (x : Opd) (xs : List Opd)

def scells : AV → Option (List AV)
  | .agg cs => some cs
  | a => if a.one then some [a] else none

def rd (cs : List AV) (off : Nat) : Option Nat → Option AV
  | none => cs[off]?
  | some n => if off + n ≤ cs.length then some (.agg ((cs.drop off).take n)) else none

/-- Cells laid over a list's, from 'off' on. -/
def wrL : List AV → Nat → List AV → List AV
  | cs, _, [] => cs
  | cs, off, a :: as => wrL (cs.set off a) (off + 1) as

def fillA : List AV → List (Nat × Nat × AV) → Option (List AV)
  | z, [] => some z
  | z, (off, size, a) :: ps => match scells a with
    | some cs => if cs.length = size ∧ off + size ≤ z.length then fillA (wrL z off cs) ps else none
    | none => none

def intBin (op : BinOp) (k : IntKind) (a b : Int) : Option Value :=
  match op with
  | .add => some (.int k (k.wrap (a + b)))
  | .sub => some (.int k (k.wrap (a - b)))
  | .mul => some (.int k (k.wrap (a * b)))
  | .quo => if b = 0 then none else some (.int k (k.wrap (a.tdiv b)))
  | .rem => if b = 0 then none else some (.int k (a.tmod b))
  | .and => some (.int k (bits .and k a b))
  | .or => some (.int k (bits .or k a b))
  | .xor => some (.int k (bits .xor k a b))
  | .andNot => some (.int k (bits .andNot k a b))
  | .eql => some (.bool (a == b))
  | .neq => some (.bool (a != b))
  | .lss => some (.bool (a < b))
  | .leq => some (.bool (a ≤ b))
  | .gtr => some (.bool (a > b))
  | .geq => some (.bool (a ≥ b))
  | _ => none

def shiftBin (op : BinOp) (k : IntKind) (a b : Int) : Option Value :=
  if 0 ≤ b ∧ b ≤ k.bits then
    match op with
    | .shl => some (.int k (k.wrap (a * 2 ^ b.toNat)))
    | .shr => some (.int k (a / 2 ^ b.toNat))
    | _ => none
  else none

def strBin (op : BinOp) (x y : ByteArray) : Option Value :=
  match op with
  | .add => if x.size + y.size ≤ 9223372036854775807 then some (.string (x ++ y)) else none
  | .eql => some (.bool (x.toList == y.toList))
  | .neq => some (.bool !(x.toList == y.toList))
  | .lss => some (.bool (Op.bytesLess x.toList y.toList))
  | .leq => some (.bool (Op.bytesLess x.toList y.toList || x.toList == y.toList))
  | .gtr => some (.bool !(Op.bytesLess x.toList y.toList || x.toList == y.toList))
  | .geq => some (.bool !(Op.bytesLess x.toList y.toList))
  | _ => none

/-- '==' of plain one-cell values. -/
def cellEq : CK → AV → AV → Option Bool
  | .int, .v (.int k a), .v (.int k' b) => if k = k' then some (a == b) else none
  | .str, .v (.string a), .v (.string b) => some (a.toList == b.toList)
  | .bool, .v (.bool a), .v (.bool b) => some (a == b)
  | _, _, _ => none
def cellsEq : List CK → List AV → List AV → Option Bool
  | [], [], [] => some true
  | k :: ks, a :: as, b :: bs => match cellEq k a b with
    | some true => cellsEq ks as bs
    | some false => some false
    | none => none
  | _, _, _ => none

def eqB : EqK → AV → AV → Option Bool
  | .bool, .v (.bool a), .v (.bool b) => some (a == b)
  | .ptr, .v (.pointer none), .v (.pointer none) => some true
  | .ptr, .v (.pointer none), .ptr _ _ | .ptr, .v (.pointer none), .lptr _ _ => some false
  | .ptr, .ptr _ _, .v (.pointer none) | .ptr, .lptr _ _, .v (.pointer none) => some false
  | .iface, .v .nilIface, .v .nilIface => some true
  | .iface, .iface _ _, .v .nilIface | .iface, .v .nilIface, .iface _ _ => some false
  | .slice, .list _ (_ :: _) _, .list _ [] .full => some false
  | .slice, .row _ _ _ _, .list _ [] .full => some false
  | .func, .func _ _ _, .v .nilFunc => some false
  | .func, .v .nilFunc, .v .nilFunc => some true
  | .agg ks, .agg as, .agg bs => cellsEq ks as bs
  | _, _, _ => none

def abin (op : BinOp) (k : EqK) : AV → AV → Option AV
  | .v (.int ka a), .v (.int kb b) => match op with
    | .shl | .shr => (shiftBin op ka a b).map .v
    | _ => if ka = kb then (intBin op ka a b).map .v else none
  | .v (.string a), .v (.string b) => (strBin op a b).map .v
  | a, b => match op with
    | .eql => (eqB k a b).map fun t => .v (.bool t)
    | .neq => (eqB k a b).map fun t => .v (.bool !t)
    | _ => none

def aun (op : UnOp) : AV → Option AV
  | .v (.bool b) => match op with | .not => some (.v (.bool !b)) | _ => none
  | .v (.int k n) => match op with | .neg => some (.v (.int k (k.wrap (0 - n)))) | .xor => some (.v (.int k (bits .xor k (if k.signed then -1 else k.max) n))) | _ => none
  | _ => none

/-- A slice's or a string's bound. -/
def bnd (e : Opd → AV) (x : Option Opd) (d top : Nat) : Option Nat :=
  match x with
  | none => some d
  | some o => match e o with
    | .v (.int _ i) => if 0 ≤ i ∧ i ≤ top then some i.toNat else none
    | _ => none

def chunk (sz : Nat) : Nat → List AV → List (List AV)
  | 0, _ => []
  | n + 1, cs => cs.take sz :: chunk sz n (cs.drop sz)

def byteRows (s : ByteArray) : List (List AV) := s.data.toList.map fun b => [.v (.int .u8 b.toNat)]

/-- The rows of what is appended or copied. -/
def srcRows (sz : Nat) (h : AH) : AV → Option (List (List AV))
  | .list sz' rows _ => if sz' = sz then some rows else none
  | .v (.string s) => if sz = 1 then some (byteRows s) else none
  | .row id off len _ => match h.objs id with
    | some (.cells cs) => if off + len * sz ≤ cs.length then some (chunk sz len (cs.drop off)) else none
    | _ => none
  | _ => none

def bytesOfCells : List AV → Option (List UInt8)
  | [] => some []
  | .v (.int .u8 n) :: r => (bytesOfCells r).map fun l => UInt8.ofNat n.toNat :: l
  | _ => none

def sameKey : CK → Value → Value → Option Bool
  | .int, .int k a, .int k' b => if k = k' then some (a == b) else none
  | .str, .string a, .string b => some (a == b)
  | .bool, .bool a, .bool b => some (a == b)
  | _, _, _ => none
def findK (ck : CK) (k : Value) : List (Value × AV) → Nat → Option (Option (Nat × AV))
  | [], _ => some none
  | e :: es, i => match sameKey ck k e.1 with
    | some true => some (some (i, e.2))
    | some false => findK ck k es (i + 1)
    | none => none

def lookA (h : AH) (ck : CK) (z : AV) (ok : Bool) (k : Value) : AV → Option AV
  | .mapr id => match h.objs id with
    | some (.map es) => match findK ck k es 0 with
      | some (some (_, a)) => some (if ok then .tup [a, .v (.bool true)] else a)
      | some none => some (if ok then .tup [z, .v (.bool false)] else z)
      | none => none
    | _ => none
  | .v (.map none) => some (if ok then .tup [z, .v (.bool false)] else z)
  | _ => none
def updA (h : AH) (ck : CK) (id : Nat) (es : List (Value × AV)) (k : Value) (a : AV) : Option AH :=
  match findK ck k es 0 with
  | some (some (i, _)) => some (h.set id (.map (es.set i (k, a))))
  | some none => some (h.set id (.map (es ++ [(k, a)])))
  | none => none
def delA (h : AH) (ck : CK) (id : Nat) (es : List (Value × AV)) (k : Value) : Option AH :=
  match findK ck k es 0 with
  | some (some (i, _)) => some (h.set id (.map (es.eraseIdx i)))
  | some none => some h
  | none => none

def appTok (h : AH) : Tok → Option (Tok × AH)
  | .no => none
  | .full => some (.own h.nt 0, h.newTok)
  | .own t v => if v = h.ver t then some (.own t (v + 1), h.bump t) else none

def istep : IOp → (Opd → AV) → AH → Option (AV × AH)
  | .mv x, e, h => some (e x, h)
  | .pick c a b, e, h => match e c with
    | .v (.bool t) => some (if t then e a else e b, h)
    | _ => none
  | .box x, e, h => match scells (e x) with
    | some cs => some (.ptr h.n 0, h.alloc (.cells cs))
    | none => none
  | .new z, _, h => some (.ptr h.n 0, h.alloc (.cells z))
  | .newT t _, _, h => some (.ptr h.n 0, h.alloc (.bld t none 0 0))
  | .build z ps, e, h => match fillA z (ps.map fun p => (p.1, p.2.1, e p.2.2)) with
    | some cs => some (.agg cs, h)
    | none => none
  | .lit sz n z ps, e, h => match fillA ((List.replicate n z).flatten) (ps.map fun p => (p.1 * sz, sz, e p.2)) with
    | some cs => some (.list sz (chunk sz n cs) .full, h)
    | none => none
  | .litRow sz n z ps, e, h => match fillA ((List.replicate n z).flatten) (ps.map fun p => (p.1 * sz, sz, e p.2)) with
    | some cs => some (.row h.n 0 n (some n), h.alloc (.cells cs))
    | none => none
  | .load x sz, e, h => match e x with
    | .ptr id off => match h.objs id with
      | some (.cells cs) => (rd cs off sz).map fun a => (a, h)
      | _ => none
    | .lptr cs off => (rd cs off sz).map fun a => (a, h)
    | _ => none
  | .store x y sz, e, h => match e x, scells (e y) with
    | .ptr id off, some as => match h.objs id with
      | some (.cells cs) => if as.length = sz ∧ off + sz ≤ cs.length then some (.v undef, h.set id (.cells (wrL cs off as))) else none
      | _ => none
    | _, _ => none
  | .nilc x, e, h => match e x with
    | .ptr id off => some (.ptr id off, h)
    | .lptr cs off => some (.lptr cs off, h)
    | .func fn fs cs => match fn with
      | .func _ => some (.func fn fs cs, h)
      | _ => none
    | _ => none
  | .bin op k x y, e, h => (abin op k (e x) (e y)).map fun a => (a, h)
  | .un op x, e, h => (aun op (e x)).map fun a => (a, h)
  | .convI k x, e, h => match e x with
    | .v (.int _ n) => some (.v (.int k (k.wrap n)), h)
    | _ => none
  | .convS x, e, h => match e x with
    | .v (.string s) => some (.v (.string s), h)
    | _ => none
  | .s2b row x, e, h => match e x with
    | .v (.string s) => if row then some (.row h.n 0 s.size none, h.alloc (.cells (s.data.toList.map fun b => .v (.int .u8 b.toNat)))) else some (.list 1 (byteRows s) .no, h)
    | _ => none
  | .b2s x, e, h => match srcRows 1 h (e x) with
    | some rows => match bytesOfCells rows.flatten with
      | some l => some (.v (.string ⟨l.toArray⟩), h)
      | none => none
    | none => none
  | .mki t x, e, h => if (e x).one then some (.iface t (e x), h) else none
  | .mkf fn first caps, e, h => some (.func fn (first.map e) (caps.map e), h)
  | .mkm, _, h => some (.mapr h.n, h.alloc (.map []))
  | .mks sz eb z l c, e, h => match e l, e c with
    | .v (.int .i64 l), .v (.int .i64 c) => if 0 ≤ l ∧ l ≤ c ∧ c * eb ≤ 140737488355328 ∧ c ≤ 9223372036854775807 then
        some (.row h.n 0 l.toNat (some c.toNat), h.alloc (.cells ((List.replicate c.toNat z).flatten))) else none
    | _, _ => none
  | .slS x lo hi, e, h => match e x with
    | .v (.string s) => match bnd e hi s.size s.size with
      | some b => match bnd e lo 0 b with
        | some a => some (.v (.string (s.extract a b)), h)
        | none => none
      | none => none
    | _ => none
  | .slL sz x lo hi mx, e, h => match e x with
    | .list sz' rows tok => if sz' = sz then match bnd e hi rows.length rows.length with
      | some b => match bnd e lo 0 b with
        | some a => match mx with
          | none => some (.list sz ((rows.drop a).take (b - a)) (if b = rows.length then tok else .no), h)
          | some _ => match bnd e mx 0 rows.length with
            | some m => if b ≤ m then some (.list sz ((rows.drop a).take (b - a)) (if b = m then .full else .no), h) else none
            | none => none
        | none => none
      | none => none
      else none
    | .row id off len cap => match mx with
      | none => match bnd e hi len len with
        | some b => match bnd e lo 0 b with
          | some a => match cap with
            | some c => some (.row id (if c = a then off else off + a * sz) (b - a) (some (c - a)), h)
            | none => if a = 0 then some (.row id off b none, h) else none
          | none => none
        | none => none
      | some _ => none
    | _ => none
  | .slA n sz x lo hi, e, h => match e x with
    | .ptr id off => match bnd e hi n n with
      | some b => match bnd e lo 0 b with
        | some a => some (.row id (if n = a then off else off + a * sz) (b - a) (some (n - a)), h)
        | none => none
      | none => none
    | _ => none
  | .fad x off, e, h => match e x with
    | .ptr id o => some (.ptr id (o + off), h)
    | .lptr cs o => some (.lptr cs (o + off), h)
    | _ => none
  | .fld x off sz, e, h => match e x with
    | .agg cs => (rd cs off sz).map fun a => (a, h)
    | _ => none
  | .iaL sz x i, e, h => match e x, e i with
    | .list sz' rows _, .v (.int _ i) => if sz' = sz then if 0 ≤ i then match rows[i.toNat]? with
        | some r => some (.lptr r 0, h)
        | none => none
      else none else none
    | .row id off len _, .v (.int _ i) => if 0 ≤ i ∧ i < len then some (.ptr id (off + i.toNat * sz), h) else none
    | _, _ => none
  | .iaA n sz x i, e, h => match e x, e i with
    | .ptr id off, .v (.int _ i) => if 0 ≤ i ∧ i < n then some (.ptr id (off + i.toNat * sz), h) else none
    | .lptr cs off, .v (.int _ i) => if 0 ≤ i ∧ i < n then some (.lptr cs (off + i.toNat * sz), h) else none
    | _, _ => none
  | .ixS x i, e, h => match e x, e i with
    | .v (.string s), .v (.int _ i) => if 0 ≤ i then match s.data[i.toNat]? with
        | some b => some (.v (.int .u8 b.toNat), h)
        | none => none
      else none
    | _, _ => none
  | .ixA n sz agg x i, e, h => match e x, e i with
    | .agg cs, .v (.int _ i) => if 0 ≤ i ∧ i < n then (rd cs (i.toNat * sz) (if agg then some sz else none)).map fun a => (a, h) else none
    | _, _ => none
  | .look ck z ok x k, e, h => match e k with
    | .v k => (lookA h ck z ok k (e x)).map fun a => (a, h)
    | _ => none
  | .upd ck m k x, e, h => match e m, e k with
    | .mapr id, .v k => match h.objs id with
      | some (.map es) => (updA h ck id es k (e x)).map fun h' => (.v undef, h')
      | _ => none
    | _, _ => none
  | .del ck m k, e, h => match e m, e k with
    | .mapr id, .v k => match h.objs id with
      | some (.map es) => (delA h ck id es k).map fun h' => (.tup [], h')
      | _ => none
    | _, _ => none
  | .ext x i, e, h => match e x with
    | .tup vs => (vs[i]?).map fun a => (a, h)
    | _ => none
  | .len k x, e, h => match k, e x with
    | .str, .v (.string s) => some (.v (.int .i64 s.size), h)
    | .sl, .list _ rows _ => some (.v (.int .i64 rows.length), h)
    | .sl, .row _ _ n _ => some (.v (.int .i64 n), h)
    | .map, .mapr id => match h.objs id with
      | some (.map es) => some (.v (.int .i64 es.length), h)
      | _ => none
    | .map, .v (.map none) => some (.v (.int .i64 0), h)
    | _, _ => none
  | .cap x, e, h => match e x with
    | .row _ _ _ (some c) => some (.v (.int .i64 c), h)
    | .list _ rows .full => some (.v (.int .i64 rows.length), h)
    | _ => none
  | .app sz eb x y, e, h => match e x, srcRows sz h (e y) with
    | .list sz' rows tok, some new => if sz' = sz then match new with
      | [] => some (.list sz rows tok, h)
      | r :: new => match appTok h tok with
        | some (tok', h') => if (rows.length + (new.length + 1)) * eb ≤ 140737488355328 then some (.list sz (rows ++ r :: new) tok', h') else none
        | none => none
      else none
    | _, _ => none
  | .cpy sz x y, e, h => match e x, srcRows sz h (e y) with
    | .row id off len _, some new => match h.objs id with
      | some (.cells cs) => if off + len * sz ≤ cs.length then
          some (.v (.int .i64 ((min new.length len : Nat) : Int)), h.set id (.cells (wrL cs off (new.take len).flatten))) else none
      | _ => none
    | _, _ => none
  | .mnx mx xs, e, h => match xs.map e with
    | .v (.int k a) :: r => (r.foldl (fun (s : Option Int) y => match s, y with
        | some a, .v (.int _ b) => some (if mx then (if b > a then b else a) else (if b < a then b else a))
        | _, _ => none) (some a)).map fun n => (.v (.int k n), h)
    | _ => none
  | .rng x, e, h => match e x with
    | .v (.string s) => some (.ptr h.n 0, h.alloc (.siter s 0))
    | _ => none
  | .nxt x, e, h => match e x with
    | .ptr id 0 => match h.objs id with
      | some (.siter s pos) => if pos < s.size then
          some (.tup [.v (.bool true), .v (.int .i64 pos), .v (.int .i32 (Utf8.decode s pos).1)], h.set id (.siter s (pos + (Utf8.decode s pos).2)))
        else some (.tup [.v (.bool false)], h)
      | _ => none
    | _ => none
  | .call _ _, _, _ => none
  | .callv _ _, _, _ => none

end Go.Abs
/- A program logic over abstract states, 3: each operation of the model does what the compact one says (values alone). -/
namespace Go.Abs
open Go Go.RowKit
set_option linter.unusedVariables false
set_option linter.unusedSimpArgs false

structure FR (Γ : Con) (fr : List AV) (a : Act) : Prop where
  size : a.tmps.size = fr.length
  at_ : ∀ (i : Nat) (h : i < fr.length) (h' : i < a.tmps.size), RV Γ fr[i] a.tmps[i]
theorem FR.mono {Γ Γ' : Con} (hl : Γ.le Γ') {fr : List AV} {a : Act} (h : FR Γ fr a) : FR Γ' fr a := ⟨h.size, fun i x y => (h.at_ i x y).mono hl⟩
def put (fr : List AV) (dst : Option Nat) (v : AV) : List AV :=
  match dst with
  | some d => fr.set d v
  | none => fr
theorem FR.put {Γ : Con} {fr : List AV} {a : Act} (h : FR Γ fr a) {v : AV} {x : Value} (hv : RV Γ v x) (dst : Option Nat) : FR Γ (put fr dst v) (a.put dst x) := by
  cases dst with
  | none => exact h
  | some d =>
    refine ⟨by simp [Act.put, Abs.put, h.size], fun i hi hi' => ?_⟩
    have hi2 : i < fr.length := by simpa [Abs.put] using hi
    have hi3 : i < a.tmps.size := by rw [h.size]; exact hi2
    have hi4 : i < (fr.set d v).length := hi
    have hi5 : i < (a.tmps.setIfInBounds d x).size := hi'
    show RV Γ ((fr.set d v)[i]'hi4) ((a.tmps.setIfInBounds d x)[i]'hi5)
    by_cases e : d = i
    · subst e
      rw [List.getElem_set_self, Array.getElem_setIfInBounds_self]
      exact hv
    · rw [List.getElem_set_ne e, Array.getElem_setIfInBounds_ne hi3 e]
      exact h.at_ i hi2 hi3

def constA (sz : Nat) : Value → Option AV
  | .slice none 0 0 => some (.list sz [] .full)
  | .agg _ | .tuple _ => none
  | x => some (.v x)
theorem RV_constA {Γ : Con} {sz : Nat} {x : Value} {a : AV} (h : constA sz x = some a) : RV Γ a x := by
  unfold constA at h
  split at h
  · injection h with h; subst h; exact .nilf
  · cases h
  · cases h
  · injection h with h; subst h; exact .v _
/-- How many cells an element of a slice type has (0: no slice type). -/
def elSz (P : Program) (t : TypeId) : Nat :=
  match P.underlying t with
  | some (.slice e) => P.cellsOf e
  | _ => 0
def copd (P : Program) (t : TypeId) : Operand → Option Opd
  | .tmp t => some (.tmp t)
  | .const v => (constA (elSz P t) v).map .cst
  | .global g => some (.cst (.v (.pointer (some ⟨g, 0, none⟩))))
  | .func f => some (.cst (.func (.func f) [] []))
theorem FR.eval {P : Program} {t : TypeId} {Γ : Con} {fr : List AV} {a : Act} (h : FR Γ fr a) {X : Operand} {x : Opd} (hx : copd P t X = some x) : RV Γ (ev fr x) (a.eval X) := by
  cases X with
  | tmp t =>
    simp only [copd, Option.some.injEq] at hx
    subst hx
    simp only [ev, Act.eval, List.getD_eq_getElem?_getD, Array.getD_eq_getD_getElem?]
    by_cases ht : t < fr.length
    · rw [List.getElem?_eq_getElem ht, Array.getElem?_eq_getElem (by rw [h.size]; exact ht)]
      exact h.at_ t ht (by rw [h.size]; exact ht)
    · rw [List.getElem?_eq_none (Nat.le_of_not_lt ht), Array.getElem?_eq_none (by rw [h.size]; exact Nat.le_of_not_lt ht)]
      exact .v _
  | const v =>
    simp only [copd, Option.map_eq_some_iff] at hx
    obtain ⟨b, hb, rfl⟩ := hx
    exact RV_constA hb
  | global g => simp only [copd, Option.some.injEq] at hx; subst hx; exact .v _
  | func f =>
    simp only [copd, Option.some.injEq] at hx
    subst hx
    exact .func rfl rfl (fun i h => by simp at h) (fun i h => by simp at h)

/-- What an operation's run comes to. -/
def Res (P : Program) (w0 : World) (Γ : Con) (r : Result Next) (v : AV) (h' : AH) : Prop :=
  ∃ Γ' x w', (r = .ok (.value x) w' ∨ r = .ok .skip w' ∧ x = undef) ∧ Γ.le Γ' ∧ RV Γ' v x ∧ WR w0 Γ' h' w'
theorem Res.same {P : Program} {w0 : World} {Γ : Con} {h : AH} {w : World} {v : AV} {x : Value} {r : Result Next} (hr : r = .ok (.value x) w) (hv : RV Γ v x) (H : WR w0 Γ h w) : Res P w0 Γ r v h :=
  ⟨Γ, x, w, .inl hr, .refl Γ, hv, H⟩

section
variable {P : Program} {w0 : World} {Γ : Con} {h : AH} {w : World}

/-! values opened -/
theorem RV.inv_v {x : Value} {y : Value} (h : RV Γ (.v x) y) : y = x := by cases h; rfl
theorem RV.inv_ptr {id off : Nat} {y : Value} (h : RV Γ (.ptr id off) y) : ∃ b, Γ.rho id = some b ∧ y = .pointer (some ⟨b, off, none⟩) := by
  cases h with | ptr h => exact ⟨_, h, rfl⟩
theorem RV.inv_mapr {id : Nat} {y : Value} (h : RV Γ (.mapr id) y) : ∃ b, Γ.rho id = some b ∧ y = .map (some b) := by
  cases h with | mapr h => exact ⟨_, h, rfl⟩
theorem RV.inv_row {id off len : Nat} {cap : Option Nat} {y : Value} (h : RV Γ (.row id off len cap) y) : ∃ b c, Γ.rho id = some b ∧ y = .slice (some ⟨b, off, none⟩) len c ∧ len ≤ c ∧ ∀ k, cap = some k → k = c := by
  cases h with | row h hl hc => exact ⟨_, _, h, rfl, hl, hc⟩
theorem RV.inv_lptr {cells : List AV} {off : Nat} {y : Value} (h : RV Γ (.lptr cells off) y) : ∃ (b o : Nat) (u : Nat → Value), y = .pointer (some ⟨b, o + off, none⟩) ∧ (∀ j, j < cells.length → Γ.F b (o + j) = some (u j)) ∧
    (∀ j, j < cells.length → (u j).oneCell' = true) ∧ ∀ (j : Nat) (hj : j < cells.length), RV Γ cells[j] (u j) := by
  cases h with | lptr hF h1 hr => exact ⟨_, _, _, rfl, hF, h1, hr⟩
theorem RV.inv_agg {cells : List AV} {y : Value} (h : RV Γ (.agg cells) y) : ∃ vs, y = .agg vs ∧ vs.size = cells.length ∧ (∀ (i : Nat) (h : i < vs.size), vs[i].oneCell' = true) ∧
    ∀ (i : Nat) (h : i < cells.length) (h' : i < vs.size), RV Γ cells[i] vs[i] := by
  cases h with | agg hs h1 hr => exact ⟨_, rfl, hs, h1, hr⟩
theorem RV.inv_tup {xs : List AV} {y : Value} (h : RV Γ (.tup xs) y) : ∃ vs, y = .tuple vs ∧ vs.size = xs.length ∧ ∀ (i : Nat) (h : i < xs.length) (h' : i < vs.size), RV Γ xs[i] vs[i] := by
  cases h with | tup hs hr => exact ⟨_, rfl, hs, hr⟩
theorem RV.inv_iface {t : TypeId} {x : AV} {y : Value} (h : RV Γ (.iface t x) y) : ∃ z, y = .iface t z ∧ RV Γ x z := by
  cases h with | iface h => exact ⟨_, rfl, h⟩
theorem RV.inv_func {fn : Fn} {first caps : List AV} {y : Value} (h : RV Γ (.func fn first caps) y) : ∃ vf vc, y = .func fn vf vc ∧ vf.size = first.length ∧ vc.size = caps.length ∧
    (∀ (i : Nat) (h : i < first.length) (h' : i < vf.size), RV Γ first[i] vf[i]) ∧ ∀ (i : Nat) (h : i < caps.length) (h' : i < vc.size), RV Γ caps[i] vc[i] := by
  cases h with | func h1 h2 hf hc => exact ⟨_, _, rfl, h1, h2, hf, hc⟩

/-- The cells that a value fills. -/
structure Cells (Γ : Con) (cs : List AV) (vs : List Value) : Prop where
  len : vs.length = cs.length
  at_ : ∀ (i : Nat) (h : i < cs.length) (h' : i < vs.length), RV Γ cs[i] vs[i]
  one : ∀ x ∈ vs, x.oneCell' = true
theorem Cells.mono {Γ Γ' : Con} (hl : Γ.le Γ') {cs : List AV} {vs : List Value} (h : Cells Γ cs vs) : Cells Γ' cs vs := ⟨h.len, fun i a b => (h.at_ i a b).mono hl, h.one⟩
theorem scells_sound {a : AV} {x : Value} {cs : List AV} (hs : scells a = some cs) (h : RV Γ a x) : Cells Γ cs x.cells.toList := by
  have single : a.one = true → cs = [a] → x.cells = #[x] → Cells Γ cs x.cells.toList := by
    intro ho hc hx
    subst hc
    rw [hx]
    refine ⟨rfl, fun i hi hi' => ?_, fun y hy => ?_⟩
    · have : i = 0 := by simpa using hi
      subst this; exact h
    · obtain rfl : y = x := by simpa using hy
      exact h.one ho
  cases h with
  | agg hsz h1 hr =>
    simp only [scells, Option.some.injEq] at hs
    subst hs
    rename_i vs
    show Cells Γ _ vs.toList
    refine ⟨by simpa using hsz, fun i hi hi' => ?_, fun y hy => ?_⟩
    · rw [Array.getElem_toList]; exact hr i hi (by simpa using hi')
    · obtain ⟨i, hi, rfl⟩ := List.getElem_of_mem hy
      rw [Array.getElem_toList]; exact h1 i (by simpa using hi)
  | v x =>
    simp only [scells] at hs
    split at hs
    · rename_i ho
      injection hs with hs
      refine single ho hs.symm ?_
      cases x <;> first | rfl | (simp [AV.one, Value.oneCell'] at ho)
    · cases hs
  | nilf => simp only [scells, AV.one, if_true, Option.some.injEq] at hs; exact single rfl hs.symm rfl
  | niln => simp only [scells, AV.one, if_true, Option.some.injEq] at hs; exact single rfl hs.symm rfl
  | list => simp only [scells, AV.one, if_true, Option.some.injEq] at hs; exact single rfl hs.symm rfl
  | row => simp only [scells, AV.one, if_true, Option.some.injEq] at hs; exact single rfl hs.symm rfl
  | ptr => simp only [scells, AV.one, if_true, Option.some.injEq] at hs; exact single rfl hs.symm rfl
  | lptr => simp only [scells, AV.one, if_true, Option.some.injEq] at hs; exact single rfl hs.symm rfl
  | mapr => simp only [scells, AV.one, if_true, Option.some.injEq] at hs; exact single rfl hs.symm rfl
  | func => simp only [scells, AV.one, if_true, Option.some.injEq] at hs; exact single rfl hs.symm rfl
  | iface => simp only [scells, AV.one, if_true, Option.some.injEq] at hs; exact single rfl hs.symm rfl
  | tup => simp [scells, AV.one] at hs

/-! what is read out of cells -/
def aggSz (P : Program) (t : TypeId) : Option (Option Nat) :=
  match P.underlying t, P.info? t with
  | some (.struct _), some i => some (some i.size)
  | some (.array _ _), some i => some (some i.size)
  | some _, some _ => some none
  | _, _ => none
theorem run_isAgg {t : TypeId} {s : Option Nat} (ht : aggSz P t = some s) (w : World) : (isAgg t).run P w = .ok s.isSome w := by
  unfold aggSz at ht
  unfold isAgg
  split at ht <;> try cases ht
  · rename_i h1 h2; rw [Sem.run_bind, run_underlying h1]; rfl
  · rename_i h1 h2; rw [Sem.run_bind, run_underlying h1]; rfl
  · rename_i d i h1 h2 h3 h4
    rw [Sem.run_bind, run_underlying h3]
    simp only [Result.andThen_ok]
    first | rfl | (split <;> first | rfl | exact absurd h3 (by first | exact h1 _ | exact h2 _ _))
theorem run_sizeOf' {t : TypeId} {i : TypeInfo} (h : P.info? t = some i) (w : World) : (sizeOf t).run P w = .ok i.size w := by
  simp [sizeOf, typeInfo, h]
theorem aggSz_info {t : TypeId} {s : Option Nat} (ht : aggSz P t = some s) : ∃ i, P.info? t = some i ∧ ∀ n, s = some n → i.size = n := by
  unfold aggSz at ht
  split at ht <;> try cases ht
  · rename_i h2; exact ⟨_, h2, fun n hn => by injection hn⟩
  · rename_i h2; exact ⟨_, h2, fun n hn => by injection hn⟩
  · rename_i h4; exact ⟨_, h4, fun n hn => by cases hn⟩

theorem addr_add (b o n : Nat) : Addr.add ⟨b, o, none⟩ n = ⟨b, o + n, none⟩ := Addr.add_lit b o n
/-- Cells of a block that a pointer reads. -/
def Here (Γ : Con) (w : World) (b o : Nat) (cs : List AV) : Prop :=
  ∃ u : Nat → Value, (∀ j, j < cs.length → w.cell? ⟨b, o + j, none⟩ = some (u j)) ∧ (∀ j, j < cs.length → (u j).oneCell' = true) ∧ ∀ (j : Nat) (hj : j < cs.length), RV Γ cs[j] (u j)
theorem run_rd {t : TypeId} {s : Option Nat} (ht : aggSz P t = some s) {b o off : Nat} {cs : List AV} {a : AV} (hc : Here Γ w b o cs) (ha : rd cs off s = some a) :
    ∃ x, (loadVar t ⟨b, o + off, none⟩).run P w = .ok x w ∧ RV Γ a x := by
  obtain ⟨u, hu, h1, hr⟩ := hc
  obtain ⟨i, hi, hsz⟩ := aggSz_info ht
  unfold loadVar
  rw [Sem.run_bind, run_isAgg ht]
  simp only [Result.andThen_ok]
  cases s with
  | none =>
    simp only [rd] at ha
    obtain ⟨hlt, rfl⟩ := List.getElem?_eq_some_iff.1 ha
    refine ⟨u off, ?_, hr off hlt⟩
    simp [hu off hlt]
  | some n =>
    simp only [rd] at ha
    split at ha
    · rename_i hle
      injection ha with ha
      subst ha
      have hcells : ∀ j, j < n → w.cell? ((⟨b, o + off, none⟩ : Addr).add j) = some (u (off + j)) := by
        intro j hj
        rw [addr_add, Nat.add_assoc]
        exact hu (off + j) (by omega)
      refine ⟨.agg ((List.range n).map fun j => u (off + j)).toArray, ?_, ?_⟩
      · have hl := run_loadCells (P := P) (w := w) ⟨b, o + off, none⟩ n (fun j => u (off + j)) hcells
        simp only [Option.isSome_some, if_true, Sem.run_bind, run_sizeOf' hi, Result.andThen_ok, hsz n rfl, hl, Sem.run_pure]
      · refine .agg (by simp; omega) (fun j hj => ?_) (fun j hj hj' => ?_)
        · simp only [List.size_toArray, List.length_map, List.length_range] at hj
          simpa using h1 (off + j) (by omega)
        · simp only [List.length_take, List.length_drop] at hj
          simpa using hr (off + j) (by omega)
    · cases ha

theorem WR.here {id : Nat} {cs : List AV} (H : WR w0 Γ h w) (ho : h.objs id = some (.cells cs)) {b : Nat} (hb : Γ.rho id = some b) : Here Γ w b 0 cs := by
  obtain ⟨b', hb', _, ⟨vs, e, fr, hh, hl, hc⟩, _⟩ := H.obj ho
  obtain rfl : b = b' := by rw [hb] at hb'; injection hb'
  refine ⟨fun j => vs.getD j undef, fun j hj => ?_, fun j hj => ?_, fun j hj => ?_⟩
  · have : j < vs.size := by omega
    simp [World.cell?, hh, this]
  · have : j < vs.size := by omega
    simpa [this] using (hc j hj this).2.1
  · have : j < vs.size := by omega
    simpa [this] using (hc j hj this).1

theorem run_part {t : TypeId} {s : Option Nat} (ht : aggSz P t = some s) {off : Nat} {cs : List AV} {vs : Array Value} {a : AV} (hs : vs.size = cs.length) (h1 : ∀ (i : Nat) (h : i < vs.size), vs[i].oneCell' = true)
    (hr : ∀ (i : Nat) (h : i < cs.length) (h' : i < vs.size), RV Γ cs[i] vs[i]) (ha : rd cs off s = some a) : ∃ x, (part t vs off).run P w = .ok x w ∧ RV Γ a x := by
  obtain ⟨i, hi, hsz⟩ := aggSz_info ht
  unfold part
  rw [Sem.run_bind, run_isAgg ht]
  simp only [Result.andThen_ok]
  cases s with
  | none =>
    simp only [rd] at ha
    obtain ⟨hlt, rfl⟩ := List.getElem?_eq_some_iff.1 ha
    exact ⟨vs[off], by simp [show off < vs.size by omega], hr off hlt (by omega)⟩
  | some n =>
    simp only [rd] at ha
    split at ha
    · rename_i hle
      injection ha with ha
      subst ha
      refine ⟨.agg (vs.extract off (off + n)), by simp [run_sizeOf' hi, hsz n rfl], .agg (by simp; omega) (fun j hj => ?_) (fun j hj hj' => ?_)⟩
      · simp only [Array.size_extract] at hj
        simpa using h1 (off + j) (by omega)
      · simp only [List.length_take, List.length_drop] at hj
        simpa using hr (off + j) (by omega) (by omega)
    · cases ha
end
end Go.Abs
/- A program logic over abstract states, 4: comparisons, arithmetic, conversions. -/
namespace Go.Abs
open Go Go.RowKit
set_option linter.unusedVariables false
set_option linter.unusedSimpArgs false

def isConst : Operand → Bool
  | .const _ => true
  | _ => false
def ckOf (P : Program) (t : TypeId) : Option CK :=
  match P.underlying t with
  | some (.int _) => some .int
  | some .string => some .str
  | some .bool => some .bool
  | _ => none
def fieldKs (P : Program) : Nat → List Field → Option (List CK)
  | _, [] => some []
  | i, f :: fs => if f.name != "_" && f.offset == i then match ckOf P f.type, fieldKs P (i + 1) fs with
      | some k, some ks => some (k :: ks)
      | _, _ => none
    else none
/-- How '==' compares at a type. -/
def eqOf (P : Program) (t : TypeId) (X Y : Operand) : Option EqK :=
  match P.underlying t with
  | some .bool => some .bool
  | some (.pointer _) => some .ptr
  | some (.interface _) => if isConst X || isConst Y then some .iface else none
  | some (.slice _) => match Y with
    | .const (.slice none 0 0) => some .slice
    | _ => none
  | some (.func _ _ _) => some .func
  | some (.struct fs) => if !P.stoodInHeld t && !P.eqGuardType P.depth t then (fieldKs P 0 fs.toList).map .agg else none
  | some _ => some .other
  | none => none

section
variable {P : Program} {w0 : World} {Γ : Con} {h : AH} {w : World}

theorem equalIn_cell {d : Nat} {t : TypeId} {k : CK} (ht : ckOf P t = some k) {A B : AV} {x y : Value} {b : Bool} (hx : RV Γ A x) (hy : RV Γ B y) (he : cellEq k A B = some b) :
    (Op.equalIn (d + 1) t x y).run P w = .ok b w := by
  unfold ckOf at ht
  unfold cellEq at he
  split at he
  · split at he
    · rename_i k a k' b' hkk
      injection he with he
      subst he; subst hkk
      rw [hx.inv_v, hy.inv_v]
      split at ht <;> simp at ht
      rename_i k0 hu; exact run_equalIn_int w d t k k0 a b' hu
    · cases he
  · rename_i a b'
    injection he with he
    subst he
    rw [hx.inv_v, hy.inv_v]
    split at ht <;> simp at ht
    rename_i hu; exact run_equalIn_string w d t a b' hu
  · rename_i a b'
    injection he with he
    subst he
    rw [hx.inv_v, hy.inv_v]
    split at ht <;> simp at ht
    rename_i hu; exact run_equalIn_bool' w d t a b' hu
  · cases he

theorem run_part_one {t : TypeId} {k : CK} (ht : ckOf P t = some k) {vs : Array Value} {i : Nat} (hi : i < vs.size) : (part t vs i).run P w = .ok vs[i] w := by
  unfold part isAgg
  unfold ckOf at ht
  split at ht <;> simp at ht <;> (rename_i hu; simp [run_underlying hu, hi])

theorem eqFields_cells {d : Nat} (xs ys : Array Value) : ∀ (fs : List Field) (i : Nat) (ks : List CK) (as bs : List AV) (b : Bool), fieldKs P i fs = some ks → cellsEq ks as bs = some b →
    (∀ (j : Nat) (h : j < as.length), ∃ h' : i + j < xs.size, RV Γ as[j] xs[i + j]) → (∀ (j : Nat) (h : j < bs.length), ∃ h' : i + j < ys.size, RV Γ bs[j] ys[i + j]) →
    (Op.eqFields (d + 1) xs ys fs).run P w = .ok b w
  | [], i, ks, as, bs, b, hk, hc, _, _ => by
    simp only [fieldKs, Option.some.injEq] at hk
    subst hk
    cases as <;> cases bs <;> simp [cellsEq] at hc
    subst hc
    rfl
  | f :: fs, i, ks, as, bs, b, hk, hc, hx, hy => by
    simp only [fieldKs] at hk
    split at hk
    · rename_i hn
      simp only [Bool.and_eq_true, bne_iff_ne, ne_eq, beq_iff_eq] at hn
      split at hk
      · rename_i k ks' h1 h2
        injection hk with hk
        subst hk
        cases as with
        | nil => simp [cellsEq] at hc
        | cons a as =>
          cases bs with
          | nil => simp [cellsEq] at hc
          | cons b' bs =>
            obtain ⟨hx0, hx1⟩ := hx 0 (by simp)
            obtain ⟨hy0, hy1⟩ := hy 0 (by simp)
            simp only [Nat.add_zero, List.getElem_cons_zero] at hx0 hx1 hy0 hy1
            simp only [cellsEq] at hc
            simp only [Op.eqFields, ne_eq, hn.1, not_false_eq_true, if_true, hn.2]
            rw [Sem.run_bind, run_part_one h1 hx0]
            simp only [Result.andThen_ok]
            rw [Sem.run_bind, run_part_one h1 hy0]
            simp only [Result.andThen_ok]
            split at hc
            · rename_i he
              rw [Sem.run_bind, equalIn_cell h1 hx1 hy1 he]
              simp only [Result.andThen_ok, Bool.not_true, Bool.false_eq_true, if_false]
              refine eqFields_cells xs ys fs (i + 1) ks' as bs b h2 hc (fun j hj => ?_) (fun j hj => ?_)
              · obtain ⟨u1, u2⟩ := hx (j + 1) (by simpa using hj)
                have e : i + (j + 1) = i + 1 + j := by omega
                refine ⟨by omega, ?_⟩
                simp only [List.getElem_cons_succ] at u2
                simpa only [e] using u2
              · obtain ⟨u1, u2⟩ := hy (j + 1) (by simpa using hj)
                have e : i + (j + 1) = i + 1 + j := by omega
                refine ⟨by omega, ?_⟩
                simp only [List.getElem_cons_succ] at u2
                simpa only [e] using u2
            · rename_i he
              injection hc with hc
              subst hc
              rw [Sem.run_bind, equalIn_cell h1 hx1 hy1 he]
              simp
            · cases hc
      · cases hk
    · cases hk

theorem run_eqB {t : TypeId} {X Y : Operand} {k : EqK} (hk : eqOf P t X Y = some k) {A B : AV} {x y : Value} {b : Bool} (hx : RV Γ A x) (hy : RV Γ B y) (he : eqB k A B = some b) (hyc : ∀ v, Y = .const v → y = v) (op : BinOp) (d : Nat) :
    (eqGuard op t X Y x y).run P w = .ok () w ∧ (Op.equalIn (d + 1 + 1) t x y).run P w = .ok b w ∧ binOp .eql t x y = (do pure (.bool (← Op.equal t x y))) ∧ binOp .neq t x y = (do pure (.bool (!(← Op.equal t x y)))) := by
  have hnil : ∀ {X Y : Operand}, (isConst X || isConst Y) = true → ∀ op, eqGuard op t X Y .nilIface .nilIface = pure () := by
    intro X Y hc op
    cases X <;> cases Y <;> simp [isConst] at hc <;> cases op <;> rfl
  unfold eqB at he
  unfold eqOf at hk
  split at he <;> first | (simp at he; done) | (simp only [Option.some.injEq] at he) | skip
  -- bool
  · subst he
    rw [hx.inv_v, hy.inv_v]
    have hu : P.underlying t = some .bool := by split at hk <;> first | assumption | (simp at hk; done) | (split at hk <;> simp at hk)
    refine ⟨by rw [eqGuard_at_bool]; rfl, ?_, rfl, rfl⟩
    exact run_equalIn_bool' w (d + 1) t _ _ hu
  -- pointers
  · subst he
    rw [hx.inv_v, hy.inv_v]
    obtain ⟨e, hu⟩ : ∃ e, P.underlying t = some (.pointer e) := by split at hk <;> first | exact ⟨_, by assumption⟩ | (simp at hk; done) | (split at hk <;> simp at hk)
    exact ⟨by rw [eqGuard_at_pointer]; rfl, by rw [Op.equalIn, Sem.run_bind, run_underlying hu]; rfl, rfl, rfl⟩
  · subst he
    obtain ⟨bb, _, rfl⟩ := hy.inv_ptr
    rw [hx.inv_v]
    obtain ⟨e, hu⟩ : ∃ e, P.underlying t = some (.pointer e) := by split at hk <;> first | exact ⟨_, by assumption⟩ | (simp at hk; done) | (split at hk <;> simp at hk)
    exact ⟨by rw [eqGuard_at_pointer]; rfl, by rw [Op.equalIn, Sem.run_bind, run_underlying hu]; rfl, rfl, rfl⟩
  · subst he
    obtain ⟨bb, oo, uu, rfl, _⟩ := hy.inv_lptr
    rw [hx.inv_v]
    obtain ⟨e, hu⟩ : ∃ e, P.underlying t = some (.pointer e) := by split at hk <;> first | exact ⟨_, by assumption⟩ | (simp at hk; done) | (split at hk <;> simp at hk)
    exact ⟨by rw [eqGuard_at_pointer]; rfl, by rw [Op.equalIn, Sem.run_bind, run_underlying hu]; rfl, rfl, rfl⟩
  · subst he
    obtain ⟨bb, _, rfl⟩ := hx.inv_ptr
    rw [hy.inv_v]
    obtain ⟨e, hu⟩ : ∃ e, P.underlying t = some (.pointer e) := by split at hk <;> first | exact ⟨_, by assumption⟩ | (simp at hk; done) | (split at hk <;> simp at hk)
    exact ⟨by rw [eqGuard_at_pointer]; rfl, by rw [Op.equalIn, Sem.run_bind, run_underlying hu]; rfl, rfl, rfl⟩
  · subst he
    obtain ⟨bb, oo, uu, rfl, _⟩ := hx.inv_lptr
    rw [hy.inv_v]
    obtain ⟨e, hu⟩ : ∃ e, P.underlying t = some (.pointer e) := by split at hk <;> first | exact ⟨_, by assumption⟩ | (simp at hk; done) | (split at hk <;> simp at hk)
    exact ⟨by rw [eqGuard_at_pointer]; rfl, by rw [Op.equalIn, Sem.run_bind, run_underlying hu]; rfl, rfl, rfl⟩
  -- interfaces
  · subst he
    rw [hx.inv_v, hy.inv_v]
    obtain ⟨⟨ms, hu⟩, hc⟩ : (∃ e, P.underlying t = some (.interface e)) ∧ (isConst X || isConst Y) = true := by
      split at hk <;> first | (rename_i hu; split at hk <;> first | (simp at hk; done) | exact ⟨⟨_, hu⟩, by assumption⟩) | (simp at hk; done) | (split at hk <;> simp at hk)
    exact ⟨by rw [hnil hc]; rfl, by rw [Op.equalIn, Sem.run_bind, run_underlying hu]; rfl, rfl, rfl⟩
  · subst he
    obtain ⟨z, rfl, _⟩ := hx.inv_iface
    rw [hy.inv_v]
    obtain ⟨⟨ms, hu⟩, hc⟩ : (∃ e, P.underlying t = some (.interface e)) ∧ (isConst X || isConst Y) = true := by
      split at hk <;> first | (rename_i hu; split at hk <;> first | (simp at hk; done) | exact ⟨⟨_, hu⟩, by assumption⟩) | (simp at hk; done) | (split at hk <;> simp at hk)
    exact ⟨by rw [eqGuard_at_iface]; rfl, by rw [Op.equalIn, Sem.run_bind, run_underlying hu]; rfl, rfl, rfl⟩
  · subst he
    obtain ⟨z, rfl, _⟩ := hy.inv_iface
    rw [hx.inv_v]
    obtain ⟨⟨ms, hu⟩, hc⟩ : (∃ e, P.underlying t = some (.interface e)) ∧ (isConst X || isConst Y) = true := by
      split at hk <;> first | (rename_i hu; split at hk <;> first | (simp at hk; done) | exact ⟨⟨_, hu⟩, by assumption⟩) | (simp at hk; done) | (split at hk <;> simp at hk)
    exact ⟨by rw [eqGuard_nil_iface]; rfl, by rw [Op.equalIn, Sem.run_bind, run_underlying hu]; rfl, rfl, rfl⟩
  -- slices
  · subst he
    obtain ⟨⟨e, hu⟩, hn⟩ : (∃ e, P.underlying t = some (.slice e)) ∧ y = .slice none 0 0 := by
      split at hk <;> first | (rename_i hu; split at hk <;> first | (simp at hk; done) | exact ⟨⟨_, hu⟩, hyc _ rfl⟩) | (simp at hk; done) | (split at hk <;> simp at hk)
    subst hn
    cases hx with
    | list hc hsz hF h1 hr ht => exact ⟨by rw [eqGuard_at_slice]; rfl, by rw [Op.equalIn, Sem.run_bind, run_underlying hu]; rfl, rfl, rfl⟩
  · subst he
    obtain ⟨⟨e, hu⟩, hn⟩ : (∃ e, P.underlying t = some (.slice e)) ∧ y = .slice none 0 0 := by
      split at hk <;> first | (rename_i hu; split at hk <;> first | (simp at hk; done) | exact ⟨⟨_, hu⟩, hyc _ rfl⟩) | (simp at hk; done) | (split at hk <;> simp at hk)
    subst hn
    obtain ⟨bb, c, _, rfl, _⟩ := hx.inv_row
    exact ⟨by rw [eqGuard_at_slice]; rfl, by rw [Op.equalIn, Sem.run_bind, run_underlying hu]; rfl, rfl, rfl⟩
  -- functions
  · subst he
    obtain ⟨vf, vc, rfl, _⟩ := hx.inv_func
    rw [hy.inv_v]
    obtain ⟨e, e', e'', hu⟩ : ∃ e e' e'', P.underlying t = some (.func e e' e'') := by split at hk <;> first | exact ⟨_, _, _, by assumption⟩ | (simp at hk; done) | (split at hk <;> simp at hk)
    exact ⟨by rw [eqGuard_at_func]; rfl, by rw [Op.equalIn, Sem.run_bind, run_underlying hu]; rfl, rfl, rfl⟩
  · subst he
    rw [hx.inv_v, hy.inv_v]
    obtain ⟨e, e', e'', hu⟩ : ∃ e e' e'', P.underlying t = some (.func e e' e'') := by split at hk <;> first | exact ⟨_, _, _, by assumption⟩ | (simp at hk; done) | (split at hk <;> simp at hk)
    exact ⟨by rw [eqGuard_at_nilFunc]; rfl, by rw [Op.equalIn, Sem.run_bind, run_underlying hu]; rfl, rfl, rfl⟩
  -- structs
  · obtain ⟨xs, rfl, hxs, _, hxr⟩ := hx.inv_agg
    obtain ⟨ys, rfl, hys, _, hyr⟩ := hy.inv_agg
    split at hk <;> first | (simp at hk; done) | skip
    · split at hk <;> simp at hk
    · rename_i fs hu
      split at hk
      · rename_i hg
        simp only [Bool.and_eq_true, Bool.not_eq_true'] at hg
        simp only [Option.map_eq_some_iff] at hk
        obtain ⟨ks, hks, hk⟩ := hk
        injection hk with hk
        subst hk
        have hfo : P.fieldsOf t = fs := by simp [Program.fieldsOf, hu]
        have hu' : P.underlying t = some (.struct (P.fieldsOf t)) := by rw [hfo]; exact hu
        refine ⟨run_eqGuard_agg w op t X Y xs ys hg.2, ?_, rfl, rfl⟩
        rw [run_equalIn_struct w (d + 1) t xs ys hu' hg.1, hfo]
        refine eqFields_cells (Γ := Γ) (d := d) xs ys fs.toList 0 ks _ _ b hks he (fun j hj => ?_) (fun j hj => ?_)
        · exact ⟨by omega, by simpa using hxr j hj (by omega)⟩
        · exact ⟨by omega, by simpa using hyr j hj (by omega)⟩
      · cases hk
theorem run_intBin {op : BinOp} {k : IntKind} {a b : Int} {z : Value} (hz : intBin op k a b = some z) (t : TypeId) : (binOp op t (.int k a) (.int k b)).run P w = .ok z w := by
  unfold intBin at hz
  split at hz <;> first
    | (cases hz; done)
    | (injection hz with hz; subst hz; simp [binOp, Op.intArith, Op.intBits, Op.intCmp, bits]; done)
    | (split at hz <;> first | (cases hz; done) | (rename_i hb; injection hz with hz; subst hz; simp [binOp, Op.intDiv, hb]; done))
theorem run_shiftBin {op : BinOp} {k yk : IntKind} {a b : Int} {z : Value} (hz : shiftBin op k a b = some z) (t : TypeId) : (binOp op t (.int k a) (.int yk b)).run P w = .ok z w := by
  unfold shiftBin at hz
  split at hz
  · rename_i hb
    split at hz
    · injection hz with hz; subst hz
      rw [binOp_shl, shift_shl k yk a b hb.1 hb.2]; rfl
    · injection hz with hz; subst hz
      rw [binOp_shr, shift_shr k yk a b hb.1 hb.2]; rfl
    · cases hz
  · cases hz
theorem run_strBin {op : BinOp} {a b : ByteArray} {z : Value} (hz : strBin op a b = some z) (t : TypeId) : (binOp op t (.string a) (.string b)).run P w = .ok z w := by
  unfold strBin at hz
  split at hz
  · split at hz
    · rename_i hle
      injection hz with hz; subst hz
      have : ¬ ((a.size + b.size : Nat) : Int) > IntKind.i64.max := by rw [IntKind.max_i64]; omega
      simp only [binOp, Op.stringOp, this, if_false]
      rfl
    · cases hz
  all_goals first | (cases hz; done) | (injection hz with hz; subst hz; simp [binOp, Op.stringOp]; done)

/-- What '==', '+', '<' .. come to. -/
theorem run_abin {op : BinOp} {t : TypeId} {X Y : Operand} {k : EqK} (hk : eqOf P t X Y = some k) {A B C : AV} {x y : Value} (hx : RV Γ A x) (hy : RV Γ B y) (hyc : ∀ v, Y = .const v → y = v) (hc : abin op k A B = some C) :
    ∃ z, (do eqGuard op t X Y x y; binOp op t x y : Sem Value).run P w = .ok z w ∧ RV Γ C z := by
  unfold abin at hc
  split at hc
  · rename_i ka a kb b
    rw [hx.inv_v, hy.inv_v]
    split at hc
    · simp only [Option.map_eq_some_iff] at hc
      obtain ⟨z, hz, rfl⟩ := hc
      exact ⟨z, by rw [eqGuard_at_int]; exact run_shiftBin (yk := kb) hz t, .v z⟩
    · simp only [Option.map_eq_some_iff] at hc
      obtain ⟨z, hz, rfl⟩ := hc
      exact ⟨z, by rw [eqGuard_at_int]; exact run_shiftBin (yk := kb) hz t, .v z⟩
    · split at hc
      · rename_i hkk
        subst hkk
        simp only [Option.map_eq_some_iff] at hc
        obtain ⟨z, hz, rfl⟩ := hc
        exact ⟨z, by rw [eqGuard_at_int]; exact run_intBin hz t, .v z⟩
      · cases hc
  · rename_i a b
    rw [hx.inv_v, hy.inv_v]
    simp only [Option.map_eq_some_iff] at hc
    obtain ⟨z, hz, rfl⟩ := hc
    exact ⟨z, by rw [eqGuard_at_string]; exact run_strBin hz t, .v z⟩
  · split at hc
    · simp only [Option.map_eq_some_iff] at hc
      obtain ⟨b, hb, rfl⟩ := hc
      obtain ⟨h1, h2, h3, h4⟩ := run_eqB (w := w) hk hx hy hb hyc .eql 9998
      refine ⟨_, ?_, .v _⟩
      rw [Sem.run_bind, h1]
      simp only [Result.andThen_ok, h3, Sem.run_bind]
      rw [show (Op.equal t x y).run P w = .ok b w from h2]
      rfl
    · simp only [Option.map_eq_some_iff] at hc
      obtain ⟨b, hb, rfl⟩ := hc
      obtain ⟨h1, h2, h3, h4⟩ := run_eqB (w := w) hk hx hy hb hyc .neq 9998
      refine ⟨_, ?_, .v _⟩
      rw [Sem.run_bind, h1]
      simp only [Result.andThen_ok, h4, Sem.run_bind]
      rw [show (Op.equal t x y).run P w = .ok b w from h2]
      rfl
    · cases hc
theorem run_aun {op : UnOp} {A C : AV} {x : Value} (hx : RV Γ A x) (hc : aun op A = some C) : ∃ z, (Op.unary op x).run P w = .ok z w ∧ RV Γ C z := by
  unfold aun at hc
  split at hc
  · rw [hx.inv_v]
    split at hc <;> first | (cases hc; done) | (injection hc with hc; subst hc; exact ⟨_, rfl, .v _⟩)
  · rw [hx.inv_v]
    split at hc <;> first | (cases hc; done) | (injection hc with hc; subst hc; exact ⟨_, by simp [Op.unary, Op.intArith, Op.intBits, bits], .v _⟩)
  · cases hc

end
end Go.Abs
/- A program logic over abstract states, 5: new objects, stores, rows that never turn, appends: what they do to the relation of heap and world. -/
namespace Go.Abs
open Go Go.RowKit
set_option linter.unusedVariables false
set_option linter.unusedSimpArgs false

def Con.withObj (Γ : Con) (i b : Nat) : Con := { Γ with rho := fun j => if j = i then some b else Γ.rho j }
def Con.withRow (Γ : Con) (b : Nat) (f : Nat → Option Value) : Con := { Γ with F := fun k o => if k = b then f o else Γ.F k o }
def Con.withTok (Γ : Con) (t v : Nat) (T : TokAt) : Con := { Γ with tau := fun t' v' => if t' = t ∧ v' = v then some T else Γ.tau t' v' }

/-- One block has turned, no other. -/
structure Chg (w w' : World) (b : Nat) : Prop where
  os : w'.os = w.os
  tape : w'.tape = w.tape
  output : w'.output = w.output
  size : w'.heap.size = w.heap.size
  other : ∀ k, k ≠ b → w'.heap[k]? = w.heap[k]?
theorem Chg.refl (w : World) (b : Nat) : Chg w w b := ⟨rfl, rfl, rfl, rfl, fun _ _ => rfl⟩
theorem Chg.trans {a b' c : World} {b : Nat} (h : Chg a b' b) (k : Chg b' c b) : Chg a c b :=
  ⟨k.os.trans h.os, k.tape.trans h.tape, k.output.trans h.output, k.size.trans h.size, fun i hi => (k.other i hi).trans (h.other i hi)⟩
theorem Chg.below {B : Nat} {w0 w w' : World} {b : Nat} (h : Chg w w' b) (hb : B ≤ b) (H : Below B w0 w) : Below B w0 w' :=
  ⟨h.os.trans H.os, h.tape.trans H.tape, h.output.trans H.output, by rw [h.size]; exact H.size, fun k hk => (h.other k (by omega)).trans (H.block k hk)⟩
theorem Chg.cell {w w' : World} {b : Nat} (h : Chg w w' b) {a : Addr} (ha : a.block ≠ b) : w'.cell? a = w.cell? a := World.cell?_of_block (h.other _ ha)

section
variable {w0 : World} {Γ : Con} {h : AH} {w : World}

theorem WR.le_obj (H : WR w0 Γ h w) (b : Nat) : Γ.le (Γ.withObj h.n b) := by
  refine ⟨fun x => x, fun {i b'} hi => ?_, fun x => x⟩
  have := (H.rlt hi).1
  simp only [Con.withObj]
  rw [if_neg (by omega)]
  exact hi
/-- A new object. -/
theorem WR.new (H : WR w0 Γ h w) (O : Obj) (o : AObj) (ho : ∀ w' : World, w'.heap[w.heap.size]? = some O → ObjAt (Γ.withObj h.n w.heap.size) w' w.heap.size o) :
    WR w0 (Γ.withObj h.n w.heap.size) (h.alloc o) (w.alloc O) := by
  have hle := H.le_obj w.heap.size
  have HA := H.alloc O
  have lt : ∀ {i b}, Γ.rho i = some b → b ≠ w.heap.size ∧ i ≠ h.n := fun hi => by have := H.rlt hi; omega
  have hcase : ∀ {i b}, (Γ.withObj h.n w.heap.size).rho i = some b → (i = h.n ∧ b = w.heap.size) ∨ Γ.rho i = some b := by
    intro i b hi
    simp only [Con.withObj] at hi
    split at hi
    · injection hi with hi; exact .inl ⟨by assumption, hi.symm⟩
    · exact .inr hi
  have hobj : ∀ {i}, ((h.alloc o).objs i).isSome → i = h.n ∨ (h.objs i).isSome := by
    intro i hi
    simp only [AH.alloc] at hi
    split at hi
    · exact .inl (by assumption)
    · exact .inr hi
  refine ⟨HA.below, HA.fcell, ?_, ?_, ?_, ?_, H.tinj, H.tnew⟩
  · intro i o' hi
    simp only [AH.alloc] at hi
    split at hi
    · injection hi with hi
      subst hi
      rename_i hin
      exact ⟨w.heap.size, by simp [Con.withObj, hin], H.below.size, ho _ (heap_alloc_new w O), fun off => H.fnone (Nat.le_refl _) off⟩
    · obtain ⟨b, h1, h2, h3, h4⟩ := HA.obj hi
      exact ⟨b, hle.rho h1, h2, h3.mono hle, h4⟩
  · intro i j b hi hj hbi hbj
    rcases hcase hbi with ⟨rfl, rfl⟩ | hbi' <;> rcases hcase hbj with ⟨rfl, hb⟩ | hbj'
    · rfl
    · exact absurd rfl (lt hbj').1
    · exact absurd hb (lt hbi').1
    · rcases hobj hi with rfl | hi'
      · exact absurd rfl (lt hbi').2
      · rcases hobj hj with rfl | hj'
        · exact absurd rfl (lt hbj').2
        · exact H.inj hi' hj' hbi' hbj'
  · intro i b hi
    rcases hcase hi with ⟨rfl, rfl⟩ | hi'
    · simp [AH.alloc]
    · have := H.rlt hi'
      simp only [AH.alloc, World.size_alloc]; omega
  · intro t T ht
    obtain ⟨h1, ⟨h2, vs, e, fr, h3, h4, h5⟩, h6⟩ := HA.tok ht
    obtain ⟨_, ⟨_, vs', e', fr', h3', _⟩, _⟩ := H.tok ht
    refine ⟨h1, ⟨h2, vs, e, fr, h3, h4, h5⟩, fun i hi hb => ?_⟩
    have hlt : T.blk < w.heap.size := (Array.getElem?_eq_some_iff.1 h3').1
    rcases hcase hb with ⟨_, hb'⟩ | hb'
    · omega
    · rcases hobj hi with rfl | hi'
      · exact (lt hb').2 rfl
      · exact h6 i hi' hb'

/-- A row is laid that never turns. -/
theorem WR.row (H : WR w0 Γ h w) (vs : Array Value) (e : TypeId) (fr : Nat × Nat) (k : Nat) : WR w0 (Γ.withRow w.heap.size fun o => if o < k then vs[o]? else none) h (w.alloc (.cells vs e fr)) ∧
    Γ.le (Γ.withRow w.heap.size fun o => if o < k then vs[o]? else none) := by
  have HA := H.alloc (.cells vs e fr)
  have hle : Γ.le (Γ.withRow w.heap.size fun o => if o < k then vs[o]? else none) := by
    refine ⟨fun {b o x} hx => ?_, fun x => x, fun x => x⟩
    simp only [Con.withRow]
    rw [if_neg (by have := H.flt hx; omega)]
    exact hx
  refine ⟨⟨HA.below, ?_, ?_, H.inj, HA.rlt, ?_, H.tinj, H.tnew⟩, hle⟩
  · intro b o x hx
    simp only [Con.withRow] at hx
    split at hx
    · rename_i hb
      subst hb
      split at hx
      · simp only [World.cell?, heap_alloc_new]
        exact hx
      · cases hx
    · exact HA.fcell hx
  · intro i o ho
    obtain ⟨b, h1, h2, h3, h4⟩ := HA.obj ho
    refine ⟨b, h1, h2, h3.mono hle, fun off => ?_⟩
    simp only [Con.withRow]
    rw [if_neg (by have := H.rlt h1; omega)]
    exact h4 off
  · intro t T ht
    obtain ⟨h1, ⟨h2, vs', e', fr', h3, h4, h5⟩, h6⟩ := HA.tok ht
    obtain ⟨_, ⟨_, vs2, e2, fr2, h32, _⟩, _⟩ := H.tok ht
    have hlt : T.blk < w.heap.size := (Array.getElem?_eq_some_iff.1 h32).1
    refine ⟨h1, ⟨h2, vs', e', fr', h3, h4, fun off a b => ?_⟩, h6⟩
    simp only [Con.withRow]
    rw [if_neg (by omega)]
    exact h5 off a b

/-- An object's block turns. -/
theorem WR.turn (H : WR w0 Γ h w) {id b : Nat} {o o' : AObj} (ho : h.objs id = some o) (hb : Γ.rho id = some b) {w' : World} (hc : Chg w w' b) (ho' : ObjAt Γ w' b o') (hk : ∀ vs t fr, w.heap[b]? = some (.cells vs t fr) → ∃ vs' fr', w'.heap[b]? = some (.cells vs' t fr') ∧ vs'.size = vs.size) : WR w0 Γ (h.set id o') w' := by
  obtain ⟨b', hb', hge, hat, hF⟩ := H.obj ho
  obtain rfl : b = b' := by rw [hb] at hb'; injection hb'
  have hobj : ∀ {i}, ((h.set id o').objs i).isSome → (h.objs i).isSome := by
    intro i hi
    simp only [AH.set] at hi
    split at hi
    · rename_i e; rw [e, ho]; rfl
    · exact hi
  refine ⟨hc.below hge H.below, ?_, ?_, fun hi hj => H.inj (hobj hi) (hobj hj), ?_, ?_, H.tinj, H.tnew⟩
  · intro k off x hx
    have : k ≠ b := by rintro rfl; rw [hF off] at hx; cases hx
    exact (hc.cell (a := ⟨k, off, none⟩) this).trans (H.fcell hx)
  · intro i oi hi
    simp only [AH.set] at hi
    split at hi
    · rename_i e
      injection hi with hi
      subst hi; subst e
      exact ⟨b, hb, hge, ho', hF⟩
    · rename_i hne
      obtain ⟨bi, h1, h2, h3, h4⟩ := H.obj hi
      refine ⟨bi, h1, h2, h3.at_ (hc.other bi ?_), h4⟩
      rintro rfl
      exact hne (H.inj (by rw [hi]; rfl) (by rw [ho]; rfl) h1 hb)
  · intro i bi hi
    have := H.rlt hi
    rw [hc.size]; exact this
  · intro t T ht
    obtain ⟨h1, ⟨h2, vs, e, fr, h3, h4, h5⟩, h6⟩ := H.tok ht
    refine ⟨h1, ⟨h2, vs, e, fr, (hc.other T.blk ?_).trans h3, h4, h5⟩, fun i hi => h6 i (hobj hi)⟩
    rintro rfl
    exact h6 id (by rw [ho]; rfl) hb

/-- The world draws, and no more. -/
theorem size_pos_of {b : Nat} {o : Obj} (hb : w.heap[b]? = some o) : b < w.heap.size := (Array.getElem?_eq_some_iff.1 hb).1

/-! stores into a block -/
def putBlk (w : World) (b : Nat) (o : Obj) : World := { w with heap := w.heap.setIfInBounds b o }
theorem putBlk_chg (w : World) (b : Nat) (o : Obj) : Chg w (putBlk w b o) b :=
  ⟨rfl, rfl, rfl, by simp [putBlk], fun k hk => by simp only [putBlk]; rw [Array.getElem?_setIfInBounds_ne (fun e => hk e.symm)]⟩
theorem putBlk_at {w : World} {b : Nat} {x : Obj} (hb : w.heap[b]? = some x) (o : Obj) : (putBlk w b o).heap[b]? = some o := by
  have := size_pos_of hb
  simp [putBlk, this]
theorem setCell_putBlk {b off : Nat} {vs : Array Value} {e : TypeId} {fr : Nat × Nat} (hb : w.heap[b]? = some (.cells vs e fr)) (x : Value) :
    w.setCell ⟨b, off, none⟩ x = putBlk w b (.cells (vs.setIfInBounds off x) e fr) := by
  unfold World.setCell putBlk
  congr 1
  apply Array.ext_getElem?
  intro i
  rw [Array.getElem?_modify]
  by_cases hi : b = i
  · subst hi
    rw [hb]
    have := size_pos_of hb
    simp [this]
  · rw [if_neg hi, Array.getElem?_setIfInBounds_ne hi]
def wrA : Array Value → Nat → List Value → Array Value
  | vs, _, [] => vs
  | vs, off, x :: xs => wrA (vs.setIfInBounds off x) (off + 1) xs
theorem wrA_size : ∀ (xs : List Value) (vs : Array Value) (off : Nat), (wrA vs off xs).size = vs.size
  | [], _, _ => rfl
  | x :: xs, vs, off => by rw [wrA, wrA_size xs]; simp
theorem wrL_length : ∀ (xs : List AV) (vs : List AV) (off : Nat), (wrL vs off xs).length = vs.length
  | [], _, _ => rfl
  | x :: xs, vs, off => by rw [wrL, wrL_length xs]; simp
theorem wrA_at : ∀ (xs : List Value) (vs : Array Value) (off i : Nat), (wrA vs off xs)[i]? = if off ≤ i ∧ i < off + xs.length ∧ i < vs.size then xs[i - off]? else vs[i]?
  | [], vs, off, i => by simp only [wrA, List.length_nil]; rw [if_neg (by omega)]
  | x :: xs, vs, off, i => by
    rw [wrA, wrA_at xs]
    simp only [Array.size_setIfInBounds, List.length_cons]
    by_cases h1 : off + 1 ≤ i ∧ i < off + 1 + xs.length ∧ i < vs.size
    · rw [if_pos h1, if_pos (by omega)]
      obtain ⟨m, rfl⟩ : ∃ m, i = off + 1 + m := ⟨i - (off + 1), by omega⟩
      rw [show off + 1 + m - (off + 1) = m by omega, show off + 1 + m - off = m + 1 by omega]; rfl
    · rw [if_neg h1]
      by_cases h2 : i = off
      · subst h2
        by_cases h3 : i < vs.size
        · rw [if_pos (by omega)]; simp [h3]
        · rw [if_neg (by omega)]; simp [h3]
      · rw [if_neg (by omega), Array.getElem?_setIfInBounds_ne (fun e => h2 e.symm)]
theorem run_storeCells (P : Program) {b off : Nat} {e : TypeId} {fr : Nat × Nat} : ∀ (xs : List Value) (i : Nat) (vs : Array Value) (w : World), w.heap[b]? = some (.cells vs e fr) → (∀ x ∈ xs, x.oneCell' = true) →
    off + i + xs.length ≤ vs.size → (∀ k, off + i ≤ k → k < off + i + xs.length → free fr k) →
    (storeCells ⟨b, off, none⟩ xs i).run P w = .ok () (putBlk w b (.cells (wrA vs (off + i) xs) e fr))
  | [], i, vs, w, hb, _, _, _ => by
    simp only [storeCells, Sem.run_pure, wrA]
    congr 1
    unfold putBlk
    have := size_pos_of hb
    have e2 : w.heap.setIfInBounds b (.cells vs e fr) = w.heap := by
      apply Array.ext_getElem?
      intro k
      by_cases hk : b = k
      · subst hk; rw [hb]; simp [this]
      · rw [Array.getElem?_setIfInBounds_ne hk]
    rw [e2]
  | x :: xs, i, vs, w, hb, h1, hsz, hfr => by
    simp only [storeCells, Sem.run_bind, addr_add]
    simp only [List.length_cons] at hsz hfr
    have hcell : w.cell? ⟨b, off + i, none⟩ = some (vs[off + i]'(by omega)) := by simp [World.cell?, hb, show off + i < vs.size by omega]
    have hfree : w.frozen? ⟨b, off + i, none⟩ = false := by
      have := hfr (off + i) (by omega) (by omega)
      unfold free at this
      simp only [World.frozen?, hb, Bool.and_eq_false_iff, decide_eq_false_iff_not]
      omega
    rw [run_store P w _ x .plain (h1 x (by simp)), hcell]
    simp only [hfree, Bool.false_eq_true, if_false, Result.andThen_ok, setCell_putBlk hb]
    have hb' := putBlk_at hb (.cells (vs.setIfInBounds (off + i) x) e fr)
    rw [run_storeCells P xs (i + 1) _ _ hb' (fun y hy => h1 y (by simp [hy])) (by simp; omega) (fun k a c => hfr k (by omega) (by omega))]
    congr 1
    unfold putBlk
    simp only [World.mk.injEq, true_and, and_true]
    rw [show off + (i + 1) = off + i + 1 by omega]
    apply Array.ext_getElem?
    intro k
    by_cases hk : b = k
    · subst hk
      have := size_pos_of hb
      simp [this, wrA]
    · rw [Array.getElem?_setIfInBounds_ne hk, Array.getElem?_setIfInBounds_ne hk, Array.getElem?_setIfInBounds_ne hk]
theorem wrL_at : ∀ (xs : List AV) (vs : List AV) (off i : Nat), (wrL vs off xs)[i]? = if off ≤ i ∧ i < off + xs.length ∧ i < vs.length then xs[i - off]? else vs[i]?
  | [], vs, off, i => by simp only [wrL, List.length_nil]; rw [if_neg (by omega)]
  | x :: xs, vs, off, i => by
    rw [wrL, wrL_at xs]
    simp only [List.length_set, List.length_cons]
    by_cases h1 : off + 1 ≤ i ∧ i < off + 1 + xs.length ∧ i < vs.length
    · rw [if_pos h1, if_pos (by omega)]
      obtain ⟨m, rfl⟩ : ∃ m, i = off + 1 + m := ⟨i - (off + 1), by omega⟩
      rw [show off + 1 + m - (off + 1) = m by omega, show off + 1 + m - off = m + 1 by omega]; rfl
    · rw [if_neg h1]
      by_cases h2 : i = off
      · subst h2
        by_cases h3 : i < vs.length
        · rw [if_pos (by omega)]; simp [h3]
        · rw [if_neg (by omega)]; simp [h3]
      · rw [if_neg (by omega), List.getElem?_set_ne (fun e => h2 e.symm)]
/-- Cells stored into an object. -/
theorem WR.store (P : Program) (H : WR w0 Γ h w) {id b off : Nat} {cs as : List AV} {xs : List Value} (ho : h.objs id = some (.cells cs)) (hb : Γ.rho id = some b) (hx : Cells Γ as xs) (hle : off + as.length ≤ cs.length) :
    ∃ w', (storeCells ⟨b, off, none⟩ xs).run P w = .ok () w' ∧ WR w0 Γ (h.set id (.cells (wrL cs off as))) w' := by
  obtain ⟨b', hb', _, ⟨vs, e, fr, hh, hl, hc⟩, _⟩ := H.obj ho
  obtain rfl : b = b' := by rw [hb] at hb'; injection hb'
  have hlen := hx.len
  have hr := run_storeCells P (off := off) xs 0 vs w hh hx.one (by omega) (fun k a c => (hc k (by omega) (by omega)).2.2)
  simp only [Nat.add_zero] at hr
  refine ⟨_, hr, H.turn ho hb (putBlk_chg w b _) ⟨_, e, fr, putBlk_at hh _, by rw [wrA_size, wrL_length]; exact hl, fun i hi hi' => ?_⟩ (fun vs' t' fr' h' => by
    rw [hh] at h'
    cases h'
    exact ⟨_, _, putBlk_at hh _, wrA_size _ _ _⟩)⟩
  have hi1 : i < cs.length := by rwa [wrL_length] at hi
  have hi2 : i < vs.size := by rwa [wrA_size] at hi'
  have eL := wrL_at as cs off i
  have eA := wrA_at xs vs off i
  rw [List.getElem?_eq_getElem hi] at eL
  rw [Array.getElem?_eq_getElem hi'] at eA
  refine ⟨?_, ?_, (hc i hi1 hi2).2.2⟩
  · by_cases hin : off ≤ i ∧ i < off + as.length
    · rw [if_pos (by omega), List.getElem?_eq_getElem (by omega)] at eL
      rw [if_pos (by omega), List.getElem?_eq_getElem (by omega)] at eA
      injection eL with eL
      injection eA with eA
      rw [eL, eA]
      exact hx.at_ (i - off) (by omega) (by omega)
    · rw [if_neg (by omega), List.getElem?_eq_getElem hi1] at eL
      rw [if_neg (by omega), Array.getElem?_eq_getElem hi2] at eA
      injection eL with eL
      injection eA with eA
      rw [eL, eA]
      exact (hc i hi1 hi2).1
  · by_cases hin : off ≤ i ∧ i < off + as.length
    · rw [if_pos (by omega), List.getElem?_eq_getElem (by omega)] at eA
      injection eA with eA
      rw [eA]
      exact hx.one _ (List.getElem_mem _)
    · rw [if_neg (by omega), Array.getElem?_eq_getElem hi2] at eA
      injection eA with eA
      rw [eA]
      exact (hc i hi1 hi2).2.1
end
end Go.Abs
/- A program logic over abstract states, 6: lists read, cut and appended to. -/
namespace Go.Abs
open Go Go.RowKit
set_option linter.unusedVariables false
set_option linter.unusedSimpArgs false

/-! rows laid end to end -/
theorem flat_len {α : Type} {sz : Nat} : ∀ {rows : List (List α)}, (∀ r ∈ rows, r.length = sz) → rows.flatten.length = rows.length * sz
  | [], _ => by simp
  | r :: rows, h => by
    rw [List.flatten_cons, List.length_append, h r (by simp), flat_len (fun r' hr' => h r' (by simp [hr'])), List.length_cons, Nat.add_mul]
    omega
theorem flat_at {α : Type} {sz : Nat} : ∀ {rows : List (List α)}, (∀ r ∈ rows, r.length = sz) → ∀ (i : Nat) (hi : i < rows.length) (j : Nat) (hj : j < rows[i].length), rows.flatten[i * sz + j]? = some rows[i][j]
  | [], _, i, hi, _, _ => by simp at hi
  | r :: rows, h, 0, hi, j, hj => by
    simp only [List.getElem_cons_zero] at hj ⊢
    rw [Nat.zero_mul, Nat.zero_add, List.flatten_cons, List.getElem?_append_left hj, List.getElem?_eq_getElem hj]
  | r :: rows, h, i + 1, hi, j, hj => by
    simp only [List.getElem_cons_succ] at hj ⊢
    have hr := h r (by simp)
    rw [List.flatten_cons, List.getElem?_append_right (by rw [hr, Nat.add_mul]; omega), hr, show (i + 1) * sz + j - sz = i * sz + j by rw [Nat.add_mul]; omega]
    exact flat_at (fun r' hr' => h r' (by simp [hr'])) i (by simpa using hi) j hj
theorem lt_rows {i j sz n : Nat} (hi : i < n) (hj : j < sz) : i * sz + j < n * sz := by
  have : (i + 1) * sz ≤ n * sz := Nat.mul_le_mul_right _ hi
  rw [Nat.add_mul] at this
  omega

section
variable {P : Program} {w0 : World} {Γ : Con} {h : AH} {w : World}

theorem run_firstCells_zero {P : Program} (w : World) (size : Nat) (base : Option Addr) (len cap : Nat) : (Builtin.firstCells size 0 (.slice base len cap)).run P w = .ok #[] w := by
  cases base with
  | none => rfl
  | some a => simp [Builtin.firstCells, loadCells, loadCellsFrom]
/-- A list's value: nil, or cells that never turn. -/
theorem RV.inv_list {sz : Nat} {rows : List (List AV)} {tok : Tok} {y : Value} (h : RV Γ (.list sz rows tok) y) :
    (∃ base, y = .slice base 0 0 ∧ rows = [] ∧ (tok = .full ∨ tok = .no)) ∨
    ∃ b o c us, y = .slice (some ⟨b, o, none⟩) rows.length c ∧ rows.length ≤ c ∧ (∀ r ∈ rows, r.length = sz) ∧ Cells Γ rows.flatten us ∧ us.length = rows.length * sz ∧
      (∀ k (hk : k < us.length), Γ.F b (o + k) = some us[k]) ∧ TokOk Γ tok b o rows.length c sz := by
  cases h with
  | nilf => exact .inl ⟨_, rfl, rfl, .inl rfl⟩
  | niln => exact .inl ⟨_, rfl, rfl, .inr rfl⟩
  | list hc hsz hF h1 hr ht =>
    rename_i b o c u
    have hlen : ∀ r ∈ rows, r.length = sz := by
      intro r hr'
      obtain ⟨i, hi, rfl⟩ := List.getElem_of_mem hr'
      exact hsz i hi
    have hfl := flat_len hlen
    refine .inr ⟨b, o, c, (List.range (rows.length * sz)).map fun k => u (k / sz) (k % sz), rfl, hc, hlen, ⟨by simp [hfl], fun k hk hk' => ?_, fun x hx => ?_⟩, by simp, fun k hk => ?_, ht⟩
    · have hkn : k < rows.length * sz := by rw [hfl] at hk; exact hk
      have hsz0 : 0 < sz := Nat.pos_of_ne_zero (by rintro rfl; simp at hkn)
      have hdm := Nat.div_add_mod k sz
      have hq : k / sz < rows.length := by rw [Nat.div_lt_iff_lt_mul hsz0]; exact hkn
      have hm : k % sz < sz := Nat.mod_lt _ hsz0
      have hj : k % sz < rows[k / sz].length := by rw [hsz _ hq]; exact hm
      have := flat_at hlen (k / sz) hq (k % sz) hj
      rw [show k / sz * sz + k % sz = k by rw [Nat.mul_comm]; exact hdm] at this
      rw [List.getElem?_eq_getElem hk] at this
      injection this with this
      rw [this]
      simp only [List.getElem_map, List.getElem_range]
      exact hr _ hq _ hj
    · simp only [List.mem_map, List.mem_range] at hx
      obtain ⟨k, hk, rfl⟩ := hx
      have hsz0 : 0 < sz := Nat.pos_of_ne_zero (by rintro rfl; simp at hk)
      exact h1 _ (by rw [Nat.div_lt_iff_lt_mul hsz0]; exact hk) _ (Nat.mod_lt _ hsz0)
    · simp only [List.length_map, List.length_range] at hk
      have hsz0 : 0 < sz := Nat.pos_of_ne_zero (by rintro rfl; simp at hk)
      have := hF (k / sz) (by rw [Nat.div_lt_iff_lt_mul hsz0]; exact hk) (k % sz) (Nat.mod_lt _ hsz0)
      rw [show k / sz * sz + k % sz = k by rw [Nat.mul_comm]; exact Nat.div_add_mod k sz] at this
      simpa using this
/-- A list out of cells that never turn. -/
theorem RV.mk_list {sz : Nat} {rows : List (List AV)} {tok : Tok} {b o c : Nat} {us : List Value} (hc : rows.length ≤ c) (hsz : ∀ r ∈ rows, r.length = sz) (hcs : Cells Γ rows.flatten us)
    (hF : ∀ k (hk : k < us.length), Γ.F b (o + k) = some us[k]) (ht : TokOk Γ tok b o rows.length c sz) : RV Γ (.list sz rows tok) (.slice (some ⟨b, o, none⟩) rows.length c) := by
  have hfl := flat_len hsz
  have hul : us.length = rows.length * sz := by rw [hcs.len, hfl]
  have key : ∀ i, i < rows.length → ∀ j, j < sz → i * sz + j < us.length := fun i hi j hj => by rw [hul]; exact lt_rows hi hj
  refine .list (u := fun i j => us.getD (i * sz + j) undef) hc (fun i hi => hsz _ (List.getElem_mem hi)) (fun i hi j hj => ?_) (fun i hi j hj => ?_) (fun i hi j hj => ?_) ht
  · have hk := key i hi j hj
    rw [hF _ hk]; simp [hk]
  · have hk := key i hi j hj
    simpa [hk] using hcs.one _ (List.getElem_mem hk)
  · have hj' : j < sz := by rw [← hsz _ (List.getElem_mem hi)]; exact hj
    have hk := key i hi j hj'
    have hfa := flat_at hsz i hi j hj
    obtain ⟨hk2, he⟩ := List.getElem?_eq_some_iff.1 hfa
    have := hcs.at_ (i * sz + j) hk2 hk
    rw [he] at this
    simpa [hk] using this

theorem Cells.append {cs cs' : List AV} {us us' : List Value} (h : Cells Γ cs us) (h' : Cells Γ cs' us') : Cells Γ (cs ++ cs') (us ++ us') := by
  have hl := h.len; have hl' := h'.len
  refine ⟨by simp [hl, hl'], fun i hi hi' => ?_, fun x hx => ?_⟩
  · by_cases hlt : i < cs.length
    · rw [List.getElem_append_left hlt, List.getElem_append_left (by omega)]
      exact h.at_ i hlt (by omega)
    · rw [List.getElem_append_right (by omega), List.getElem_append_right (by omega)]
      have := h'.at_ (i - cs.length) (by simp at hi; omega) (by simp at hi'; omega)
      simpa only [hl] using this
  · rcases List.mem_append.1 hx with hx | hx
    · exact h.one x hx
    · exact h'.one x hx

theorem chunk_len {sz : Nat} : ∀ (n : Nat) (cs : List AV), (chunk sz n cs).length = n
  | 0, _ => rfl
  | n + 1, cs => by simp [chunk, chunk_len n]
theorem chunk_row {sz : Nat} : ∀ (n : Nat) (cs : List AV), n * sz ≤ cs.length → ∀ r ∈ chunk sz n cs, r.length = sz
  | 0, _, _, r, hr => by simp [chunk] at hr
  | n + 1, cs, hl, r, hr => by
    rw [Nat.add_mul] at hl
    simp only [chunk, List.mem_cons] at hr
    rcases hr with rfl | hr
    · simp; omega
    · exact chunk_row n _ (by simp; omega) r hr
theorem chunk_flat {sz : Nat} : ∀ (n : Nat) (cs : List AV), n * sz ≤ cs.length → (chunk sz n cs).flatten = cs.take (n * sz)
  | 0, _, _ => by simp [chunk]
  | n + 1, cs, hl => by
    rw [Nat.add_mul] at hl
    simp only [chunk, List.flatten_cons]
    rw [chunk_flat n _ (by simp; omega), Nat.add_mul, Nat.one_mul, Nat.add_comm, List.take_add]

theorem byteRows_len (s : ByteArray) : (byteRows s).length = s.size := by simp [byteRows]
theorem byteRows_row (s : ByteArray) : ∀ r ∈ byteRows s, r.length = 1 := by
  intro r hr
  simp only [byteRows, List.mem_map] at hr
  obtain ⟨b, _, rfl⟩ := hr; rfl
theorem byteRows_flat (s : ByteArray) : (byteRows s).flatten = s.data.toList.map fun b => .v (.int .u8 b.toNat) := by
  unfold byteRows
  induction s.data.toList with
  | nil => rfl
  | cons a l ih => simp [ih]
theorem Cells_bytes (l : List UInt8) : Cells Γ (l.map fun b => .v (.int .u8 b.toNat)) (l.map fun b => .int .u8 b.toNat) := by
  refine ⟨by simp, fun i hi hi' => ?_, fun x hx => ?_⟩
  · simp only [List.getElem_map]; exact .v _
  · simp only [List.mem_map] at hx
    obtain ⟨b, _, rfl⟩ := hx; rfl

/-- What is appended, copied or made a string of. -/
theorem srcRows_sound (H : WR w0 Γ h w) {sz : Nat} {A : AV} {x : Value} {rows : List (List AV)} (hr : srcRows sz h A = some rows) (hx : RV Γ A x) :
    ∃ us, (Builtin.lenOf x).run P w = .ok rows.length w ∧ (∀ w', (∀ a v, w.cell? a = some v → w'.cell? a = some v) → (Builtin.firstCells sz rows.length x).run P w' = .ok us.toArray w') ∧
      Cells Γ rows.flatten us ∧ us.length = rows.length * sz ∧ (∀ r ∈ rows, r.length = sz) ∧ (∀ b o n c, x = .slice (some ⟨b, o, none⟩) n c → ∀ k (hk : k < us.length), w.cell? ⟨b, o + k, none⟩ = some us[k]) := by
  unfold srcRows at hr
  split at hr
  · split at hr
    · rename_i hs
      injection hr with hr
      subst hr; subst hs
      rcases hx.inv_list with ⟨base, rfl, rfl, _⟩ | ⟨b, o, c, us, rfl, hc, hsz, hcs, hul, hF, _⟩
      · exact ⟨[], rfl, fun w' _ => run_firstCells_zero w' _ _ _ _, ⟨rfl, fun i hi => by simp at hi, fun x hx => by cases hx⟩, by simp, by simp, by intro b o n c hx k hk; simp at hk⟩
      · have hcell : ∀ j v, us[j]? = some v → w.cell? ((⟨b, o, none⟩ : Addr).add j) = some v := by
          intro j v hv
          obtain ⟨hj, rfl⟩ := List.getElem?_eq_some_iff.1 hv
          rw [addr_add]; exact H.fcell (hF j hj)
        refine ⟨us, rfl, fun w' hw' => ?_, hcs, hul, hsz, fun b' o' n c' hx k hk => ?_⟩
        · exact run_firstCells_some (P := P) w' _ _ ⟨b, o, none⟩ _ c us hul (fun j v hv => hw' _ _ (hcell j v hv))
        · injection hx with h1 h2 h3
          injection h1 with h1
          injection h1 with h1 h4
          subst h1; subst h4
          exact H.fcell (hF k hk)
    · cases hr
  · split at hr
    · rename_i s hs
      injection hr with hr
      subst hr; subst hs
      rw [hx.inv_v]
      refine ⟨s.data.toList.map fun b => .int .u8 b.toNat, by rw [byteRows_len]; rfl, fun w' _ => ?_, by rw [byteRows_flat]; exact Cells_bytes _, by simp [byteRows_len], byteRows_row s, by intro b o n c hx; cases hx⟩
      rw [byteRows_len]
      simp only [Builtin.firstCells, Sem.run_pure]
      congr 1
      have e : s.extract 0 s.size = s := by
        apply ByteArray.ext
        simp [ByteArray.data_extract]
      rw [e]
      apply Array.ext'
      simp
    · cases hr
  · split at hr
    · rename_i id off len cap _ cs ho
      split at hr
      · rename_i hle
        injection hr with hr
        subst hr
        obtain ⟨b, c, hb, rfl, _⟩ := hx.inv_row
        obtain ⟨u, hu, h1, hrv⟩ := H.here ho hb
        have hlen : len * sz ≤ (cs.drop off).length := by simp; omega
        have hul : ((List.range (len * sz)).map fun k => u (off + k)).length = len * sz := by simp
        have hcell : ∀ k, k < len * sz → w.cell? ⟨b, off + k, none⟩ = some (u (off + k)) := fun k hk => by
          have := hu (off + k) (by omega)
          rwa [Nat.zero_add] at this
        refine ⟨(List.range (len * sz)).map fun k => u (off + k), by rw [chunk_len]; rfl, fun w' hw' => ?_, ?_, by rw [chunk_len]; exact hul, chunk_row len _ hlen, fun b' o' n c' hx k hk => ?_⟩
        · rw [chunk_len]
          refine run_firstCells_some (P := P) w' sz len ⟨b, off, none⟩ len c _ hul (fun j v hv => ?_)
          obtain ⟨hj, rfl⟩ := List.getElem?_eq_some_iff.1 hv
          rw [hul] at hj
          rw [addr_add]
          simpa using hw' _ _ (hcell j hj)
        · rw [chunk_flat len _ hlen]
          refine ⟨by simp; omega, fun i hi hi' => ?_, fun x hx => ?_⟩
          · simp only [List.length_take, List.length_drop] at hi
            simpa using hrv (off + i) (by omega)
          · simp only [List.mem_map, List.mem_range] at hx
            obtain ⟨k, hk, rfl⟩ := hx
            exact h1 _ (by omega)
        · injection hx with h1' h2 h3
          injection h1' with h1'
          injection h1' with h1' h4
          subst h1'; subst h4
          rw [hul] at hk
          simpa using hcell k hk
      · cases hr
    · cases hr
  · cases hr
end
end Go.Abs
/- A program logic over abstract states, 8: cuts, indexes, literals, conversions of bytes. -/
namespace Go.Abs
open Go Go.RowKit
set_option linter.unusedVariables false
set_option linter.unusedSimpArgs false

section
variable {P : Program} {w0 : World} {Γ : Con} {h : AH} {w : World}

/-! bounds -/
theorem sliceBound_ok {x : Value} {k : IntKind} {i : Int} (hx : x = .int k i) {top : Nat} (h0 : 0 ≤ i) (h1 : i ≤ top) (code : BoundsCode) : (Instr.sliceBound x top code).run P w = .ok i.toNat w := by
  subst hx
  simp [Instr.sliceBound, asIntOf, h0, h1]
/-- A bound's operand, and what it is. -/
structure BndOk (Γ : Con) (e : Opd → AV) (x : Option Opd) (X : Option Value) : Prop where
  out : match x, X with
    | none, none => True
    | some o, some v => RV Γ (e o) v
    | _, _ => False
theorem bnd_ok {e : Opd → AV} {x : Option Opd} {X : Option Value} (hx : BndOk Γ e x X) {d top r : Nat} (hb : bnd e x d top = some r) (code : BoundsCode) :
    (match X with | none => x = none ∧ r = d | some v => (Instr.sliceBound v top code).run P w = .ok r w ∧ r ≤ top) := by
  have ho := hx.out
  unfold bnd at hb
  cases x with
  | none =>
    cases X with
    | none => simp at hb; exact ⟨rfl, hb.symm⟩
    | some v => exact ho.elim
  | some o =>
    cases X with
    | none => exact ho.elim
    | some v =>
      simp only at hb ho ⊢
      split at hb
      · rename_i k i hk
        rw [hk] at ho
        have hv := ho.inv_v
        split at hb
        · rename_i hi
          injection hb with hb
          subst hb
          exact ⟨sliceBound_ok hv hi.1 hi.2 code, by omega⟩
        · cases hb
      · cases hb
theorem sliceBounds_ok {e : Opd → AV} {lo hi : Option Opd} {LO HI : Option Value} (hl : BndOk Γ e lo LO) (hh : BndOk Γ e hi HI) {len cap a b : Nat} (isSlice : Bool) (hlc : len ≤ cap) (hb : bnd e hi len len = some b) (ha : bnd e lo 0 b = some a) :
    (Instr.sliceBounds isSlice len cap LO HI none).run P w = .ok (a, b, cap) w ∧ a ≤ b ∧ b ≤ len := by
  unfold Instr.sliceBounds
  have hble : b ≤ len := by
    cases HI with
    | none => have := bnd_ok (P := P) (w := w) hh hb .index; simp only at this; omega
    | some v => have := bnd_ok (P := P) (w := w) hh hb .index; simp only at this; exact this.2
  have hale : a ≤ b := by
    cases LO with
    | none => have := bnd_ok (P := P) (w := w) hl ha .index; simp only at this; omega
    | some v => have := bnd_ok (P := P) (w := w) hl ha .index; simp only at this; exact this.2
  refine ⟨?_, hale, hble⟩
  simp only [Sem.run_bind, Sem.run_pure, Result.andThen_ok]
  have h2 : (match (generalizing := false) HI with
      | some v => Instr.sliceBound v cap (if isSlice then .sliceAcap else .sliceAlen)
      | none => pure len : Sem Nat).run P w = .ok b w := by
    cases HI with
    | none => have := bnd_ok (P := P) (w := w) hh hb .index; simp only at this; rw [this.2]; rfl
    | some v =>
      have ho := hh.out
      cases hi with
      | none => exact ho.elim
      | some o =>
        simp only at ho
        unfold bnd at hb
        simp only at hb
        split at hb
        · rename_i k i hk
          rw [hk] at ho
          split at hb
          · rename_i hi'
            injection hb with hb
            subst hb
            exact sliceBound_ok ho.inv_v hi'.1 (by omega) _
          · cases hb
        · cases hb
  have h3 : (match (generalizing := false) LO with
      | some v => Instr.sliceBound v b (if (none : Option Value).isSome then .slice3C else .sliceB)
      | none => pure 0 : Sem Nat).run P w = .ok a w := by
    cases LO with
    | none => have := bnd_ok (P := P) (w := w) hl ha .index; simp only at this; rw [this.2]; rfl
    | some v => have := bnd_ok (P := P) (w := w) hl ha .sliceB; simp only at this; exact this.1
  clear hh hl
  cases HI <;> cases LO <;> simp_all

theorem sliceBounds3_ok {e : Opd → AV} {lo hi mx : Option Opd} {LO : Option Value} {HI MX : Value} (hl : BndOk Γ e lo LO) (hh : BndOk Γ e hi (some HI)) (hm : BndOk Γ e mx (some MX)) {len cap a b m d : Nat} (isSlice : Bool) (hlc : len ≤ cap)
    (hb : bnd e hi d len = some b) (ha : bnd e lo 0 b = some a) (hm' : bnd e mx 0 len = some m) (hbm : b ≤ m) : (Instr.sliceBounds isSlice len cap LO (some HI) (some MX)).run P w = .ok (a, b, m) w ∧ a ≤ b ∧ m ≤ len := by
  have inner : ∀ {o : Option Opd} {V : Value} {d r top : Nat}, BndOk Γ e o (some V) → bnd e o d top = some r → ∀ (top' : Nat) (code : BoundsCode), r ≤ top' → (Instr.sliceBound V top' code).run P w = .ok r w ∧ r ≤ top := by
    intro o V d r top ho hb top' code hle
    have hv := ho.out
    cases o with
    | none => exact hv.elim
    | some o =>
      simp only at hv
      unfold bnd at hb
      simp only at hb
      split at hb
      · rename_i k i hk
        rw [hk] at hv
        split at hb
        · rename_i hi'
          injection hb with hb
          subst hb
          exact ⟨sliceBound_ok hv.inv_v hi'.1 (by omega) _, by omega⟩
        · cases hb
      · cases hb
  have hml := (inner hm hm' m .index (Nat.le_refl _)).2
  have h1 := fun code => (inner hm hm' cap code (by omega)).1
  have h2 := fun code => (inner hh hb m code hbm).1
  have hal : a ≤ b := by
    cases LO with
    | none => have := bnd_ok (P := P) (w := w) hl ha .index; simp only at this; omega
    | some v => have := bnd_ok (P := P) (w := w) hl ha .index; simp only at this; exact this.2
  refine ⟨?_, hal, hml⟩
  unfold Instr.sliceBounds
  cases LO with
  | none =>
    have := bnd_ok (P := P) (w := w) hl ha .index
    simp only at this
    simp only [Sem.run_bind, h1, h2, Result.andThen_ok, Sem.run_pure, this.2]
  | some v =>
    have := fun code => (bnd_ok (P := P) (w := w) hl ha code)
    simp only at this
    simp only [Sem.run_bind, h1, h2, Result.andThen_ok, Sem.run_pure, (this _).1]

/-! a slice's or a string's part -/
structure SlAt (P : Program) (t : TypeId) (sz : Nat) : Prop where
  out : ∃ e i, P.underlying t = some (.slice e) ∧ P.info? e = some i ∧ i.size = sz
theorem run_slice_any {t e : TypeId} {i : TypeInfo} (ht : P.underlying t = some (.slice e)) (hi : P.info? e = some i) {base : Option Addr} {len cap a b m : Nat} {LO HI MX : Option Value} (hb : (Instr.sliceBounds true len cap LO HI MX).run P w = .ok (a, b, m) w) :
    (Instr.sliceAt t (.slice base len cap) LO HI MX).run P w = .ok (.slice (if m = a then base else base.map (·.add (a * i.size))) (b - a) (m - a)) w := by
  simp only [Instr.sliceAt, Instr.slice, Sem.run_bind, run_underlying ht, Result.andThen_ok, hb, run_sizeOf' hi, Sem.run_pure]
theorem Cells.part {cs : List AV} {us : List Value} (h : Cells Γ cs us) (p n : Nat) : Cells Γ ((cs.drop p).take n) ((us.drop p).take n) := by
  have hl := h.len
  refine ⟨by simp [hl], fun i hi hi' => ?_, fun x hx => h.one x ((List.drop_sublist _ _).mem (List.mem_of_mem_take hx))⟩
  simp only [List.length_take, List.length_drop] at hi hi'
  simpa using h.at_ (p + i) (by omega) (by omega)
theorem flat_part {α : Type} {sz : Nat} {rows : List (List α)} (h : ∀ r ∈ rows, r.length = sz) (a n : Nat) : ((rows.drop a).take n).flatten = (rows.flatten.drop (a * sz)).take (n * sz) := by
  have hd : ∀ (a : Nat) (rows : List (List α)), (∀ r ∈ rows, r.length = sz) → (rows.drop a).flatten = rows.flatten.drop (a * sz) := by
    intro a
    induction a with
    | zero => intro rows _; simp
    | succ a ih =>
      intro rows hr
      cases rows with
      | nil => simp
      | cons r rows =>
        have hr0 := hr r (by simp)
        have hle : r.length ≤ (a + 1) * sz := by rw [hr0, Nat.add_mul]; omega
        rw [List.drop_succ_cons, ih rows (fun x hx => hr x (by simp [hx])), List.flatten_cons, List.drop_append, List.drop_eq_nil_of_le hle, List.nil_append, hr0]
        congr 1
        rw [Nat.add_mul]; omega
  have htk : ∀ (n : Nat) (rows : List (List α)), (∀ r ∈ rows, r.length = sz) → (rows.take n).flatten = rows.flatten.take (n * sz) := by
    intro n
    induction n with
    | zero => intro rows _; simp
    | succ n ih =>
      intro rows hr
      cases rows with
      | nil => simp
      | cons r rows =>
        have hr0 := hr r (by simp)
        have hle : r.length ≤ (n + 1) * sz := by rw [hr0, Nat.add_mul]; omega
        have e : (n + 1) * sz - sz = n * sz := by rw [Nat.add_mul]; omega
        rw [List.take_succ_cons, List.flatten_cons, ih rows (fun x hx => hr x (by simp [hx])), List.flatten_cons, List.take_append, List.take_of_length_le hle, hr0, e]
  rw [htk n _ (fun r hr => h r (List.mem_of_mem_drop hr)), hd a rows h]
/-- A part of a list, as a value. -/
theorem RV.part {sz : Nat} {rows : List (List AV)} {tok' : Tok} {b o c n a b' m : Nat} {us : List Value} (hn : n = rows.length) (hc : rows.length ≤ c) (hsz : ∀ r ∈ rows, r.length = sz) (hcs : Cells Γ rows.flatten us) (hul : us.length = rows.length * sz)
    (hF : ∀ k (hk : k < us.length), Γ.F b (o + k) = some us[k]) (hab : a ≤ b') (hbn : b' ≤ rows.length) (hbm : b' ≤ m) (ht : TokOk Γ tok' b (if m = a then o else o + a * sz) (b' - a) (m - a) sz) :
    RV Γ (.list sz ((rows.drop a).take (b' - a)) tok') (.slice (if m = a then some ⟨b, o, none⟩ else (some (⟨b, o, none⟩ : Addr)).map (·.add (a * sz))) (b' - a) (m - a)) := by
  have hlen : ((rows.drop a).take (b' - a)).length = b' - a := by simp; omega
  have hall : ∀ r ∈ (rows.drop a).take (b' - a), r.length = sz := fun r hr => hsz r (List.mem_of_mem_drop (List.mem_of_mem_take hr))
  have hcp := hcs.part (a * sz) ((b' - a) * sz)
  rw [← flat_part hsz] at hcp
  have hpl : ((us.drop (a * sz)).take ((b' - a) * sz)).length = (b' - a) * sz := by
    rw [List.length_take, List.length_drop, hul]
    have : b' * sz ≤ rows.length * sz := Nat.mul_le_mul_right _ hbn
    rw [Nat.sub_mul]; omega
  by_cases hma : m = a
  · rw [if_pos hma] at ht ⊢
    have h0 : b' - a = 0 := by omega
    have := RV.mk_list (Γ := Γ) (tok := tok') (b := b) (o := o) (c := m - a) (us := (us.drop (a * sz)).take ((b' - a) * sz)) (rows := (rows.drop a).take (b' - a)) (by omega) hall hcp (fun k hk => by rw [hpl, h0] at hk; omega) (by rw [hlen]; exact ht)
    rw [hlen] at this; exact this
  · rw [if_neg hma] at ht ⊢
    have := RV.mk_list (Γ := Γ) (tok := tok') (b := b) (o := o + a * sz) (c := m - a) (us := (us.drop (a * sz)).take ((b' - a) * sz)) (rows := (rows.drop a).take (b' - a)) (by omega) hall hcp (fun k hk => by
      rw [hpl] at hk
      have hk2 : a * sz + k < us.length := by
        rw [hul]
        have : b' * sz ≤ rows.length * sz := Nat.mul_le_mul_right _ hbn
        rw [Nat.sub_mul] at hk; omega
      rw [Nat.add_assoc, hF _ hk2]
      simp) (by rw [hlen]; exact ht)
    rw [hlen] at this
    simpa [addr_add] using this

/-- 'x[lo:hi]' of a list. -/
theorem run_cutL {t : TypeId} {sz : Nat} (ht : SlAt P t sz) {e : Opd → AV} {rows : List (List AV)} {tok : Tok} {x : Value} (hx : RV Γ (.list sz rows tok) x) {lo hi : Option Opd} {LO HI : Option Value} (hl : BndOk Γ e lo LO) (hh : BndOk Γ e hi HI) {a b : Nat}
    (hb : bnd e hi rows.length rows.length = some b) (ha : bnd e lo 0 b = some a) :
    ∃ v, (Instr.sliceAt t x LO HI none).run P w = .ok v w ∧ RV Γ (.list sz ((rows.drop a).take (b - a)) (if b = rows.length then tok else .no)) v := by
  obtain ⟨e', i, hte, hi', rfl⟩ := ht.out
  rcases hx.inv_list with ⟨base, rfl, rfl, htk⟩ | ⟨bb, o, c, us, rfl, hc, hrsz, hcs, hul, hF, hto⟩
  · obtain ⟨hbd, hab, hbl⟩ := sliceBounds_ok (P := P) (w := w) hl hh (len := 0) (cap := 0) true (Nat.le_refl _) hb ha
    have hb0 : b = 0 := by omega
    have ha0 : a = 0 := by omega
    subst hb0; subst ha0
    refine ⟨_, run_slice_any hte hi' hbd, ?_⟩
    simp only [if_true, List.drop_nil, List.take_nil, Nat.sub_self, List.length_nil]
    rcases htk with rfl | rfl
    · exact .nilf
    · exact .niln
  · obtain ⟨hbd, hab, hbl⟩ := sliceBounds_ok (P := P) (w := w) hl hh true hc hb ha
    refine ⟨_, run_slice_any hte hi' hbd, RV.part rfl hc hrsz hcs hul hF hab hbl (by omega) ?_⟩
    split
    · rename_i hbe
      subst hbe
      cases tok with
      | no => trivial
      | full => simp only [TokOk] at hto ⊢; omega
      | own t' v' =>
        obtain ⟨T, hT, h1, hd⟩ := hto
        refine ⟨T, hT, h1, ?_⟩
        by_cases hca : c = a
        · left; omega
        · rw [if_neg hca]
          rcases hd with hd | ⟨h2, h3, h4⟩
          · left; omega
          · right
            refine ⟨?_, ?_, h4⟩
            · rw [h2, Nat.sub_mul]
              have : a * i.size ≤ rows.length * i.size := Nat.mul_le_mul_right _ hab
              omega
            · have : a * i.size ≤ c * i.size := Nat.mul_le_mul_right _ (by omega)
              rw [Nat.sub_mul]; omega
    · trivial
/-- 'x[lo:hi:mx]' of a list. -/
theorem run_cutL3 {t : TypeId} {sz : Nat} (ht : SlAt P t sz) {e : Opd → AV} {rows : List (List AV)} {tok : Tok} {x : Value} (hx : RV Γ (.list sz rows tok) x) {lo hi mx : Option Opd} {LO : Option Value} {HI MX : Value} (hl : BndOk Γ e lo LO) (hh : BndOk Γ e hi (some HI)) (hm : BndOk Γ e mx (some MX)) {a b m d : Nat}
    (hb : bnd e hi d rows.length = some b) (ha : bnd e lo 0 b = some a) (hm' : bnd e mx 0 rows.length = some m) (hbm : b ≤ m) :
    ∃ v, (Instr.sliceAt t x LO (some HI) (some MX)).run P w = .ok v w ∧ RV Γ (.list sz ((rows.drop a).take (b - a)) (if b = m then .full else .no)) v := by
  obtain ⟨e', i, hte, hi', rfl⟩ := ht.out
  rcases hx.inv_list with ⟨base, rfl, rfl, htk⟩ | ⟨bb, o, c, us, rfl, hc, hrsz, hcs, hul, hF, hto⟩
  · obtain ⟨hbd, hab, hml⟩ := sliceBounds3_ok (P := P) (w := w) hl hh hm (len := 0) (cap := 0) true (Nat.le_refl _) hb ha hm' hbm
    have hm0 : m = 0 := by omega
    have hb0 : b = 0 := by omega
    have ha0 : a = 0 := by omega
    subst hb0; subst ha0; subst hm0
    refine ⟨_, run_slice_any hte hi' hbd, ?_⟩
    simp only [if_true, List.drop_nil, List.take_nil, Nat.sub_self, List.length_nil]
    exact .nilf
  · obtain ⟨hbd, hab, hml⟩ := sliceBounds3_ok (P := P) (w := w) hl hh hm true hc hb ha hm' hbm
    refine ⟨_, run_slice_any hte hi' hbd, RV.part rfl hc hrsz hcs hul hF hab (by omega) hbm ?_⟩
    split
    · simp only [TokOk]; omega
    · trivial
/-- 'x[lo:hi]' of a row that is an object's. -/
theorem run_cutR {t : TypeId} {sz : Nat} (ht : SlAt P t sz) {e : Opd → AV} {id off len : Nat} {cap : Option Nat} {x : Value} (hx : RV Γ (.row id off len cap) x) {lo hi : Option Opd} {LO HI : Option Value} (hl : BndOk Γ e lo LO) (hh : BndOk Γ e hi HI) {a b : Nat}
    (hb : bnd e hi len len = some b) (ha : bnd e lo 0 b = some a) :
    ∃ v, (Instr.sliceAt t x LO HI none).run P w = .ok v w ∧ (∀ c, cap = some c → RV Γ (.row id (if c = a then off else off + a * sz) (b - a) (some (c - a))) v) ∧ (a = 0 → RV Γ (.row id off b none) v) := by
  obtain ⟨e', i, hte, hi', rfl⟩ := ht.out
  obtain ⟨bb, c, hb', rfl, hlc, hcc⟩ := hx.inv_row
  obtain ⟨hbd, hab, hbl⟩ := sliceBounds_ok (P := P) (w := w) hl hh true hlc hb ha
  refine ⟨_, run_slice_any hte hi' hbd, fun k hk => ?_, fun h0 => ?_⟩
  · have := hcc k hk
    subst this
    by_cases hka : k = a
    · simp only [hka, if_true]
      exact .row hb' (by omega) (fun k' hk' => by injection hk' with hk'; omega)
    · simp only [hka, if_false, Option.map_some, addr_add]
      exact .row hb' (by omega) (fun k' hk' => by injection hk' with hk'; omega)
  · subst h0
    simp only [Nat.zero_mul, Nat.sub_zero]
    have : (if c = 0 then some (⟨bb, off, none⟩ : Addr) else Option.map (fun (x : Addr) => x.add 0) (some ⟨bb, off, none⟩)) = some ⟨bb, off, none⟩ := by split <;> simp [addr_add]
    rw [this]
    exact .row hb' (by omega) (fun k' hk' => by cases hk')
/-- A string's part. -/
theorem run_cutS {t : TypeId} (ht : P.underlying t = some .string) {e : Opd → AV} {s : ByteArray} {lo hi : Option Opd} {LO HI : Option Value} (hl : BndOk Γ e lo LO) (hh : BndOk Γ e hi HI) {a b : Nat} (hb : bnd e hi s.size s.size = some b) (ha : bnd e lo 0 b = some a) :
    (Instr.sliceAt t (.string s) LO HI none).run P w = .ok (.string (s.extract a b)) w := by
  obtain ⟨hbd, hab, hbl⟩ := sliceBounds_ok (P := P) (w := w) hl hh (len := s.size) (cap := s.size) false (Nat.le_refl _) hb ha
  simp only [Instr.sliceAt, Instr.slice, Sem.run_bind, run_underlying ht, Result.andThen_ok, Option.isSome_none, Bool.false_eq_true, if_false, Sem.run_pure, hbd]
/-- An array's part. -/
theorem run_cutA {t el : TypeId} {n sz : Nat} {i : TypeInfo} (ht : P.underlying t = some (.array n el)) (hif : P.info? el = some i) (hsz : i.size = sz) {e : Opd → AV} {id off : Nat} {x : Value} (hx : RV Γ (.ptr id off) x) {lo hi : Option Opd} {LO HI : Option Value} (hl : BndOk Γ e lo LO) (hh : BndOk Γ e hi HI) {a b : Nat}
    (hb : bnd e hi n n = some b) (ha : bnd e lo 0 b = some a) : ∃ v, (Instr.sliceAt t x LO HI none).run P w = .ok v w ∧ RV Γ (.row id (if n = a then off else off + a * sz) (b - a) (some (n - a))) v := by
  subst hsz
  obtain ⟨bb, hb', rfl⟩ := hx.inv_ptr
  obtain ⟨hbd, hab, hbl⟩ := sliceBounds_ok (P := P) (w := w) hl hh (len := n) (cap := n) false (Nat.le_refl _) hb ha
  refine ⟨.slice (some (if n = a then ⟨bb, off, none⟩ else (⟨bb, off, none⟩ : Addr).add (a * i.size))) (b - a) (n - a), by simp only [Instr.sliceAt, Sem.run_bind, run_underlying ht, Result.andThen_ok, Instr.sureAddr, Sem.run_pure, hbd, run_sizeOf' hif], ?_⟩
  by_cases hna : n = a
  · rw [if_pos hna, if_pos hna]; exact .row hb' (by omega) (fun k' hk' => by injection hk' with hk'; omega)
  · rw [if_neg hna, if_neg hna, addr_add]; exact .row hb' (by omega) (fun k' hk' => by injection hk' with hk'; omega)

/-! an index -/
theorem run_iaL {t : TypeId} {sz : Nat} (ht : SlAt P t sz) {rows : List (List AV)} {sz' : Nat} (hszz : sz' = sz) {tok : Tok} {x : Value} (hx : RV Γ (.list sz' rows tok) x) {k : IntKind} {i : Int} (h0 : 0 ≤ i) {r : List AV} (hr : rows[i.toNat]? = some r) :
    ∃ v, (Instr.indexAt t x (.int k i)).run P w = .ok v w ∧ RV Γ (.lptr r 0) v := by
  subst hszz
  obtain ⟨e', inf, hte, hi', rfl⟩ := ht.out
  obtain ⟨hlt, rfl⟩ := List.getElem?_eq_some_iff.1 hr
  rcases hx.inv_list with ⟨base, rfl, rfl, _⟩ | ⟨bb, o, c, us, rfl, hc, hrsz, hcs, hul, hF, hto⟩
  · simp at hlt
  · refine ⟨.pointer (some ⟨bb, o + i.toNat * inf.size, none⟩), ?_, ?_⟩
    · have : i < rows.length := by omega
      simp [Instr.indexAt, asIntOf, run_underlying hte, h0, this, run_sizeOf' hi', addr_add]
    · have hrl := hrsz _ (List.getElem_mem hlt)
      have key : ∀ j, j < rows[i.toNat].length → i.toNat * inf.size + j < us.length := fun j hj => by rw [hul]; exact lt_rows hlt (by rw [← hrl]; exact hj)
      have := RV.lptr (Γ := Γ) (cells := rows[i.toNat]) (off := 0) (b := bb) (o := o + i.toNat * inf.size) (u := fun j => us.getD (i.toNat * inf.size + j) undef) (fun j hj => by
        have hk := key j hj
        rw [Nat.add_assoc, hF _ hk]; simp [hk]) (fun j hj => by
        have hk := key j hj
        simpa [hk] using hcs.one _ (List.getElem_mem hk)) (fun j hj => by
        have hk := key j hj
        obtain ⟨hk2, he⟩ := List.getElem?_eq_some_iff.1 (flat_at hrsz i.toNat hlt j hj)
        have := hcs.at_ _ hk2 hk
        rw [he] at this
        simpa [hk] using this)
      simpa using this
theorem run_iaR {t : TypeId} {sz : Nat} (ht : SlAt P t sz) {id off len : Nat} {cap : Option Nat} {x : Value} (hx : RV Γ (.row id off len cap) x) {k : IntKind} {i : Int} (h0 : 0 ≤ i) (h1 : i < len) :
    ∃ v, (Instr.indexAt t x (.int k i)).run P w = .ok v w ∧ RV Γ (.ptr id (off + i.toNat * sz)) v := by
  obtain ⟨e', inf, hte, hi', rfl⟩ := ht.out
  obtain ⟨bb, c, hb', rfl, hlc, hcc⟩ := hx.inv_row
  exact ⟨.pointer (some ⟨bb, off + i.toNat * inf.size, none⟩), by simp [Instr.indexAt, asIntOf, run_underlying hte, h0, h1, run_sizeOf' hi', addr_add], .ptr hb'⟩
theorem run_iaA {t el : TypeId} {n sz : Nat} {inf : TypeInfo} (ht : P.underlying t = some (.array n el)) (hi : P.info? el = some inf) (hsz : inf.size = sz) {x : Value} {a : Addr} (hx : x = .pointer (some a)) {k : IntKind} {i : Int} (h0 : 0 ≤ i) (h1 : i < n) :
    (Instr.indexAt t x (.int k i)).run P w = .ok (.pointer (some (a.add (i.toNat * sz)))) w := by
  subst hsz; subst hx
  simp [Instr.indexAt, asIntOf, run_underlying ht, Instr.sureAddr, h0, h1, run_sizeOf' hi]
theorem run_ixS {t : TypeId} (ht : P.underlying t = some .string) {s : ByteArray} {k : IntKind} {i : Int} (h0 : 0 ≤ i) {b : UInt8} (hb : s.data[i.toNat]? = some b) : (Instr.index t (.string s) (.int k i)).run P w = .ok (.int .u8 b.toNat) w := by
  have hb' : s[i.toNat]? = some b := by
    obtain ⟨hlt, rfl⟩ := Array.getElem?_eq_some_iff.1 hb
    have h2 : i.toNat < s.size := hlt
    rw [getElem?_pos s i.toNat h2]; rfl
  simp [Instr.index, asIntOf, run_underlying ht, h0, hb']
theorem run_ixA {t el : TypeId} {n : Nat} {s : Option Nat} {inf : TypeInfo} (ht : P.underlying t = some (.array n el)) (hi : P.info? el = some inf) (hag : aggSz P el = some s) {cs : List AV} {vs : Array Value} (hs : vs.size = cs.length) (h1 : ∀ (i : Nat) (h : i < vs.size), vs[i].oneCell' = true)
    (hr : ∀ (i : Nat) (h : i < cs.length) (h' : i < vs.size), RV Γ cs[i] vs[i]) {k : IntKind} {i : Int} (h0 : 0 ≤ i) (hn : i < n) {a : AV} (ha : rd cs (i.toNat * inf.size) s = some a) : ∃ x, (Instr.index t (.agg vs) (.int k i)).run P w = .ok x w ∧ RV Γ a x := by
  obtain ⟨x, hx, hv⟩ := run_part (P := P) (w := w) hag hs h1 hr ha
  exact ⟨x, by simp [Instr.index, asIntOf, run_underlying ht, h0, hn, run_sizeOf' hi, hx], hv⟩
end
end Go.Abs
/- A program logic over abstract states, 9: literals, structs, rows of bytes. -/
namespace Go.Abs
open Go Go.RowKit
set_option linter.unusedVariables false
set_option linter.unusedSimpArgs false

section
variable {P : Program} {w0 : World} {Γ : Con} {h : AH} {w : World}

theorem Cells.wr {z as : List AV} {zs : Array Value} {xs : List Value} {off : Nat} (hz : Cells Γ z zs.toList) (ha : Cells Γ as xs) (hle : off + as.length ≤ z.length) : Cells Γ (wrL z off as) (wrA zs off xs).toList := by
  have hzl := hz.len; have hal := ha.len
  simp only [Array.length_toList] at hzl
  have key : ∀ (i : Nat) (hi : i < (wrL z off as).length) (hi' : i < (wrA zs off xs).size), RV Γ (wrL z off as)[i] (wrA zs off xs)[i] ∧ (wrA zs off xs)[i].oneCell' = true := by
    intro i hi hi'
    have hi1 : i < z.length := by rwa [wrL_length] at hi
    have hi2 : i < zs.size := by rwa [wrA_size] at hi'
    have eL := wrL_at as z off i
    have eA := wrA_at xs zs off i
    rw [List.getElem?_eq_getElem hi] at eL
    rw [Array.getElem?_eq_getElem hi'] at eA
    by_cases hin : off ≤ i ∧ i < off + as.length
    · rw [if_pos (by omega), List.getElem?_eq_getElem (by omega)] at eL
      rw [if_pos (by omega), List.getElem?_eq_getElem (by omega)] at eA
      injection eL with eL
      injection eA with eA
      rw [eL, eA]
      exact ⟨ha.at_ (i - off) (by omega) (by omega), ha.one _ (List.getElem_mem _)⟩
    · rw [if_neg (by omega), List.getElem?_eq_getElem hi1] at eL
      rw [if_neg (by omega), Array.getElem?_eq_getElem hi2] at eA
      injection eL with eL
      injection eA with eA
      rw [eL, eA]
      have := hz.at_ i hi1 (by simpa using hi2)
      rw [Array.getElem_toList] at this
      exact ⟨this, hz.one _ (by simp)⟩
  refine ⟨by simp [wrL_length, wrA_size, hzl], fun i hi hi' => ?_, fun x hx => ?_⟩
  · rw [Array.getElem_toList]; exact (key i hi (by simpa using hi')).1
  · obtain ⟨i, hi, rfl⟩ := List.getElem_of_mem hx
    rw [Array.getElem_toList]
    have hi2 : i < (wrA zs off xs).size := by simpa using hi
    exact (key i (by rw [wrL_length]; rw [wrA_size] at hi2; omega) hi2).2

theorem fold_wrA (off : Nat) : ∀ (l : List Value) (k : Nat) (cells : Array Value), (l.zipIdx k).foldl (fun cs p => cs.setIfInBounds (off + p.2) p.1) cells = wrA cells (off + k) l
  | [], _, _ => rfl
  | x :: l, k, cells => by
    rw [List.zipIdx_cons, List.foldl_cons, fold_wrA off l (k + 1), wrA, Nat.add_assoc]

inductive Parts (Γ : Con) (place : Nat → Option (Nat × Nat)) : List (Nat × Nat × AV) → List (Nat × Value) → Prop
  | nil : Parts Γ place [] []
  | cons {off size i : Nat} {a : AV} {v : Value} {ps : List (Nat × Nat × AV)} {vs : List (Nat × Value)} (hp : place i = some (off, size)) (hv : RV Γ a v) (hr : Parts Γ place ps vs) : Parts Γ place ((off, size, a) :: ps) ((i, v) :: vs)
theorem fill_sound {place : Nat → Option (Nat × Nat)} {ps : List (Nat × Nat × AV)} {vs : List (Nat × Value)} (hp : Parts Γ place ps vs) : ∀ {z cs : List AV} {zc : Array Value}, fillA z ps = some cs → Cells Γ z zc.toList → ∃ cc, Instr.fill place zc vs = some cc ∧ Cells Γ cs cc.toList := by
  induction hp with
  | nil =>
    intro z cs zc hf hz
    simp only [fillA, Option.some.injEq] at hf
    subst hf
    exact ⟨zc, rfl, hz⟩
  | @cons off size i a v ps vs hpl hv _ ih =>
    intro z cs zc hf hz
    simp only [fillA] at hf
    split at hf
    · rename_i as has
      split at hf
      · rename_i hc
        have hcl := scells_sound has hv
        have hlen : v.cells.size = as.length := by have := hcl.len; simpa using this
        have hzl := hz.len
        simp only [Array.length_toList] at hzl
        have hw := hz.wr hcl (off := off) (by omega)
        obtain ⟨cc, h1, h2⟩ := ih hf hw
        refine ⟨cc, ?_, h2⟩
        simp only [Instr.fill, hpl]
        have e1 : (v.cells.size ≠ size || off + v.cells.size > zc.size) = false := by
          rw [hlen, hc.1]
          simp; omega
        rw [e1]
        simp only [Bool.false_eq_true, if_false]
        have e2 : v.cells.zipIdx.foldl (fun cs (c, j) => cs.setIfInBounds (off + j) c) zc = wrA zc off v.cells.toList := by
          rw [← Array.foldl_toList, Array.toList_zipIdx]
          exact fold_wrA off v.cells.toList 0 zc
        rw [e2]
        exact h1
      · cases hf
    · cases hf

def zeroA : List Nat → List Value → List AV
  | szs, .slice none 0 0 :: xs => .list (szs.headD 0) [] .full :: zeroA szs.tail xs
  | szs, x :: xs => .v x :: zeroA szs.tail xs
  | _, [] => []
theorem zeroA_sound : ∀ (szs : List Nat) (xs : List Value), xs.all (·.oneCell') = true → Cells Γ (zeroA szs xs) xs
  | szs, [], _ => ⟨by cases szs <;> rfl, fun i hi => by cases szs <;> simp [zeroA] at hi, fun x hx => by cases hx⟩
  | szs, x :: xs, h => by
    simp only [List.all_cons, Bool.and_eq_true] at h
    have ih := zeroA_sound szs.tail xs h.2
    have one : ∀ a : AV, RV Γ a x → Cells Γ (a :: zeroA szs.tail xs) (x :: xs) := fun a ha =>
      ⟨by simp [ih.len], fun i hi hi' => by
        cases i with
        | zero => exact ha
        | succ i => exact ih.at_ i (by simpa using hi) (by simpa using hi'), fun y hy => by
        rcases List.mem_cons.1 hy with rfl | hy
        · exact h.1
        · exact ih.one y hy⟩
    unfold zeroA
    split
    · rename_i e; injection e with e1 e2; subst e1; subst e2; exact one _ .nilf
    · rename_i e; injection e with e1 e2; subst e1; subst e2; exact one _ (.v _)
    · rename_i e; cases e

/-- Cells of a new block, all of them free. -/
theorem objAt_cells {cs : List AV} {vs : Array Value} {e : TypeId} {w' : World} {b : Nat} (hb : w'.heap[b]? = some (.cells vs e)) (hc : Cells Γ cs vs.toList) : ObjAt Γ w' b (.cells cs) := by
  have hl := hc.len
  simp only [Array.length_toList] at hl
  refine ⟨vs, e, (0, 0), hb, by omega, fun i hi hi' => ⟨?_, hc.one _ (by simp), by simp [free]⟩⟩
  have := hc.at_ i hi (by simpa using hi')
  rwa [Array.getElem_toList] at this

/-- A literal's cells. -/
theorem litCells {z : List AV} {zc : Array Value} (hz : Cells Γ z zc.toList) (n : Nat) : Cells Γ ((List.replicate n z).flatten) ((Array.range (n * zc.size)).map (zc[· % zc.size]!)).toList := by
  have hzl := hz.len
  simp only [Array.length_toList] at hzl
  have hall : ∀ r ∈ List.replicate n z, r.length = z.length := fun r hr => by rw [List.eq_of_mem_replicate hr]
  have hfl := flat_len hall
  rw [List.length_replicate] at hfl
  refine ⟨by simp [hfl, hzl], fun k hk hk' => ?_, fun x hx => ?_⟩
  · rw [hfl] at hk
    have hz0 : 0 < z.length := Nat.pos_of_ne_zero (by intro e; rw [e] at hk; simp at hk)
    have hq : k / z.length < (List.replicate n z).length := by rw [List.length_replicate, Nat.div_lt_iff_lt_mul hz0]; exact hk
    have hm : k % z.length < z.length := Nat.mod_lt _ hz0
    have hfa := flat_at hall (k / z.length) hq (k % z.length) (by rw [List.getElem_replicate]; exact hm)
    rw [show k / z.length * z.length + k % z.length = k by rw [Nat.mul_comm]; exact Nat.div_add_mod k _] at hfa
    obtain ⟨hk2, he⟩ := List.getElem?_eq_some_iff.1 hfa
    rw [he]
    simp only [Array.getElem_toList, Array.getElem_map, Array.getElem_range, List.getElem_replicate]
    have hm2 : k % zc.size < zc.size := by rw [← hzl] at hm; exact hm
    rw [getElem!_pos zc _ hm2]
    have := hz.at_ (k % z.length) hm (by simpa [hzl] using hm)
    rw [Array.getElem_toList] at this
    have e : k % zc.size = k % z.length := by rw [hzl]
    simp only [e]
    exact this
  · simp only [Array.toList_map, List.mem_map] at hx
    obtain ⟨k, hk, rfl⟩ := hx
    simp at hk
    have hz0 : 0 < zc.size := Nat.pos_of_ne_zero (by intro e; rw [e] at hk; simp at hk)
    have hm2 : k % zc.size < zc.size := Nat.mod_lt _ hz0
    rw [getElem!_pos zc _ hm2]
    exact hz.one _ (by simp)
end
end Go.Abs
