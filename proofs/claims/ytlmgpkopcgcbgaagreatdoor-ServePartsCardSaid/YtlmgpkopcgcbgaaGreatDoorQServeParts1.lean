/- What the proof needs, part 1: A program logic over abstract states, 1: abstract values, abstract heaps, and how they stand to the model's world. -/
import Derived.WalkKit
import Derived.Below
import Derived.Laws.Append
/- A program logic over abstract states, 1: abstract values, abstract heaps, and how they stand to the model's world. -/
namespace Go.Abs
open Go Go.RowKit

/-- The right to append to a list: none; none is needed (its capacity is its length: an append makes a new row); by a token's version. -/
inductive Tok where
  | no
  | full
  | own (t v : Nat)

/-- Abstract values. -/
inductive AV where
  | v (x : Value)
  | list (sz : Nat) (rows : List (List AV)) (tok : Tok)
  | row (id off len : Nat) (cap : Option Nat)
  | ptr (id off : Nat)
  | lptr (cells : List AV) (off : Nat)
  | mapr (id : Nat)
  | func (fn : Fn) (first caps : List AV)
  | iface (t : TypeId) (x : AV)
  | agg (cells : List AV)
  | tup (vs : List AV)

instance : Inhabited AV := ⟨.v undef⟩

structure TokAt where
  blk : Nat
  endc : Nat
  size : Nat
  sz : Nat
  elem : TypeId

/-- What the abstract names stand for: cells that never turn, objects' blocks, tokens' rows. -/
structure Con where
  F : Nat → Nat → Option Value
  rho : Nat → Option Nat
  tau : Nat → Nat → Option TokAt

structure Con.le (Γ Γ' : Con) : Prop where
  F : ∀ {b o x}, Γ.F b o = some x → Γ'.F b o = some x
  rho : ∀ {i b}, Γ.rho i = some b → Γ'.rho i = some b
  tau : ∀ {t v T}, Γ.tau t v = some T → Γ'.tau t v = some T
theorem Con.le.refl (Γ : Con) : Γ.le Γ := ⟨fun h => h, fun h => h, fun h => h⟩
theorem Con.le.trans {A B C : Con} (h : A.le B) (k : B.le C) : A.le C := ⟨fun x => k.F (h.F x), fun x => k.rho (h.rho x), fun x => k.tau (h.tau x)⟩

def TokOk (Γ : Con) : Tok → (b o n c sz : Nat) → Prop
  | .no, _, _, _, _, _ => True
  | .full, _, _, n, c, _ => n = c
  | .own t v, b, o, n, c, sz => ∃ T, Γ.tau t v = some T ∧ T.blk = b ∧ (n = c ∨ T.endc = o + n * sz ∧ o + c * sz ≤ T.size ∧ T.sz = sz)
theorem TokOk.mono {Γ Γ' : Con} (hl : Γ.le Γ') {tok : Tok} {b o n c sz : Nat} (h : TokOk Γ tok b o n c sz) : TokOk Γ' tok b o n c sz := by
  cases tok with
  | no => trivial
  | full => exact h
  | own t v =>
    obtain ⟨T, h1, h2⟩ := h
    exact ⟨T, hl.tau h1, h2⟩

/-- How an abstract value stands for a value. -/
inductive RV (Γ : Con) : AV → Value → Prop
  | v (x : Value) : RV Γ (.v x) x
  | nilf {sz : Nat} {base : Option Addr} : RV Γ (.list sz [] .full) (.slice base 0 0)
  | niln {sz : Nat} {base : Option Addr} : RV Γ (.list sz [] .no) (.slice base 0 0)
  | list {sz : Nat} {rows : List (List AV)} {tok : Tok} {b o c : Nat} {u : Nat → Nat → Value} (hc : rows.length ≤ c)
      (hsz : ∀ (i : Nat) (h : i < rows.length), rows[i].length = sz)
      (hF : ∀ i, i < rows.length → ∀ j, j < sz → Γ.F b (o + (i * sz + j)) = some (u i j))
      (h1 : ∀ i, i < rows.length → ∀ j, j < sz → (u i j).oneCell' = true)
      (hr : ∀ (i : Nat) (h : i < rows.length) (j : Nat) (hj : j < rows[i].length), RV Γ rows[i][j] (u i j))
      (ht : TokOk Γ tok b o rows.length c sz) : RV Γ (.list sz rows tok) (.slice (some ⟨b, o, none⟩) rows.length c)
  | row {id off len c b : Nat} {cap : Option Nat} (h : Γ.rho id = some b) (hl : len ≤ c) (hc : ∀ k, cap = some k → k = c) : RV Γ (.row id off len cap) (.slice (some ⟨b, off, none⟩) len c)
  | ptr {id off b : Nat} (h : Γ.rho id = some b) : RV Γ (.ptr id off) (.pointer (some ⟨b, off, none⟩))
  | lptr {cells : List AV} {off b o : Nat} {u : Nat → Value} (hF : ∀ j, j < cells.length → Γ.F b (o + j) = some (u j)) (h1 : ∀ j, j < cells.length → (u j).oneCell' = true)
      (hr : ∀ (j : Nat) (hj : j < cells.length), RV Γ cells[j] (u j)) : RV Γ (.lptr cells off) (.pointer (some ⟨b, o + off, none⟩))
  | mapr {id b : Nat} (h : Γ.rho id = some b) : RV Γ (.mapr id) (.map (some b))
  | func {fn : Fn} {first caps : List AV} {vf vc : Array Value} (h1 : vf.size = first.length) (h2 : vc.size = caps.length)
      (hf : ∀ (i : Nat) (h : i < first.length) (h' : i < vf.size), RV Γ first[i] vf[i]) (hc : ∀ (i : Nat) (h : i < caps.length) (h' : i < vc.size), RV Γ caps[i] vc[i]) : RV Γ (.func fn first caps) (.func fn vf vc)
  | iface {t : TypeId} {x : AV} {y : Value} (h : RV Γ x y) : RV Γ (.iface t x) (.iface t y)
  | agg {cells : List AV} {vs : Array Value} (hs : vs.size = cells.length) (h1 : ∀ (i : Nat) (h : i < vs.size), vs[i].oneCell' = true)
      (hr : ∀ (i : Nat) (h : i < cells.length) (h' : i < vs.size), RV Γ cells[i] vs[i]) : RV Γ (.agg cells) (.agg vs)
  | tup {xs : List AV} {vs : Array Value} (hs : vs.size = xs.length) (hr : ∀ (i : Nat) (h : i < xs.length) (h' : i < vs.size), RV Γ xs[i] vs[i]) : RV Γ (.tup xs) (.tuple vs)

theorem RV.mono {Γ Γ' : Con} (hl : Γ.le Γ') {a : AV} {x : Value} (h : RV Γ a x) : RV Γ' a x := by
  induction h with
  | v x => exact .v x
  | nilf => exact .nilf
  | niln => exact .niln
  | list hc hsz hF h1 _ ht ih => exact .list hc hsz (fun i hi j hj => hl.F (hF i hi j hj)) h1 ih (ht.mono hl)
  | row h hlc hc => exact .row (hl.rho h) hlc hc
  | ptr h => exact .ptr (hl.rho h)
  | lptr hF h1 _ ih => exact .lptr (fun j hj => hl.F (hF j hj)) h1 ih
  | mapr h => exact .mapr (hl.rho h)
  | func h1 h2 _ _ ih1 ih2 => exact .func h1 h2 ih1 ih2
  | iface _ ih => exact .iface ih
  | agg hs h1 _ ih => exact .agg hs h1 ih
  | tup hs _ ih => exact .tup hs ih

/-- Values that fill one cell. -/
def AV.one : AV → Bool
  | .v x => x.oneCell'
  | .agg _ | .tup _ => false
  | _ => true
theorem RV.one {Γ : Con} {a : AV} {x : Value} (h : RV Γ a x) (ho : a.one = true) : x.oneCell' = true := by
  cases h <;> first | rfl | exact ho | (simp [AV.one] at ho)

/-- What a loop over a function keeps, from round to round. -/
structure LpR where
  fn : FuncId
  ps : Array Tmp
  asg : Code
  body : Code
/-- Objects of the abstract heap. -/
inductive AObj where
  | cells (cs : List AV)
  | map (es : List (Value × AV))
  | siter (s : ByteArray) (pos : Nat)
  /-- A strings.Builder (its type): the object of its buffer, how many bytes it has, its capacity. -/
  | bld (T : TypeId) (o : Option Nat) (n cap : Nat)
  /-- A builder's buffer (its elements' type). -/
  | buf (e : TypeId) (l : List UInt8) (cap : Nat)
  /-- A loop over a function (its block): its state, the jump that waits, the frame that each round begins with. -/
  | lp (l : Nat) (R : LpR) (st : LoopState) (pend : Option Code) (fr : List AV)
  /-- A block for deferred calls (its number) in which there is none. -/
  | dfr (b : Nat)

structure AH where
  objs : Nat → Option AObj
  n : Nat
  ver : Nat → Nat
  nt : Nat
  sh : Nat → Option (TypeId × Nat)

def AH.alloc (h : AH) (o : AObj) : AH := { h with objs := fun i => if i = h.n then some o else h.objs i, n := h.n + 1, sh := fun i => if i = h.n then none else h.sh i }
def AH.set (h : AH) (id : Nat) (o : AObj) : AH := { h with objs := fun i => if i = id then some o else h.objs i }
def AH.newTok (h : AH) : AH := { h with ver := fun t => if t = h.nt then 0 else h.ver t, nt := h.nt + 1 }
def AH.bump (h : AH) (t : Nat) : AH := { h with ver := fun s => if s = t then h.ver t + 1 else h.ver s }
def AH.drop (h : AH) (id : Nat) : AH := { h with objs := fun i => if i = id then none else h.objs i }

def free (fr : Nat × Nat) (off : Nat) : Prop := ¬ (fr.1 ≤ off ∧ off < fr.2)

def ObjAt (Γ : Con) (w : World) (b : Nat) : AObj → Prop
  | .cells cs => ∃ vs e fr, w.heap[b]? = some (.cells vs e fr) ∧ cs.length ≤ vs.size ∧ (∀ (i : Nat) (h : i < cs.length) (h' : i < vs.size), RV Γ cs[i] vs[i] ∧ vs[i].oneCell' = true ∧ free fr i)
  | .map es => ∃ ms clock, w.heap[b]? = some (.map ms clock) ∧ ms.size = es.length ∧ ∀ (i : Nat) (h : i < es.length) (h' : i < ms.size), ms[i].key = es[i].1 ∧ RV Γ es[i].2 ms[i].val
  | .siter s pos => w.heap[b]? = some (.stringIter s pos)
  | .bld T o n cap => ∃ p v fr, w.heap[b]? = some (.cells #[p, v] T fr) ∧ free fr 0 ∧ free fr 1 ∧ (p = .pointer none ∨ p = .pointer (some ⟨b, 0, none⟩)) ∧
      ((o = none ∧ n = 0 ∧ cap = 0 ∧ ∃ base, v = .slice base 0 0) ∨ ∃ i g, o = some i ∧ Γ.rho i = some g ∧ v = .slice (some ⟨g, 0, none⟩) n cap)
  | .buf e l cap => ∃ cur fr, w.heap[b]? = some (.cells cur e fr) ∧ cur.size = cap ∧ l.length ≤ cap ∧ (∀ (j : Nat) x, l[j]? = some x → cur[j]? = some (.int .u8 x.toNat)) ∧ fr.2 ≤ l.length
  | .lp l R st pend fr => b = l ∧ ∃ tmps d, w.heap[b]? = some (.loop { state := st, pending := pend, fn := R.fn, tmps := tmps, params := R.ps, assign := R.asg, body := R.body, defers := d }) ∧ tmps.size = fr.length ∧ ∀ (i : Nat) (h : i < fr.length) (h' : i < tmps.size), RV Γ fr[i] tmps[i]
  | .dfr bd => b = bd ∧ w.heap[b]? = some (.deferred (some []))
theorem ObjAt.mono {Γ Γ' : Con} (hl : Γ.le Γ') {w : World} {b : Nat} {o : AObj} (h : ObjAt Γ w b o) : ObjAt Γ' w b o := by
  cases o with
  | cells cs => obtain ⟨vs, e, fr, h1, h2, h3⟩ := h; exact ⟨vs, e, fr, h1, h2, fun i a b => ⟨(h3 i a b).1.mono hl, (h3 i a b).2⟩⟩
  | map es => obtain ⟨ms, c, h1, h2, h3⟩ := h; exact ⟨ms, c, h1, h2, fun i a b => ⟨(h3 i a b).1, (h3 i a b).2.mono hl⟩⟩
  | siter s pos => exact h
  | bld T o n cap =>
    obtain ⟨p, v, fr, h1, h2, h3, h4, h5⟩ := h
    refine ⟨p, v, fr, h1, h2, h3, h4, ?_⟩
    rcases h5 with h5 | ⟨i, g, h5, h6, h7⟩
    · exact .inl h5
    · exact .inr ⟨i, g, h5, hl.rho h6, h7⟩
  | buf e l cap => exact h
  | lp l R st pend fr => obtain ⟨h0, t, d, h1, h2, h3⟩ := h; exact ⟨h0, t, d, h1, h2, fun i a b => (h3 i a b).mono hl⟩
  | dfr bd => exact h
theorem ObjAt.at_ {Γ : Con} {w w' : World} {b : Nat} {o : AObj} (h : ObjAt Γ w b o) (hb : w'.heap[b]? = w.heap[b]?) : ObjAt Γ w' b o := by
  cases o with
  | cells cs => obtain ⟨vs, e, fr, h1, h2⟩ := h; exact ⟨vs, e, fr, hb.trans h1, h2⟩
  | map es => obtain ⟨ms, c, h1, h2⟩ := h; exact ⟨ms, c, hb.trans h1, h2⟩
  | siter s pos => exact hb.trans h
  | bld T o n cap => obtain ⟨p, v, fr, h1, h2⟩ := h; exact ⟨p, v, fr, hb.trans h1, h2⟩
  | buf e l cap => obtain ⟨cur, fr, h1, h2⟩ := h; exact ⟨cur, fr, hb.trans h1, h2⟩
  | lp l R st pend fr => obtain ⟨h0, t, d, h1, h2⟩ := h; exact ⟨h0, t, d, hb.trans h1, h2⟩
  | dfr bd => exact ⟨h.1, hb.trans h.2⟩
theorem ObjAt.lt {Γ : Con} {w : World} {b : Nat} {o : AObj} (h : ObjAt Γ w b o) : b < w.heap.size := by
  have key : ∀ x, w.heap[b]? = some x → b < w.heap.size := fun x hx => (Array.getElem?_eq_some_iff.1 hx).1
  cases o with
  | cells cs => obtain ⟨vs, e, fr, h1, _⟩ := h; exact key _ h1
  | map es => obtain ⟨ms, c, h1, _⟩ := h; exact key _ h1
  | siter s pos => exact key _ h
  | bld T o n cap => obtain ⟨p, v, fr, h1, _⟩ := h; exact key _ h1
  | buf e l cap => obtain ⟨cur, fr, h1, _⟩ := h; exact key _ h1
  | lp l R st pend fr => obtain ⟨_, t, d, h1, _⟩ := h; exact key _ h1
  | dfr bd => exact key _ h.2

def TokBlk (Γ : Con) (w : World) (T : TokAt) : Prop :=
  T.endc ≤ T.size ∧ ∃ vs e fr, w.heap[T.blk]? = some (.cells vs e fr) ∧ vs.size = T.size ∧ ∀ off, T.endc ≤ off → off < T.size → Γ.F T.blk off = none ∧ free fr off

/-- The abstract heap stands for the world, which is below w0's size as w0 was. -/
structure WR (w0 : World) (Γ : Con) (h : AH) (w : World) : Prop where
  below : Below w0.heap.size w0 w
  fcell : ∀ {b o x}, Γ.F b o = some x → w.cell? ⟨b, o, none⟩ = some x
  obj : ∀ {i o}, h.objs i = some o → ∃ b, Γ.rho i = some b ∧ w0.heap.size ≤ b ∧ ObjAt Γ w b o ∧ ∀ off, Γ.F b off = none
  inj : ∀ {i j b}, (h.objs i).isSome → (h.objs j).isSome → Γ.rho i = some b → Γ.rho j = some b → i = j
  rlt : ∀ {i b}, Γ.rho i = some b → i < h.n ∧ b < w.heap.size
  tok : ∀ {t T}, Γ.tau t (h.ver t) = some T → w0.heap.size ≤ T.blk ∧ TokBlk Γ w T ∧ ∀ i, (h.objs i).isSome → Γ.rho i ≠ some T.blk
  tinj : ∀ {t t' T T'}, Γ.tau t (h.ver t) = some T → Γ.tau t' (h.ver t') = some T' → T.blk = T'.blk → t = t'
  tnew : ∀ {t v T}, Γ.tau t v = some T → t < h.nt ∧ v ≤ h.ver t

theorem WR.flt {w0 : World} {Γ : Con} {h : AH} {w : World} (H : WR w0 Γ h w) {b o : Nat} {x : Value} (hx : Γ.F b o = some x) : b < w.heap.size :=
  World.block_lt_of_cell? w ⟨b, o, none⟩ (H.fcell hx)
theorem WR.fnone {w0 : World} {Γ : Con} {h : AH} {w : World} (H : WR w0 Γ h w) {b : Nat} (hb : w.heap.size ≤ b) (o : Nat) : Γ.F b o = none := by
  cases hx : Γ.F b o with
  | none => rfl
  | some x => have := H.flt hx; omega
theorem WR.olt {w0 : World} {Γ : Con} {h : AH} {w : World} (H : WR w0 Γ h w) {i : Nat} (hi : (h.objs i).isSome) : i < h.n := by
  obtain ⟨o, ho⟩ := Option.isSome_iff_exists.1 hi
  obtain ⟨b, hb, _⟩ := H.obj ho
  exact (H.rlt hb).1

/-- The world has drawn. -/
theorem WR.drew {w0 : World} {Γ : Con} {h : AH} {w : World} (H : WR w0 Γ h w) : WR w0 Γ h w.drew where
  below := H.below.drew
  fcell := H.fcell
  obj := H.obj
  inj := H.inj
  rlt := H.rlt
  tok := H.tok
  tinj := H.tinj
  tnew := H.tnew

theorem heap_alloc_old (w : World) (o : Obj) (k : Nat) (h : k < w.heap.size) : (w.alloc o).heap[k]? = w.heap[k]? := Below.heap_alloc w o k h
theorem heap_alloc_new (w : World) (o : Obj) : (w.alloc o).heap[w.heap.size]? = some o := by
  show (w.heap.push o)[w.heap.size]? = _
  simp

/-- A block is laid of which the abstract state need not know. -/
theorem WR.alloc {w0 : World} {Γ : Con} {h : AH} {w : World} (H : WR w0 Γ h w) (O : Obj) : WR w0 Γ h (w.alloc O) where
  below := H.below.alloc H.below.size O
  fcell := fun hx => (World.cell?_alloc_lt _ _ _ (H.flt hx)).trans (H.fcell hx)
  obj := fun ho => by
    obtain ⟨b, h1, h2, h3, h4⟩ := H.obj ho
    exact ⟨b, h1, h2, h3.at_ (heap_alloc_old w O b h3.lt), h4⟩
  inj := H.inj
  rlt := fun hi => ⟨(H.rlt hi).1, by have := (H.rlt hi).2; simp; omega⟩
  tok := fun ht => by
    obtain ⟨h1, ⟨h2, vs, e, fr, h3, h4, h5⟩, h6⟩ := H.tok ht
    exact ⟨h1, ⟨h2, vs, e, fr, (heap_alloc_old w O _ (Array.getElem?_eq_some_iff.1 h3).1).trans h3, h4, h5⟩, h6⟩
  tinj := H.tinj
  tnew := H.tnew

end Go.Abs
