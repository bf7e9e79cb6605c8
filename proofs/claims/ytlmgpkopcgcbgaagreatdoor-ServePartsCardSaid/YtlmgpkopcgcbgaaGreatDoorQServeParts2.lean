/- What the proof needs, part 2: A program logic over abstract states, 2: the operations of the compact code, and what each does to the abstract state; A program logic over abstract states, 3: each operation of the model does what the compact one says (values alone). -/
import Derived.Test.YtlmgpkopcgcbgaaGreatDoorQServeParts1
import Derived.Laws.Bits
/- A program logic over abstract states, 2: the operations of the compact code, and what each does to the abstract state. -/
namespace Go.Abs
set_option linter.unusedVariables false
open Go Go.RowKit

inductive Opd where
  | tmp (t : Nat)
  | cst (a : AV)

def ev (fr : List AV) : Opd → AV
  | .tmp t => fr.getD t (.v undef)
  | .cst a => a

/-- What '==' compares. -/
inductive CK where
  | int | str | bool
inductive LenK where
  | str | sl | map
inductive EqK where
  | other | bool | ptr | iface | slice | func | agg (ks : List CK)

inductive IOp where
  | mv (x : Opd)
  | pick (c a b : Opd)
  | box (x : Opd)
  | new (z : List AV)
  | newT (t : TypeId) (z : List AV)
  | build (z : List AV) (ps : List (Nat × Nat × Opd))
  | lit (sz n : Nat) (z : List AV) (ps : List (Nat × Opd))
  | litRow (sz n : Nat) (z : List AV) (ps : List (Nat × Opd))
  | load (x : Opd) (sz : Option Nat)
  | store (x y : Opd) (sz : Nat)
  | nilc (x : Opd)
  | bin (op : BinOp) (k : EqK) (x y : Opd)
  | un (op : UnOp) (x : Opd)
  | convI (k : IntKind) (x : Opd)
  | convS (x : Opd)
  | s2b (row : Bool) (x : Opd)
  | b2s (x : Opd)
  | cvb (x : Opd)
  | mki (t : TypeId) (x : Opd)
  | mkf (fn : Fn) (first caps : List Opd)
  | mkm
  | mks (sz eb : Nat) (z : List AV) (l c : Opd)
  | slS (x : Opd) (lo hi : Option Opd)
  | slL (sz : Nat) (x : Opd) (lo hi mx : Option Opd)
  | slA (n sz : Nat) (x : Opd) (lo hi : Option Opd)
  | fad (x : Opd) (off : Nat)
  | fld (x : Opd) (off : Nat) (sz : Option Nat)
  | iaL (sz : Nat) (x i : Opd)
  | iaA (n sz : Nat) (x i : Opd)
  | ixS (x i : Opd)
  | ixA (n sz : Nat) (isAgg : Bool) (x i : Opd)
  | look (ck : CK) (z : AV) (ok : Bool) (x k : Opd)
  | upd (ck : CK) (m k x : Opd)
  | del (ck : CK) (m k : Opd)
  | ext (x : Opd) (i : Nat)
  | len (k : LenK) (x : Opd)
  | cap (x : Opd)
  | app (sz eb : Nat) (x y : Opd)
  | cpy (sz : Nat) (x y : Opd)
  | mnx (mx : Bool) (xs : List Opd)
  | rng (x : Opd)
  | nxt (x : Opd)
  | call (f : FuncId) (xs : List Opd)
  | callv (x : Opd) (xs : List Opd)

def scells : AV → Option (List AV)
  | .agg cs => some cs
  | a => if a.one then some [a] else none

def rd (cs : List AV) (off : Nat) : Option Nat → Option AV
  | none => cs[off]?
  | some n => if off + n ≤ cs.length then some (.agg ((cs.drop off).take n)) else none

/-- Cells laid over a list's, from 'off' on. -/
def wrL : List AV → Nat → List AV → List AV
  | cs, _, [] => cs
  | cs, off, a :: as => wrL (cs.set off a) (off + 1) as

def fillA : List AV → List (Nat × Nat × AV) → Option (List AV)
  | z, [] => some z
  | z, (off, size, a) :: ps => match scells a with
    | some cs => if cs.length = size ∧ off + size ≤ z.length then fillA (wrL z off cs) ps else none
    | none => none

def intBin (op : BinOp) (k : IntKind) (a b : Int) : Option Value :=
  match op with
  | .add => some (.int k (k.wrap (a + b)))
  | .sub => some (.int k (k.wrap (a - b)))
  | .mul => some (.int k (k.wrap (a * b)))
  | .quo => if b = 0 then none else some (.int k (k.wrap (a.tdiv b)))
  | .rem => if b = 0 then none else some (.int k (a.tmod b))
  | .and => some (.int k (bits .and k a b))
  | .or => some (.int k (bits .or k a b))
  | .xor => some (.int k (bits .xor k a b))
  | .andNot => some (.int k (bits .andNot k a b))
  | .eql => some (.bool (a == b))
  | .neq => some (.bool (a != b))
  | .lss => some (.bool (a < b))
  | .leq => some (.bool (a ≤ b))
  | .gtr => some (.bool (a > b))
  | .geq => some (.bool (a ≥ b))
  | _ => none

def shiftBin (op : BinOp) (k : IntKind) (a b : Int) : Option Value :=
  if 0 ≤ b ∧ b ≤ k.bits then
    match op with
    | .shl => some (.int k (k.wrap (a * 2 ^ b.toNat)))
    | .shr => some (.int k (a / 2 ^ b.toNat))
    | _ => none
  else none

def strBin (op : BinOp) (x y : ByteArray) : Option Value :=
  match op with
  | .add => if x.size + y.size ≤ 9223372036854775807 then some (.string (x ++ y)) else none
  | .eql => some (.bool (x.toList == y.toList))
  | .neq => some (.bool !(x.toList == y.toList))
  | .lss => some (.bool (Op.bytesLess x.toList y.toList))
  | .leq => some (.bool (Op.bytesLess x.toList y.toList || x.toList == y.toList))
  | .gtr => some (.bool !(Op.bytesLess x.toList y.toList || x.toList == y.toList))
  | .geq => some (.bool !(Op.bytesLess x.toList y.toList))
  | _ => none

/-- '==' of plain one-cell values. -/
def cellEq : CK → AV → AV → Option Bool
  | .int, .v (.int k a), .v (.int k' b) => if k = k' then some (a == b) else none
  | .str, .v (.string a), .v (.string b) => some (a.toList == b.toList)
  | .bool, .v (.bool a), .v (.bool b) => some (a == b)
  | _, _, _ => none
def cellsEq : List CK → List AV → List AV → Option Bool
  | [], [], [] => some true
  | k :: ks, a :: as, b :: bs => match cellEq k a b with
    | some true => cellsEq ks as bs
    | some false => some false
    | none => none
  | _, _, _ => none

def eqB : EqK → AV → AV → Option Bool
  | .bool, .v (.bool a), .v (.bool b) => some (a == b)
  | .ptr, .v (.pointer none), .v (.pointer none) => some true
  | .ptr, .v (.pointer none), .ptr _ _ | .ptr, .v (.pointer none), .lptr _ _ => some false
  | .ptr, .ptr _ _, .v (.pointer none) | .ptr, .lptr _ _, .v (.pointer none) => some false
  | .iface, .v .nilIface, .v .nilIface => some true
  | .iface, .iface _ _, .v .nilIface | .iface, .v .nilIface, .iface _ _ => some false
  | .slice, .list _ (_ :: _) _, .list _ [] .full => some false
  | .slice, .row _ _ _ _, .list _ [] .full => some false
  | .func, .func _ _ _, .v .nilFunc => some false
  | .func, .v .nilFunc, .v .nilFunc => some true
  | .agg ks, .agg as, .agg bs => cellsEq ks as bs
  | _, _, _ => none

def abin (op : BinOp) (k : EqK) : AV → AV → Option AV
  | .v (.int ka a), .v (.int kb b) => match op with
    | .shl | .shr => (shiftBin op ka a b).map .v
    | _ => if ka = kb then (intBin op ka a b).map .v else none
  | .v (.string a), .v (.string b) => (strBin op a b).map .v
  | a, b => match op with
    | .eql => (eqB k a b).map fun t => .v (.bool t)
    | .neq => (eqB k a b).map fun t => .v (.bool !t)
    | _ => none

def aun (op : UnOp) : AV → Option AV
  | .v (.bool b) => match op with | .not => some (.v (.bool !b)) | _ => none
  | .v (.int k n) => match op with | .neg => some (.v (.int k (k.wrap (0 - n)))) | .xor => some (.v (.int k (bits .xor k (if k.signed then -1 else k.max) n))) | _ => none
  | _ => none

/-- A slice's or a string's bound. -/
def bnd (e : Opd → AV) (x : Option Opd) (d top : Nat) : Option Nat :=
  match x with
  | none => some d
  | some o => match e o with
    | .v (.int _ i) => if 0 ≤ i ∧ i ≤ top then some i.toNat else none
    | _ => none

def chunk (sz : Nat) : Nat → List AV → List (List AV)
  | 0, _ => []
  | n + 1, cs => cs.take sz :: chunk sz n (cs.drop sz)

def byteRows (s : ByteArray) : List (List AV) := s.data.toList.map fun b => [.v (.int .u8 b.toNat)]

/-- The rows of what is appended or copied. -/
def srcRows (sz : Nat) (h : AH) : AV → Option (List (List AV))
  | .list sz' rows _ => if sz' = sz then some rows else none
  | .v (.string s) => if sz = 1 then some (byteRows s) else none
  | .row id off len _ => match h.objs id with
    | some (.cells cs) => if off + len * sz ≤ cs.length then some (chunk sz len (cs.drop off)) else none
    | _ => none
  | _ => none

def bytesOfCells : List AV → Option (List UInt8)
  | [] => some []
  | .v (.int .u8 n) :: r => (bytesOfCells r).map fun l => UInt8.ofNat n.toNat :: l
  | _ => none

def sameKey : CK → Value → Value → Option Bool
  | .int, .int k a, .int k' b => if k = k' then some (a == b) else none
  | .str, .string a, .string b => some (a == b)
  | .bool, .bool a, .bool b => some (a == b)
  | _, _, _ => none
def findK (ck : CK) (k : Value) : List (Value × AV) → Nat → Option (Option (Nat × AV))
  | [], _ => some none
  | e :: es, i => match sameKey ck k e.1 with
    | some true => some (some (i, e.2))
    | some false => findK ck k es (i + 1)
    | none => none

def lookA (h : AH) (ck : CK) (z : AV) (ok : Bool) (k : Value) : AV → Option AV
  | .mapr id => match h.objs id with
    | some (.map es) => match findK ck k es 0 with
      | some (some (_, a)) => some (if ok then .tup [a, .v (.bool true)] else a)
      | some none => some (if ok then .tup [z, .v (.bool false)] else z)
      | none => none
    | _ => none
  | .v (.map none) => some (if ok then .tup [z, .v (.bool false)] else z)
  | _ => none
def updA (h : AH) (ck : CK) (id : Nat) (es : List (Value × AV)) (k : Value) (a : AV) : Option AH :=
  match findK ck k es 0 with
  | some (some (i, _)) => some (h.set id (.map (es.set i (k, a))))
  | some none => some (h.set id (.map (es ++ [(k, a)])))
  | none => none
def delA (h : AH) (ck : CK) (id : Nat) (es : List (Value × AV)) (k : Value) : Option AH :=
  match findK ck k es 0 with
  | some (some (i, _)) => some (h.set id (.map (es.eraseIdx i)))
  | some none => some h
  | none => none

def appTok (h : AH) : Tok → Option (Tok × AH)
  | .no => none
  | .full => some (.own h.nt 0, h.newTok)
  | .own t v => if v = h.ver t then some (.own t (v + 1), h.bump t) else none

def istep : IOp → (Opd → AV) → AH → Option (AV × AH)
  | .mv x, e, h => some (e x, h)
  | .pick c a b, e, h => match e c with
    | .v (.bool t) => some (if t then e a else e b, h)
    | _ => none
  | .box x, e, h => match scells (e x) with
    | some cs => some (.ptr h.n 0, h.alloc (.cells cs))
    | none => none
  | .new z, _, h => some (.ptr h.n 0, h.alloc (.cells z))
  | .newT t _, _, h => some (.ptr h.n 0, h.alloc (.bld t none 0 0))
  | .build z ps, e, h => match fillA z (ps.map fun p => (p.1, p.2.1, e p.2.2)) with
    | some cs => some (.agg cs, h)
    | none => none
  | .lit sz n z ps, e, h => match fillA ((List.replicate n z).flatten) (ps.map fun p => (p.1 * sz, sz, e p.2)) with
    | some cs => some (.list sz (chunk sz n cs) .full, h)
    | none => none
  | .litRow sz n z ps, e, h => match fillA ((List.replicate n z).flatten) (ps.map fun p => (p.1 * sz, sz, e p.2)) with
    | some cs => some (.row h.n 0 n (some n), h.alloc (.cells cs))
    | none => none
  | .load x sz, e, h => match e x with
    | .ptr id off => match h.objs id with
      | some (.cells cs) => (rd cs off sz).map fun a => (a, h)
      | _ => none
    | .lptr cs off => (rd cs off sz).map fun a => (a, h)
    | _ => none
  | .store x y sz, e, h => match e x, scells (e y) with
    | .ptr id off, some as => match h.objs id with
      | some (.cells cs) => if as.length = sz ∧ off + sz ≤ cs.length then some (.v undef, h.set id (.cells (wrL cs off as))) else none
      | _ => none
    | _, _ => none
  | .nilc x, e, h => match e x with
    | .ptr id off => some (.ptr id off, h)
    | .lptr cs off => some (.lptr cs off, h)
    | .func fn fs cs => match fn with
      | .func _ => some (.func fn fs cs, h)
      | _ => none
    | _ => none
  | .bin op k x y, e, h => (abin op k (e x) (e y)).map fun a => (a, h)
  | .un op x, e, h => (aun op (e x)).map fun a => (a, h)
  | .convI k x, e, h => match e x with
    | .v (.int _ n) => some (.v (.int k (k.wrap n)), h)
    | _ => none
  | .convS x, e, h => match e x with
    | .v (.string s) => some (.v (.string s), h)
    | _ => none
  | .s2b row x, e, h => match e x with
    | .v (.string s) => if row then some (.row h.n 0 s.size none, h.alloc (.cells (s.data.toList.map fun b => .v (.int .u8 b.toNat)))) else some (.list 1 (byteRows s) .no, h)
    | _ => none
  | .cvb x, e, h => match e x with
    | .row id off len cap => match h.objs id with
      | some (.cells cs) => if off = 0 ∧ len = cs.length then some (.list 1 (cs.map fun c => [c]) .no, h.drop id) else none
      | _ => none
    | _ => none
  | .b2s x, e, h => match srcRows 1 h (e x) with
    | some rows => match bytesOfCells rows.flatten with
      | some l => some (.v (.string ⟨l.toArray⟩), h)
      | none => none
    | none => none
  | .mki t x, e, h => if (e x).one then some (.iface t (e x), h) else none
  | .mkf fn first caps, e, h => some (.func fn (first.map e) (caps.map e), h)
  | .mkm, _, h => some (.mapr h.n, h.alloc (.map []))
  | .mks sz eb z l c, e, h => match e l, e c with
    | .v (.int .i64 l), .v (.int .i64 c) => if 0 ≤ l ∧ l ≤ c ∧ c * eb ≤ 140737488355328 ∧ c ≤ 9223372036854775807 then
        some (.row h.n 0 l.toNat (some c.toNat), h.alloc (.cells ((List.replicate c.toNat z).flatten))) else none
    | _, _ => none
  | .slS x lo hi, e, h => match e x with
    | .v (.string s) => match bnd e hi s.size s.size with
      | some b => match bnd e lo 0 b with
        | some a => some (.v (.string (s.extract a b)), h)
        | none => none
      | none => none
    | _ => none
  | .slL sz x lo hi mx, e, h => match e x with
    | .list sz' rows tok => if sz' = sz then match bnd e hi rows.length rows.length with
      | some b => match bnd e lo 0 b with
        | some a => match mx with
          | none => some (.list sz ((rows.drop a).take (b - a)) (if b = rows.length then tok else .no), h)
          | some _ => match bnd e mx 0 rows.length with
            | some m => if b ≤ m then some (.list sz ((rows.drop a).take (b - a)) (if b = m then .full else .no), h) else none
            | none => none
        | none => none
      | none => none
      else none
    | .row id off len cap => match mx with
      | none => match bnd e hi len len with
        | some b => match bnd e lo 0 b with
          | some a => match cap with
            | some c => some (.row id (if c = a then off else off + a * sz) (b - a) (some (c - a)), h)
            | none => if a = 0 then some (.row id off b none, h) else none
          | none => none
        | none => none
      | some _ => none
    | _ => none
  | .slA n sz x lo hi, e, h => match e x with
    | .ptr id off => match bnd e hi n n with
      | some b => match bnd e lo 0 b with
        | some a => some (.row id (if n = a then off else off + a * sz) (b - a) (some (n - a)), h)
        | none => none
      | none => none
    | _ => none
  | .fad x off, e, h => match e x with
    | .ptr id o => some (.ptr id (o + off), h)
    | .lptr cs o => some (.lptr cs (o + off), h)
    | _ => none
  | .fld x off sz, e, h => match e x with
    | .agg cs => (rd cs off sz).map fun a => (a, h)
    | _ => none
  | .iaL sz x i, e, h => match e x, e i with
    | .list sz' rows _, .v (.int _ i) => if sz' = sz then if 0 ≤ i then match rows[i.toNat]? with
        | some r => some (.lptr r 0, h)
        | none => none
      else none else none
    | .row id off len _, .v (.int _ i) => if 0 ≤ i ∧ i < len then some (.ptr id (off + i.toNat * sz), h) else none
    | _, _ => none
  | .iaA n sz x i, e, h => match e x, e i with
    | .ptr id off, .v (.int _ i) => if 0 ≤ i ∧ i < n then some (.ptr id (off + i.toNat * sz), h) else none
    | .lptr cs off, .v (.int _ i) => if 0 ≤ i ∧ i < n then some (.lptr cs (off + i.toNat * sz), h) else none
    | _, _ => none
  | .ixS x i, e, h => match e x, e i with
    | .v (.string s), .v (.int _ i) => if 0 ≤ i then match s.data[i.toNat]? with
        | some b => some (.v (.int .u8 b.toNat), h)
        | none => none
      else none
    | _, _ => none
  | .ixA n sz agg x i, e, h => match e x, e i with
    | .agg cs, .v (.int _ i) => if 0 ≤ i ∧ i < n then (rd cs (i.toNat * sz) (if agg then some sz else none)).map fun a => (a, h) else none
    | _, _ => none
  | .look ck z ok x k, e, h => match e k with
    | .v k => (lookA h ck z ok k (e x)).map fun a => (a, h)
    | _ => none
  | .upd ck m k x, e, h => match e m, e k with
    | .mapr id, .v k => match h.objs id with
      | some (.map es) => (updA h ck id es k (e x)).map fun h' => (.v undef, h')
      | _ => none
    | _, _ => none
  | .del ck m k, e, h => match e m, e k with
    | .mapr id, .v k => match h.objs id with
      | some (.map es) => (delA h ck id es k).map fun h' => (.tup [], h')
      | _ => none
    | _, _ => none
  | .ext x i, e, h => match e x with
    | .tup vs => (vs[i]?).map fun a => (a, h)
    | _ => none
  | .len k x, e, h => match k, e x with
    | .str, .v (.string s) => some (.v (.int .i64 s.size), h)
    | .sl, .list _ rows _ => some (.v (.int .i64 rows.length), h)
    | .sl, .row _ _ n _ => some (.v (.int .i64 n), h)
    | .map, .mapr id => match h.objs id with
      | some (.map es) => some (.v (.int .i64 es.length), h)
      | _ => none
    | .map, .v (.map none) => some (.v (.int .i64 0), h)
    | _, _ => none
  | .cap x, e, h => match e x with
    | .row _ _ _ (some c) => some (.v (.int .i64 c), h)
    | .list _ rows .full => some (.v (.int .i64 rows.length), h)
    | _ => none
  | .app sz eb x y, e, h => match e x, srcRows sz h (e y) with
    | .list sz' rows tok, some new => if sz' = sz then match new with
      | [] => some (.list sz rows tok, h)
      | r :: new => match appTok h tok with
        | some (tok', h') => if (rows.length + (new.length + 1)) * eb ≤ 140737488355328 then some (.list sz (rows ++ r :: new) tok', h') else none
        | none => none
      else none
    | _, _ => none
  | .cpy sz x y, e, h => match e x, srcRows sz h (e y) with
    | .row id off len _, some new => match h.objs id with
      | some (.cells cs) => if off + len * sz ≤ cs.length then
          some (.v (.int .i64 ((min new.length len : Nat) : Int)), h.set id (.cells (wrL cs off (new.take len).flatten))) else none
      | _ => none
    | _, _ => none
  | .mnx mx xs, e, h => match xs.map e with
    | .v (.int k a) :: r => (r.foldl (fun (s : Option Int) y => match s, y with
        | some a, .v (.int _ b) => some (if mx then (if b > a then b else a) else (if b < a then b else a))
        | _, _ => none) (some a)).map fun n => (.v (.int k n), h)
    | _ => none
  | .rng x, e, h => match e x with
    | .v (.string s) => some (.ptr h.n 0, h.alloc (.siter s 0))
    | _ => none
  | .nxt x, e, h => match e x with
    | .ptr id 0 => match h.objs id with
      | some (.siter s pos) => if pos < s.size then
          some (.tup [.v (.bool true), .v (.int .i64 pos), .v (.int .i32 (Utf8.decode s pos).1)], h.set id (.siter s (pos + (Utf8.decode s pos).2)))
        else some (.tup [.v (.bool false)], h)
      | _ => none
    | _ => none
  | .call _ _, _, _ => none
  | .callv _ _, _, _ => none

end Go.Abs
/- A program logic over abstract states, 3: each operation of the model does what the compact one says (values alone). -/
namespace Go.Abs
open Go Go.RowKit
set_option linter.unusedVariables false
set_option linter.unusedSimpArgs false

structure FR (Γ : Con) (fr : List AV) (a : Act) : Prop where
  size : a.tmps.size = fr.length
  at_ : ∀ (i : Nat) (h : i < fr.length) (h' : i < a.tmps.size), RV Γ fr[i] a.tmps[i]
theorem FR.mono {Γ Γ' : Con} (hl : Γ.le Γ') {fr : List AV} {a : Act} (h : FR Γ fr a) : FR Γ' fr a := ⟨h.size, fun i x y => (h.at_ i x y).mono hl⟩
def put (fr : List AV) (dst : Option Nat) (v : AV) : List AV :=
  match dst with
  | some d => fr.set d v
  | none => fr
theorem FR.put {Γ : Con} {fr : List AV} {a : Act} (h : FR Γ fr a) {v : AV} {x : Value} (hv : RV Γ v x) (dst : Option Nat) : FR Γ (put fr dst v) (a.put dst x) := by
  cases dst with
  | none => exact h
  | some d =>
    refine ⟨by simp [Act.put, Abs.put, h.size], fun i hi hi' => ?_⟩
    have hi2 : i < fr.length := by simpa [Abs.put] using hi
    have hi3 : i < a.tmps.size := by rw [h.size]; exact hi2
    have hi4 : i < (fr.set d v).length := hi
    have hi5 : i < (a.tmps.setIfInBounds d x).size := hi'
    show RV Γ ((fr.set d v)[i]'hi4) ((a.tmps.setIfInBounds d x)[i]'hi5)
    by_cases e : d = i
    · subst e
      rw [List.getElem_set_self, Array.getElem_setIfInBounds_self]
      exact hv
    · rw [List.getElem_set_ne e, Array.getElem_setIfInBounds_ne hi3 e]
      exact h.at_ i hi2 hi3

def constA (sz : Nat) : Value → Option AV
  | .slice none 0 0 => some (.list sz [] .full)
  | .agg _ | .tuple _ => none
  | x => some (.v x)
theorem RV_constA {Γ : Con} {sz : Nat} {x : Value} {a : AV} (h : constA sz x = some a) : RV Γ a x := by
  unfold constA at h
  split at h
  · injection h with h; subst h; exact .nilf
  · cases h
  · cases h
  · injection h with h; subst h; exact .v _
/-- How many cells an element of a slice type has (0: no slice type). -/
def elSz (P : Program) (t : TypeId) : Nat :=
  match P.underlying t with
  | some (.slice e) => P.cellsOf e
  | _ => 0
def copd (P : Program) (t : TypeId) : Operand → Option Opd
  | .tmp t => some (.tmp t)
  | .const v => (constA (elSz P t) v).map .cst
  | .global g => some (.cst (.v (.pointer (some ⟨g, 0, none⟩))))
  | .func f => some (.cst (.func (.func f) [] []))
theorem FR.eval {P : Program} {t : TypeId} {Γ : Con} {fr : List AV} {a : Act} (h : FR Γ fr a) {X : Operand} {x : Opd} (hx : copd P t X = some x) : RV Γ (ev fr x) (a.eval X) := by
  cases X with
  | tmp t =>
    simp only [copd, Option.some.injEq] at hx
    subst hx
    simp only [ev, Act.eval, List.getD_eq_getElem?_getD, Array.getD_eq_getD_getElem?]
    by_cases ht : t < fr.length
    · rw [List.getElem?_eq_getElem ht, Array.getElem?_eq_getElem (by rw [h.size]; exact ht)]
      exact h.at_ t ht (by rw [h.size]; exact ht)
    · rw [List.getElem?_eq_none (Nat.le_of_not_lt ht), Array.getElem?_eq_none (by rw [h.size]; exact Nat.le_of_not_lt ht)]
      exact .v _
  | const v =>
    simp only [copd, Option.map_eq_some_iff] at hx
    obtain ⟨b, hb, rfl⟩ := hx
    exact RV_constA hb
  | global g => simp only [copd, Option.some.injEq] at hx; subst hx; exact .v _
  | func f =>
    simp only [copd, Option.some.injEq] at hx
    subst hx
    exact .func rfl rfl (fun i h => by simp at h) (fun i h => by simp at h)

/-- What an operation's run comes to. -/
def Res (P : Program) (w0 : World) (Γ : Con) (r : Result Next) (v : AV) (h' : AH) : Prop :=
  ∃ Γ' x w', (r = .ok (.value x) w' ∨ r = .ok .skip w' ∧ x = undef) ∧ Γ.le Γ' ∧ RV Γ' v x ∧ WR w0 Γ' h' w'
theorem Res.same {P : Program} {w0 : World} {Γ : Con} {h : AH} {w : World} {v : AV} {x : Value} {r : Result Next} (hr : r = .ok (.value x) w) (hv : RV Γ v x) (H : WR w0 Γ h w) : Res P w0 Γ r v h :=
  ⟨Γ, x, w, .inl hr, .refl Γ, hv, H⟩

section
variable {P : Program} {w0 : World} {Γ : Con} {h : AH} {w : World}

/-! values opened -/
theorem RV.inv_v {x : Value} {y : Value} (h : RV Γ (.v x) y) : y = x := by cases h; rfl
theorem RV.inv_ptr {id off : Nat} {y : Value} (h : RV Γ (.ptr id off) y) : ∃ b, Γ.rho id = some b ∧ y = .pointer (some ⟨b, off, none⟩) := by
  cases h with | ptr h => exact ⟨_, h, rfl⟩
theorem RV.inv_mapr {id : Nat} {y : Value} (h : RV Γ (.mapr id) y) : ∃ b, Γ.rho id = some b ∧ y = .map (some b) := by
  cases h with | mapr h => exact ⟨_, h, rfl⟩
theorem RV.inv_row {id off len : Nat} {cap : Option Nat} {y : Value} (h : RV Γ (.row id off len cap) y) : ∃ b c, Γ.rho id = some b ∧ y = .slice (some ⟨b, off, none⟩) len c ∧ len ≤ c ∧ ∀ k, cap = some k → k = c := by
  cases h with | row h hl hc => exact ⟨_, _, h, rfl, hl, hc⟩
theorem RV.inv_lptr {cells : List AV} {off : Nat} {y : Value} (h : RV Γ (.lptr cells off) y) : ∃ (b o : Nat) (u : Nat → Value), y = .pointer (some ⟨b, o + off, none⟩) ∧ (∀ j, j < cells.length → Γ.F b (o + j) = some (u j)) ∧
    (∀ j, j < cells.length → (u j).oneCell' = true) ∧ ∀ (j : Nat) (hj : j < cells.length), RV Γ cells[j] (u j) := by
  cases h with | lptr hF h1 hr => exact ⟨_, _, _, rfl, hF, h1, hr⟩
theorem RV.inv_agg {cells : List AV} {y : Value} (h : RV Γ (.agg cells) y) : ∃ vs, y = .agg vs ∧ vs.size = cells.length ∧ (∀ (i : Nat) (h : i < vs.size), vs[i].oneCell' = true) ∧
    ∀ (i : Nat) (h : i < cells.length) (h' : i < vs.size), RV Γ cells[i] vs[i] := by
  cases h with | agg hs h1 hr => exact ⟨_, rfl, hs, h1, hr⟩
theorem RV.inv_tup {xs : List AV} {y : Value} (h : RV Γ (.tup xs) y) : ∃ vs, y = .tuple vs ∧ vs.size = xs.length ∧ ∀ (i : Nat) (h : i < xs.length) (h' : i < vs.size), RV Γ xs[i] vs[i] := by
  cases h with | tup hs hr => exact ⟨_, rfl, hs, hr⟩
theorem RV.inv_iface {t : TypeId} {x : AV} {y : Value} (h : RV Γ (.iface t x) y) : ∃ z, y = .iface t z ∧ RV Γ x z := by
  cases h with | iface h => exact ⟨_, rfl, h⟩
theorem RV.inv_func {fn : Fn} {first caps : List AV} {y : Value} (h : RV Γ (.func fn first caps) y) : ∃ vf vc, y = .func fn vf vc ∧ vf.size = first.length ∧ vc.size = caps.length ∧
    (∀ (i : Nat) (h : i < first.length) (h' : i < vf.size), RV Γ first[i] vf[i]) ∧ ∀ (i : Nat) (h : i < caps.length) (h' : i < vc.size), RV Γ caps[i] vc[i] := by
  cases h with | func h1 h2 hf hc => exact ⟨_, _, rfl, h1, h2, hf, hc⟩

/-- The cells that a value fills. -/
structure Cells (Γ : Con) (cs : List AV) (vs : List Value) : Prop where
  len : vs.length = cs.length
  at_ : ∀ (i : Nat) (h : i < cs.length) (h' : i < vs.length), RV Γ cs[i] vs[i]
  one : ∀ x ∈ vs, x.oneCell' = true
theorem Cells.mono {Γ Γ' : Con} (hl : Γ.le Γ') {cs : List AV} {vs : List Value} (h : Cells Γ cs vs) : Cells Γ' cs vs := ⟨h.len, fun i a b => (h.at_ i a b).mono hl, h.one⟩
theorem scells_sound {a : AV} {x : Value} {cs : List AV} (hs : scells a = some cs) (h : RV Γ a x) : Cells Γ cs x.cells.toList := by
  have single : a.one = true → cs = [a] → x.cells = #[x] → Cells Γ cs x.cells.toList := by
    intro ho hc hx
    subst hc
    rw [hx]
    refine ⟨rfl, fun i hi hi' => ?_, fun y hy => ?_⟩
    · have : i = 0 := by simpa using hi
      subst this; exact h
    · obtain rfl : y = x := by simpa using hy
      exact h.one ho
  cases h with
  | agg hsz h1 hr =>
    simp only [scells, Option.some.injEq] at hs
    subst hs
    rename_i vs
    show Cells Γ _ vs.toList
    refine ⟨by simpa using hsz, fun i hi hi' => ?_, fun y hy => ?_⟩
    · rw [Array.getElem_toList]; exact hr i hi (by simpa using hi')
    · obtain ⟨i, hi, rfl⟩ := List.getElem_of_mem hy
      rw [Array.getElem_toList]; exact h1 i (by simpa using hi)
  | v x =>
    simp only [scells] at hs
    split at hs
    · rename_i ho
      injection hs with hs
      refine single ho hs.symm ?_
      cases x <;> first | rfl | (simp [AV.one, Value.oneCell'] at ho)
    · cases hs
  | nilf => simp only [scells, AV.one, if_true, Option.some.injEq] at hs; exact single rfl hs.symm rfl
  | niln => simp only [scells, AV.one, if_true, Option.some.injEq] at hs; exact single rfl hs.symm rfl
  | list => simp only [scells, AV.one, if_true, Option.some.injEq] at hs; exact single rfl hs.symm rfl
  | row => simp only [scells, AV.one, if_true, Option.some.injEq] at hs; exact single rfl hs.symm rfl
  | ptr => simp only [scells, AV.one, if_true, Option.some.injEq] at hs; exact single rfl hs.symm rfl
  | lptr => simp only [scells, AV.one, if_true, Option.some.injEq] at hs; exact single rfl hs.symm rfl
  | mapr => simp only [scells, AV.one, if_true, Option.some.injEq] at hs; exact single rfl hs.symm rfl
  | func => simp only [scells, AV.one, if_true, Option.some.injEq] at hs; exact single rfl hs.symm rfl
  | iface => simp only [scells, AV.one, if_true, Option.some.injEq] at hs; exact single rfl hs.symm rfl
  | tup => simp [scells, AV.one] at hs

/-! what is read out of cells -/
def aggSz (P : Program) (t : TypeId) : Option (Option Nat) :=
  match P.underlying t, P.info? t with
  | some (.struct _), some i => some (some i.size)
  | some (.array _ _), some i => some (some i.size)
  | some _, some _ => some none
  | _, _ => none
theorem run_isAgg {t : TypeId} {s : Option Nat} (ht : aggSz P t = some s) (w : World) : (isAgg t).run P w = .ok s.isSome w := by
  unfold aggSz at ht
  unfold isAgg
  split at ht <;> try cases ht
  · rename_i h1 h2; rw [Sem.run_bind, run_underlying h1]; rfl
  · rename_i h1 h2; rw [Sem.run_bind, run_underlying h1]; rfl
  · rename_i d i h1 h2 h3 h4
    rw [Sem.run_bind, run_underlying h3]
    simp only [Result.andThen_ok]
    first | rfl | (split <;> first | rfl | exact absurd h3 (by first | exact h1 _ | exact h2 _ _))
theorem run_sizeOf' {t : TypeId} {i : TypeInfo} (h : P.info? t = some i) (w : World) : (sizeOf t).run P w = .ok i.size w := by
  simp [sizeOf, typeInfo, h]
theorem aggSz_info {t : TypeId} {s : Option Nat} (ht : aggSz P t = some s) : ∃ i, P.info? t = some i ∧ ∀ n, s = some n → i.size = n := by
  unfold aggSz at ht
  split at ht <;> try cases ht
  · rename_i h2; exact ⟨_, h2, fun n hn => by injection hn⟩
  · rename_i h2; exact ⟨_, h2, fun n hn => by injection hn⟩
  · rename_i h4; exact ⟨_, h4, fun n hn => by cases hn⟩

theorem addr_add (b o n : Nat) : Addr.add ⟨b, o, none⟩ n = ⟨b, o + n, none⟩ := Addr.add_lit b o n
/-- Cells of a block that a pointer reads. -/
def Here (Γ : Con) (w : World) (b o : Nat) (cs : List AV) : Prop :=
  ∃ u : Nat → Value, (∀ j, j < cs.length → w.cell? ⟨b, o + j, none⟩ = some (u j)) ∧ (∀ j, j < cs.length → (u j).oneCell' = true) ∧ ∀ (j : Nat) (hj : j < cs.length), RV Γ cs[j] (u j)
theorem run_rd {t : TypeId} {s : Option Nat} (ht : aggSz P t = some s) {b o off : Nat} {cs : List AV} {a : AV} (hc : Here Γ w b o cs) (ha : rd cs off s = some a) :
    ∃ x, (loadVar t ⟨b, o + off, none⟩).run P w = .ok x w ∧ RV Γ a x := by
  obtain ⟨u, hu, h1, hr⟩ := hc
  obtain ⟨i, hi, hsz⟩ := aggSz_info ht
  unfold loadVar
  rw [Sem.run_bind, run_isAgg ht]
  simp only [Result.andThen_ok]
  cases s with
  | none =>
    simp only [rd] at ha
    obtain ⟨hlt, rfl⟩ := List.getElem?_eq_some_iff.1 ha
    refine ⟨u off, ?_, hr off hlt⟩
    simp [hu off hlt]
  | some n =>
    simp only [rd] at ha
    split at ha
    · rename_i hle
      injection ha with ha
      subst ha
      have hcells : ∀ j, j < n → w.cell? ((⟨b, o + off, none⟩ : Addr).add j) = some (u (off + j)) := by
        intro j hj
        rw [addr_add, Nat.add_assoc]
        exact hu (off + j) (by omega)
      refine ⟨.agg ((List.range n).map fun j => u (off + j)).toArray, ?_, ?_⟩
      · have hl := run_loadCells (P := P) (w := w) ⟨b, o + off, none⟩ n (fun j => u (off + j)) hcells
        simp only [Option.isSome_some, if_true, Sem.run_bind, run_sizeOf' hi, Result.andThen_ok, hsz n rfl, hl, Sem.run_pure]
      · refine .agg (by simp; omega) (fun j hj => ?_) (fun j hj hj' => ?_)
        · simp only [List.size_toArray, List.length_map, List.length_range] at hj
          simpa using h1 (off + j) (by omega)
        · simp only [List.length_take, List.length_drop] at hj
          simpa using hr (off + j) (by omega)
    · cases ha

theorem WR.here {id : Nat} {cs : List AV} (H : WR w0 Γ h w) (ho : h.objs id = some (.cells cs)) {b : Nat} (hb : Γ.rho id = some b) : Here Γ w b 0 cs := by
  obtain ⟨b', hb', _, ⟨vs, e, fr, hh, hl, hc⟩, _⟩ := H.obj ho
  obtain rfl : b = b' := by rw [hb] at hb'; injection hb'
  refine ⟨fun j => vs.getD j undef, fun j hj => ?_, fun j hj => ?_, fun j hj => ?_⟩
  · have : j < vs.size := by omega
    simp [World.cell?, hh, this]
  · have : j < vs.size := by omega
    simpa [this] using (hc j hj this).2.1
  · have : j < vs.size := by omega
    simpa [this] using (hc j hj this).1

theorem run_part {t : TypeId} {s : Option Nat} (ht : aggSz P t = some s) {off : Nat} {cs : List AV} {vs : Array Value} {a : AV} (hs : vs.size = cs.length) (h1 : ∀ (i : Nat) (h : i < vs.size), vs[i].oneCell' = true)
    (hr : ∀ (i : Nat) (h : i < cs.length) (h' : i < vs.size), RV Γ cs[i] vs[i]) (ha : rd cs off s = some a) : ∃ x, (part t vs off).run P w = .ok x w ∧ RV Γ a x := by
  obtain ⟨i, hi, hsz⟩ := aggSz_info ht
  unfold part
  rw [Sem.run_bind, run_isAgg ht]
  simp only [Result.andThen_ok]
  cases s with
  | none =>
    simp only [rd] at ha
    obtain ⟨hlt, rfl⟩ := List.getElem?_eq_some_iff.1 ha
    exact ⟨vs[off], by simp [show off < vs.size by omega], hr off hlt (by omega)⟩
  | some n =>
    simp only [rd] at ha
    split at ha
    · rename_i hle
      injection ha with ha
      subst ha
      refine ⟨.agg (vs.extract off (off + n)), by simp [run_sizeOf' hi, hsz n rfl], .agg (by simp; omega) (fun j hj => ?_) (fun j hj hj' => ?_)⟩
      · simp only [Array.size_extract] at hj
        simpa using h1 (off + j) (by omega)
      · simp only [List.length_take, List.length_drop] at hj
        simpa using hr (off + j) (by omega) (by omega)
    · cases ha
end
end Go.Abs
