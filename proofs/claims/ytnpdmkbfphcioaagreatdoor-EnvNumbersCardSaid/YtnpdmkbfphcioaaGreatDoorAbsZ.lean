/- A program logic over abstract states, 26: further moves of a run: bytes, parts of lists. -/
import Derived.Test.YtnpdmkbfphcioaaGreatDoorAbsY
namespace Go.Abs
open Go Go.RowKit
set_option linter.unusedVariables false
set_option linter.unusedSimpArgs false
/-- The rows of bytes. -/
def brows (l : List UInt8) : List (List AV) := l.map fun b => [.v (.int .u8 (b.toNat : Int))]
theorem brows_len (l : List UInt8) : (brows l).length = l.length := by simp [brows]
theorem brows_get (l : List UInt8) (i : Nat) : (brows l)[i]? = (l[i]?).map fun b => [.v (.int .u8 (b.toNat : Int))] := by simp [brows]
theorem brows_app (l m : List UInt8) : brows (l ++ m) = brows l ++ brows m := by simp [brows]
theorem brows_drop (l : List UInt8) (n : Nat) : (brows l).drop n = brows (l.drop n) := by simp [brows, List.map_drop]
theorem brows_take (l : List UInt8) (n : Nat) : (brows l).take n = brows (l.take n) := by simp [brows, List.map_take]
theorem byteRows_brows (l : List UInt8) : byteRows (bs l) = brows l := byteRows_bs l
theorem u8_of (b : UInt8) : UInt8.ofNat ((b.toNat : Int)).toNat = b := by simp
theorem bytes_brows : ∀ l : List UInt8, bytesOfCells (brows l).flatten = some l
  | [] => rfl
  | b :: l => by
    have ih := bytes_brows l
    simp only [brows, List.map_cons, List.flatten_cons, List.cons_append, List.nil_append, bytesOfCells] at ih ⊢
    rw [ih]
    simp
section
variable {σ : Fm} {h : AH}
theorem is_quo {q : EqK} {x y : Opd} {k : IntKind} {a b c : Int} (hx : evF σ x = .v (.int k a)) (hy : evF σ y = .v (.int k b)) (hb : ¬ b = 0) (hw : k.wrap (a.tdiv b) = c) : istep (.bin .quo q x y) (evF σ) h = some (.v (.int k c), h) := by
  simp [istep, hx, hy, abin, intBin, hw, hb]
theorem is_rem {q : EqK} {x y : Opd} {k : IntKind} {a b c : Int} (hx : evF σ x = .v (.int k a)) (hy : evF σ y = .v (.int k b)) (hb : ¬ b = 0) (hw : a.tmod b = c) : istep (.bin .rem q x y) (evF σ) h = some (.v (.int k c), h) := by
  simp [istep, hx, hy, abin, intBin, hw, hb]
theorem is_b2s {x : Opd} {a : AV} {rows : List (List AV)} {l : List UInt8} (hx : evF σ x = a) (hv : srcRows 1 h a = some rows) (hw : bytesOfCells rows.flatten = some l) : istep (.b2s x) (evF σ) h = some (.v (.string (bs l)), h) := by
  simp only [istep, hx, hv, hw]; rfl
theorem bnd_none {d top : Nat} : bnd (evF σ) none d top = some d := rfl
theorem bnd_some {o : Opd} {d top n : Nat} {k : IntKind} {i : Int} (hx : evF σ o = .v (.int k i)) (hb : 0 ≤ i ∧ i ≤ top) (hw : i.toNat = n) : bnd (evF σ) (some o) d top = some n := by
  simp only [bnd, hx, if_pos hb, hw]
theorem is_slL {sz : Nat} {x : Opd} {lo hi : Option Opd} {rows rows' : List (List AV)} {tok tok' : Tok} {a b : Nat} (hx : evF σ x = .list sz rows tok) (hh : bnd (evF σ) hi rows.length rows.length = some b) (hl : bnd (evF σ) lo 0 b = some a) (hw : (rows.drop a).take (b - a) = rows') (ht : (if b = rows.length then tok else .no) = tok') :
    istep (.slL sz x lo hi none) (evF σ) h = some (.list sz rows' tok', h) := by
  simp only [istep, hx, if_true, hh, hl, hw, ht]
theorem is_slS {x : Opd} {lo hi : Option Opd} {l l' : List UInt8} {a b n : Nat} (hx : evF σ x = .v (.string (bs l))) (hn : l.length = n) (hh : bnd (evF σ) hi n n = some b) (hl : bnd (evF σ) lo 0 b = some a) (hw : (l.take b).drop a = l') :
    istep (.slS x lo hi) (evF σ) h = some (.v (.string (bs l')), h) := by
  subst hn
  simp only [istep, hx, bs_size, hh, hl, bs_extract, hw]
theorem is_s2bb {x : Opd} {l : List UInt8} (hx : evF σ x = .v (.string (bs l))) : istep (.s2b false x) (evF σ) h = some (.list 1 (brows l) .no, h) := by
  simp only [istep, hx, Bool.false_eq_true, if_false, byteRows_brows]
end
theorem dopsF.cont {P : Program} {w0 : World} {σ : Fm} {h : AH} {cs : List IOper} {os : List (IOper × List IOper)} {Q : Fm → AH → Prop} (k : stabsF cs σ h) (k' : dopsF P w0 os Q σ h) : stabsF cs σ h ∧ dopsF P w0 os Q σ h := ⟨k, k'⟩
theorem tBD {p : Prop} (h : p := by ((first | with_reducible exact bnd_none | ((with_reducible apply bnd_some); (case hx => exact tEV); (case hb => exact tNB); (case hw => exact tLN))); (first | done | fail))) : p := h
theorem tBR {p : Prop} (h : p := by ((first | exact bytes_brows _ | ((simp only [List.flatten_cons, List.flatten_nil, List.append_nil, List.nil_append, List.cons_append, bytesOfCells, Option.map_some]); rfl)); (first | done | fail))) : p := h
theorem tTK {p : Prop} (h : p := by ((first | ((simp only [ite_self]); rfl) | ((simp (disch := omega) only [if_pos, if_neg, *]); rfl) | rfl); (first | done | fail))) : p := h
theorem tSL {p : Prop} (h : p := by ((first | ((simp only [List.drop_zero, Nat.sub_zero, List.take_length, *]); rfl) | rfl); (first | done | fail))) : p := h
theorem tHX {p : Prop} (h : p := by ((first | (simp (disch := omega) only [alloc_at, set_at, newTok_at, bump_at, alloc_n, set_n, newTok_n, bump_n, alloc_nt, set_nt, newTok_nt, bump_nt, alloc_ver, set_ver, newTok_ver, bump_ver, eq_self, if_true, reduceIte, *]; done) | (simp (disch := omega) only [alloc_at, set_at, newTok_at, bump_at, alloc_n, set_n, newTok_n, bump_n, alloc_nt, set_nt, newTok_nt, bump_nt, alloc_ver, set_ver, newTok_ver, bump_ver, eq_self, if_true, reduceIte, if_pos, if_neg, *]; done) | exact tHE); (first | done | fail))) : p := h
theorem tHT {p : Prop} (h : p := by ((first | with_reducible exact is_newT | ((with_reducible apply is_quo); (case hx => exact tEV); (case hy => exact tEV); (case hb => exact tNB); (case hw => exact tAR)) | ((with_reducible apply is_rem); (case hx => exact tEV); (case hy => exact tEV); (case hb => exact tNB); (case hw => exact tAR)) | ((with_reducible apply is_slL); (case hx => exact tEV); (case hh => exact tBD); (case hl => exact tBD); (case hw => exact tSL); (case ht => exact tTK)) | ((with_reducible apply is_slS); (case hx => exact tEV); (case hn => exact tLN); (case hh => exact tBD); (case hl => exact tBD); (case hw => exact tSL)) | ((with_reducible apply is_b2s); (case hx => exact tEV); (case hv => rfl); (case hw => exact tBR))); (first | done | fail))) : p := h

end Go.Abs
