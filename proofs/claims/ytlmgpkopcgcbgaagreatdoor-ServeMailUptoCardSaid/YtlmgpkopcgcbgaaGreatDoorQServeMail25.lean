/- What the proof needs, part 25: A program logic over abstract states, 23: arguments opened as plain data. -/
import Derived.Test.YtlmgpkopcgcbgaaGreatDoorQServeMail11
import Derived.ChangeSame
import Derived.ChangeArms
import Derived.SizedLaws
/- A program logic over abstract states, 23: arguments opened as plain data. -/
namespace Go.Abs
open Go Go.RowKit
set_option linter.unusedVariables false
set_option linter.unusedSimpArgs false

/-- Types of plain data. -/
inductive Ty where
  | int (k : IntKind)
  | bool
  | str
  | slice (e : Ty)
  | unit
  | pair (a b : Ty)
def Ty.D : Ty → Type
  | .int _ => Int
  | .bool => Bool
  | .str => List UInt8
  | .slice e => List e.D
  | .unit => Unit
  | .pair a b => a.D × b.D
def Ty.sz : Ty → Nat
  | .int _ | .bool | .str | .slice _ => 1
  | .unit => 0
  | .pair a b => a.sz + b.sz
def Ty.enc : (t : Ty) → t.D → List AV
  | .int k, n => [.v (.int k n)]
  | .bool, b => [.v (.bool b)]
  | .str, l => [.v (.string (bs l))]
  | .slice e, l => [.list e.sz (l.map e.enc) .no]
  | .unit, _ => []
  | .pair a b, x => a.enc x.1 ++ b.enc x.2
def Ty.val : (t : Ty) → t.D → AV
  | .int k, n => .v (.int k n)
  | .bool, b => .v (.bool b)
  | .str, l => .v (.string (bs l))
  | .slice e, l => .list e.sz (l.map e.enc) .no
  | .unit, _ => .agg []
  | .pair a b, x => .agg (a.enc x.1 ++ b.enc x.2)
def Ty.wf : (t : Ty) → t.D → Prop
  | .int k, n => (Lit.int k n).wf = true
  | .bool, _ => True
  | .str, l => l.length ≤ 9223372036854775807
  | .slice e, l => List.length l ≤ 9223372036854775807 ∧ ∀ x, List.Mem x l → e.wf x
  | .unit, _ => True
  | .pair a b, x => a.wf x.1 ∧ b.wf x.2

/-- Its strings and slices have at most so many bytes and elements. -/
def Ty.fit (B : Nat) : (t : Ty) → t.D → Prop
  | .int _, _ => True
  | .bool, _ => True
  | .str, l => l.length ≤ B
  | .slice e, l => List.length l ≤ B ∧ ∀ x, List.Mem x l → e.fit B x
  | .unit, _ => True
  | .pair a b, x => a.fit B x.1 ∧ b.fit B x.2

def tyFs (P : Program) (g : TypeId → Option Ty) : List Field → Nat → Option Ty
  | [], _ => some .unit
  | f :: fs, off => match g f.type with
    | some T => if f.offset = off ∧ P.cellsOf f.type = T.sz then (tyFs P g fs (off + T.sz)).map (.pair T) else none
    | none => none
def tyOf (P : Program) : Nat → TypeId → Option Ty
  | 0, _ => none
  | n + 1, t => match P.underlying t with
    | some .bool => some .bool
    | some (.int k) => some (.int k)
    | some .string => some .str
    | some (.slice e) => match tyOf P n e with
      | some T => if P.cellsOf e = T.sz ∧ T.sz ≠ 0 ∧ P.bytesOf e ≠ 0 then some (.slice T) else none
      | none => none
    | some (.struct fs) => match tyFs P (tyOf P n) fs.toList 0 with
      | some T => if P.cellsOf t = T.sz then some T else none
      | none => none
    | _ => none

theorem Ty.enc_len : ∀ (T : Ty) (d : T.D), (T.enc d).length = T.sz
  | .int _, _ | .bool, _ | .str, _ | .slice _, _ | .unit, _ => rfl
  | .pair a b, x => by simp only [Ty.enc, List.length_append, Ty.sz, Ty.enc_len a x.1, Ty.enc_len b x.2]
theorem Ty.enc_one : ∀ (T : Ty) (d : T.D), ∀ a ∈ T.enc d, a.one = true
  | .int _, _, a, h | .bool, _, a, h | .str, _, a, h | .slice _, _, a, h => by
    simp only [Ty.enc, List.mem_singleton] at h
    subst h; rfl
  | .unit, _, a, h => by simp [Ty.enc] at h
  | .pair p q, x, a, h => by
    simp only [Ty.enc, List.mem_append] at h
    rcases h with h | h
    · exact Ty.enc_one p x.1 a h
    · exact Ty.enc_one q x.2 a h

theorem RVs.single {Γ : Con} {a : AV} {v : Value} (h : RV Γ a v) : RVs Γ [a] [v] := .cons h .nil

theorem mapM_some {α β : Type} {f : α → Option β} : ∀ {l : List α} {ys : List β}, l.mapM f = some ys → ys.length = l.length ∧ ∀ (i : Nat) (h : i < l.length), ∃ y, f l[i] = some y
  | [], ys, h => by simp at h; subst h; exact ⟨rfl, fun i hi => by simp at hi⟩
  | x :: l, ys, h => by
    rw [List.mapM_cons] at h
    cases hx : f x with
    | none => rw [hx] at h; simp at h
    | some y =>
      cases hl : l.mapM f with
      | none => rw [hx, hl] at h; simp at h
      | some zs =>
        rw [hx, hl] at h
        simp at h
        subst h
        obtain ⟨h1, h2⟩ := mapM_some hl
        refine ⟨by simp [h1], fun i hi => ?_⟩
        cases i with
        | zero => exact ⟨y, hx⟩
        | succ i => exact h2 i (by simpa using hi)
theorem mapM_at {α β : Type} {f : α → Option β} : ∀ {l : List α} {ys : List β}, l.mapM f = some ys → ∀ (i : Nat) (h : i < l.length) (h' : i < ys.length), f l[i] = some ys[i]
  | [], ys, h => by intro i hi; simp at hi
  | x :: l, ys, h => by
    rw [List.mapM_cons] at h
    cases hx : f x with
    | none => rw [hx] at h; simp at h
    | some y =>
      cases hl : l.mapM f with
      | none => rw [hx, hl] at h; simp at h
      | some zs =>
        rw [hx, hl] at h
        simp at h
        subst h
        intro i hi hi'
        cases i with
        | zero => simpa using hx
        | succ i => simpa using mapM_at hl i (by simpa using hi) (by simpa using hi')

/-- One for each. -/
theorem choose_list {α : Type} {p : Nat → α → Prop} : ∀ (n : Nat), (∀ i, i < n → ∃ d, p i d) → ∃ ds : List α, ds.length = n ∧ ∀ (i : Nat) (h : i < ds.length), p i ds[i]
  | 0, _ => ⟨[], rfl, fun i h => by simp at h⟩
  | n + 1, h => by
    obtain ⟨ds, h1, h2⟩ := choose_list n fun i hi => h i (by omega)
    obtain ⟨d, hd⟩ := h n (by omega)
    refine ⟨ds ++ [d], by simp [h1], fun i hi => ?_⟩
    by_cases hlt : i < ds.length
    · rw [List.getElem_append_left hlt]; exact h2 i hlt
    · have : i = n := by simp at hi; omega
      subst this
      rw [List.getElem_append_right (by omega)]
      simpa [h1] using hd

section
variable {P : Program} {w : World} {H : Type} {enc : TypeId × Value → H} {held : Bool}

theorem RVs.append_inv {Γ : Con} {xs ys : List AV} {vs : List Value} (h : RVs Γ xs (vs.take xs.length)) (h' : RVs Γ ys (vs.drop xs.length)) : RVs Γ (xs ++ ys) vs := by
  have := h.append h'
  rwa [List.take_append_drop] at this

theorem cells_some {w : World} {base : Nat} {a : Addr} {n : Nat} {cs : List Value} (h : w.cells? base a n = some cs) : cs.length = n ∧ ∀ (j : Nat) (hj : j < cs.length), w.cell? (a.add j) = some cs[j] := by
  unfold World.cells? at h
  split at h
  · obtain ⟨h1, _⟩ := mapM_some h
    refine ⟨by simpa using h1, fun j hj => ?_⟩
    have := mapM_at h j (by simpa [h1] using hj) hj
    simpa using this
  · cases h
theorem cell_spot {w : World} {a : Addr} {v : Value} (h : w.cell? a = some v) : a.spot = none := by
  unfold World.cell? at h
  split at h
  · split at h
    · cases h
    · rename_i hs; simpa using hs
  · cases h

theorem mem_weightsAll {e : TypeId} {d : DataW H} {k : Nat} (hk : k ∈ d.weights P e) : ∀ {l : List (DataW H)}, d ∈ l → k ∈ DataW.weightsAll P e l
  | x :: l, h => by
    rw [DataW.weightsAll]
    rcases List.mem_cons.1 h with rfl | h
    · exact List.mem_append.2 (.inl hk)
    · exact List.mem_append.2 (.inr (mem_weightsAll hk h))
end
end Go.Abs
