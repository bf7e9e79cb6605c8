/- A program logic over abstract states, 9: literals, structs, rows of bytes. -/
import Derived.Test.YtnpdmkbfphcioaaGreatDoorAbsH
namespace Go.Abs
open Go Go.RowKit
set_option linter.unusedVariables false
set_option linter.unusedSimpArgs false

section
variable {P : Program} {w0 : World} {Γ : Con} {h : AH} {w : World}

theorem Cells.wr {z as : List AV} {zs : Array Value} {xs : List Value} {off : Nat} (hz : Cells Γ z zs.toList) (ha : Cells Γ as xs) (hle : off + as.length ≤ z.length) : Cells Γ (wrL z off as) (wrA zs off xs).toList := by
  have hzl := hz.len; have hal := ha.len
  simp only [Array.length_toList] at hzl
  have key : ∀ (i : Nat) (hi : i < (wrL z off as).length) (hi' : i < (wrA zs off xs).size), RV Γ (wrL z off as)[i] (wrA zs off xs)[i] ∧ (wrA zs off xs)[i].oneCell' = true := by
    intro i hi hi'
    have hi1 : i < z.length := by rwa [wrL_length] at hi
    have hi2 : i < zs.size := by rwa [wrA_size] at hi'
    have eL := wrL_at as z off i
    have eA := wrA_at xs zs off i
    rw [List.getElem?_eq_getElem hi] at eL
    rw [Array.getElem?_eq_getElem hi'] at eA
    by_cases hin : off ≤ i ∧ i < off + as.length
    · rw [if_pos (by omega), List.getElem?_eq_getElem (by omega)] at eL
      rw [if_pos (by omega), List.getElem?_eq_getElem (by omega)] at eA
      injection eL with eL
      injection eA with eA
      rw [eL, eA]
      exact ⟨ha.at_ (i - off) (by omega) (by omega), ha.one _ (List.getElem_mem _)⟩
    · rw [if_neg (by omega), List.getElem?_eq_getElem hi1] at eL
      rw [if_neg (by omega), Array.getElem?_eq_getElem hi2] at eA
      injection eL with eL
      injection eA with eA
      rw [eL, eA]
      have := hz.at_ i hi1 (by simpa using hi2)
      rw [Array.getElem_toList] at this
      exact ⟨this, hz.one _ (by simp)⟩
  refine ⟨by simp [wrL_length, wrA_size, hzl], fun i hi hi' => ?_, fun x hx => ?_⟩
  · rw [Array.getElem_toList]; exact (key i hi (by simpa using hi')).1
  · obtain ⟨i, hi, rfl⟩ := List.getElem_of_mem hx
    rw [Array.getElem_toList]
    have hi2 : i < (wrA zs off xs).size := by simpa using hi
    exact (key i (by rw [wrL_length]; rw [wrA_size] at hi2; omega) hi2).2

theorem fold_wrA (off : Nat) : ∀ (l : List Value) (k : Nat) (cells : Array Value), (l.zipIdx k).foldl (fun cs p => cs.setIfInBounds (off + p.2) p.1) cells = wrA cells (off + k) l
  | [], _, _ => rfl
  | x :: l, k, cells => by
    rw [List.zipIdx_cons, List.foldl_cons, fold_wrA off l (k + 1), wrA, Nat.add_assoc]

inductive Parts (Γ : Con) (place : Nat → Option (Nat × Nat)) : List (Nat × Nat × AV) → List (Nat × Value) → Prop
  | nil : Parts Γ place [] []
  | cons {off size i : Nat} {a : AV} {v : Value} {ps : List (Nat × Nat × AV)} {vs : List (Nat × Value)} (hp : place i = some (off, size)) (hv : RV Γ a v) (hr : Parts Γ place ps vs) : Parts Γ place ((off, size, a) :: ps) ((i, v) :: vs)
theorem fill_sound {place : Nat → Option (Nat × Nat)} {ps : List (Nat × Nat × AV)} {vs : List (Nat × Value)} (hp : Parts Γ place ps vs) : ∀ {z cs : List AV} {zc : Array Value}, fillA z ps = some cs → Cells Γ z zc.toList → ∃ cc, Instr.fill place zc vs = some cc ∧ Cells Γ cs cc.toList := by
  induction hp with
  | nil =>
    intro z cs zc hf hz
    simp only [fillA, Option.some.injEq] at hf
    subst hf
    exact ⟨zc, rfl, hz⟩
  | @cons off size i a v ps vs hpl hv _ ih =>
    intro z cs zc hf hz
    simp only [fillA] at hf
    split at hf
    · rename_i as has
      split at hf
      · rename_i hc
        have hcl := scells_sound has hv
        have hlen : v.cells.size = as.length := by have := hcl.len; simpa using this
        have hzl := hz.len
        simp only [Array.length_toList] at hzl
        have hw := hz.wr hcl (off := off) (by omega)
        obtain ⟨cc, h1, h2⟩ := ih hf hw
        refine ⟨cc, ?_, h2⟩
        simp only [Instr.fill, hpl]
        have e1 : (v.cells.size ≠ size || off + v.cells.size > zc.size) = false := by
          rw [hlen, hc.1]
          simp; omega
        rw [e1]
        simp only [Bool.false_eq_true, if_false]
        have e2 : v.cells.zipIdx.foldl (fun cs (c, j) => cs.setIfInBounds (off + j) c) zc = wrA zc off v.cells.toList := by
          rw [← Array.foldl_toList, Array.toList_zipIdx]
          exact fold_wrA off v.cells.toList 0 zc
        rw [e2]
        exact h1
      · cases hf
    · cases hf

/-- Zero cells, as told. -/
def okZero : List AV → List Value → Bool
  | [], [] => true
  | .list _ [] .full :: as, .slice none 0 0 :: xs => okZero as xs
  | .v _ :: as, x :: xs => x.oneCell' && okZero as xs
  | _, _ => false
def zeroA : List Nat → List Value → List AV
  | szs, .slice none 0 0 :: xs => .list (szs.headD 0) [] .full :: zeroA szs.tail xs
  | szs, x :: xs => .v x :: zeroA szs.tail xs
  | _, [] => []
theorem zeroA_sound : ∀ (szs : List Nat) (xs : List Value), xs.all (·.oneCell') = true → Cells Γ (zeroA szs xs) xs
  | szs, [], _ => ⟨by cases szs <;> rfl, fun i hi => by cases szs <;> simp [zeroA] at hi, fun x hx => by cases hx⟩
  | szs, x :: xs, h => by
    simp only [List.all_cons, Bool.and_eq_true] at h
    have ih := zeroA_sound szs.tail xs h.2
    have one : ∀ a : AV, RV Γ a x → Cells Γ (a :: zeroA szs.tail xs) (x :: xs) := fun a ha =>
      ⟨by simp [ih.len], fun i hi hi' => by
        cases i with
        | zero => exact ha
        | succ i => exact ih.at_ i (by simpa using hi) (by simpa using hi'), fun y hy => by
        rcases List.mem_cons.1 hy with rfl | hy
        · exact h.1
        · exact ih.one y hy⟩
    unfold zeroA
    split
    · rename_i e; injection e with e1 e2; subst e1; subst e2; exact one _ .nilf
    · rename_i e; injection e with e1 e2; subst e1; subst e2; exact one _ (.v _)
    · rename_i e; cases e

/-- Cells of a new block, all of them free. -/
theorem objAt_cells {cs : List AV} {vs : Array Value} {e : TypeId} {w' : World} {b : Nat} (hb : w'.heap[b]? = some (.cells vs e)) (hc : Cells Γ cs vs.toList) : ObjAt Γ w' b (.cells cs) := by
  have hl := hc.len
  simp only [Array.length_toList] at hl
  refine ⟨vs, e, (0, 0), hb, by omega, fun i hi hi' => ⟨?_, hc.one _ (by simp), by simp [free]⟩⟩
  have := hc.at_ i hi (by simpa using hi')
  rwa [Array.getElem_toList] at this

/-- A literal's cells. -/
theorem litCells {z : List AV} {zc : Array Value} (hz : Cells Γ z zc.toList) (n : Nat) : Cells Γ ((List.replicate n z).flatten) ((Array.range (n * zc.size)).map (zc[· % zc.size]!)).toList := by
  have hzl := hz.len
  simp only [Array.length_toList] at hzl
  have hall : ∀ r ∈ List.replicate n z, r.length = z.length := fun r hr => by rw [List.eq_of_mem_replicate hr]
  have hfl := flat_len hall
  rw [List.length_replicate] at hfl
  refine ⟨by simp [hfl, hzl], fun k hk hk' => ?_, fun x hx => ?_⟩
  · rw [hfl] at hk
    have hz0 : 0 < z.length := Nat.pos_of_ne_zero (by intro e; rw [e] at hk; simp at hk)
    have hq : k / z.length < (List.replicate n z).length := by rw [List.length_replicate, Nat.div_lt_iff_lt_mul hz0]; exact hk
    have hm : k % z.length < z.length := Nat.mod_lt _ hz0
    have hfa := flat_at hall (k / z.length) hq (k % z.length) (by rw [List.getElem_replicate]; exact hm)
    rw [show k / z.length * z.length + k % z.length = k by rw [Nat.mul_comm]; exact Nat.div_add_mod k _] at hfa
    obtain ⟨hk2, he⟩ := List.getElem?_eq_some_iff.1 hfa
    rw [he]
    simp only [Array.getElem_toList, Array.getElem_map, Array.getElem_range, List.getElem_replicate]
    have hm2 : k % zc.size < zc.size := by rw [← hzl] at hm; exact hm
    rw [getElem!_pos zc _ hm2]
    have := hz.at_ (k % z.length) hm (by simpa [hzl] using hm)
    rw [Array.getElem_toList] at this
    have e : k % zc.size = k % z.length := by rw [hzl]
    simp only [e]
    exact this
  · simp only [Array.toList_map, List.mem_map] at hx
    obtain ⟨k, hk, rfl⟩ := hx
    simp at hk
    have hz0 : 0 < zc.size := Nat.pos_of_ne_zero (by intro e; rw [e] at hk; simp at hk)
    have hm2 : k % zc.size < zc.size := Nat.mod_lt _ hz0
    rw [getElem!_pos zc _ hm2]
    exact hz.one _ (by simp)
end
end Go.Abs
