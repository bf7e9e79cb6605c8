/- A program logic over abstract states, 3: each operation of the model does what the compact one says (values alone). -/
import Derived.Test.YtnpdmkbfphcioaaGreatDoorAbsB
namespace Go.Abs
open Go Go.RowKit
set_option linter.unusedVariables false
set_option linter.unusedSimpArgs false

structure FR (Γ : Con) (fr : List AV) (a : Act) : Prop where
  size : a.tmps.size = fr.length
  at_ : ∀ (i : Nat) (h : i < fr.length) (h' : i < a.tmps.size), RV Γ fr[i] a.tmps[i]
theorem FR.mono {Γ Γ' : Con} (hl : Γ.le Γ') {fr : List AV} {a : Act} (h : FR Γ fr a) : FR Γ' fr a := ⟨h.size, fun i x y => (h.at_ i x y).mono hl⟩
def put (fr : List AV) (dst : Option Nat) (v : AV) : List AV :=
  match dst with
  | some d => fr.set d v
  | none => fr
theorem FR.put {Γ : Con} {fr : List AV} {a : Act} (h : FR Γ fr a) {v : AV} {x : Value} (hv : RV Γ v x) (dst : Option Nat) : FR Γ (put fr dst v) (a.put dst x) := by
  cases dst with
  | none => exact h
  | some d =>
    refine ⟨by simp [Act.put, Abs.put, h.size], fun i hi hi' => ?_⟩
    have hi2 : i < fr.length := by simpa [Abs.put] using hi
    have hi3 : i < a.tmps.size := by rw [h.size]; exact hi2
    have hi4 : i < (fr.set d v).length := hi
    have hi5 : i < (a.tmps.setIfInBounds d x).size := hi'
    show RV Γ ((fr.set d v)[i]'hi4) ((a.tmps.setIfInBounds d x)[i]'hi5)
    by_cases e : d = i
    · subst e
      rw [List.getElem_set_self, Array.getElem_setIfInBounds_self]
      exact hv
    · rw [List.getElem_set_ne e, Array.getElem_setIfInBounds_ne hi3 e]
      exact h.at_ i hi2 hi3

def constA (sz : Nat) : Value → Option AV
  | .slice none 0 0 => some (.list sz [] .full)
  | .agg _ | .tuple _ => none
  | x => some (.v x)
theorem RV_constA {Γ : Con} {sz : Nat} {x : Value} {a : AV} (h : constA sz x = some a) : RV Γ a x := by
  unfold constA at h
  split at h
  · injection h with h; subst h; exact .nilf
  · cases h
  · cases h
  · injection h with h; subst h; exact .v _
/-- How many cells an element of a slice type has (0: no slice type). -/
def elSz (P : Program) (t : TypeId) : Nat :=
  match P.underlying t with
  | some (.slice e) => P.cellsOf e
  | _ => 0
def copd (P : Program) (t : TypeId) : Operand → Option Opd
  | .tmp t => some (.tmp t)
  | .const v => (constA (elSz P t) v).map .cst
  | .global g => some (.cst (.v (.pointer (some ⟨g, 0, none⟩))))
  | .func f => some (.cst (.func (.func f) [] []))
theorem FR.eval {P : Program} {t : TypeId} {Γ : Con} {fr : List AV} {a : Act} (h : FR Γ fr a) {X : Operand} {x : Opd} (hx : copd P t X = some x) : RV Γ (ev fr x) (a.eval X) := by
  cases X with
  | tmp t =>
    simp only [copd, Option.some.injEq] at hx
    subst hx
    simp only [ev, Act.eval, List.getD_eq_getElem?_getD, Array.getD_eq_getD_getElem?]
    by_cases ht : t < fr.length
    · rw [List.getElem?_eq_getElem ht, Array.getElem?_eq_getElem (by rw [h.size]; exact ht)]
      exact h.at_ t ht (by rw [h.size]; exact ht)
    · rw [List.getElem?_eq_none (Nat.le_of_not_lt ht), Array.getElem?_eq_none (by rw [h.size]; exact Nat.le_of_not_lt ht)]
      exact .v _
  | const v =>
    simp only [copd, Option.map_eq_some_iff] at hx
    obtain ⟨b, hb, rfl⟩ := hx
    exact RV_constA hb
  | global g => simp only [copd, Option.some.injEq] at hx; subst hx; exact .v _
  | func f =>
    simp only [copd, Option.some.injEq] at hx
    subst hx
    exact .func rfl rfl (fun i h => by simp at h) (fun i h => by simp at h)

/-- What an operation's run comes to. -/
def Res (P : Program) (w0 : World) (Γ : Con) (r : Result Next) (v : AV) (h' : AH) : Prop :=
  ∃ Γ' x w', (r = .ok (.value x) w' ∨ r = .ok .skip w' ∧ x = undef) ∧ Γ.le Γ' ∧ RV Γ' v x ∧ WR w0 Γ' h' w'
theorem Res.same {P : Program} {w0 : World} {Γ : Con} {h : AH} {w : World} {v : AV} {x : Value} {r : Result Next} (hr : r = .ok (.value x) w) (hv : RV Γ v x) (H : WR w0 Γ h w) : Res P w0 Γ r v h :=
  ⟨Γ, x, w, .inl hr, .refl Γ, hv, H⟩

section
variable {P : Program} {w0 : World} {Γ : Con} {h : AH} {w : World}

/-! values opened -/
theorem RV.inv_v {x : Value} {y : Value} (h : RV Γ (.v x) y) : y = x := by cases h; rfl
theorem RV.inv_ptr {id off : Nat} {y : Value} (h : RV Γ (.ptr id off) y) : ∃ b, Γ.rho id = some b ∧ y = .pointer (some ⟨b, off, none⟩) := by
  cases h with | ptr h => exact ⟨_, h, rfl⟩
theorem RV.inv_mapr {id : Nat} {y : Value} (h : RV Γ (.mapr id) y) : ∃ b, Γ.rho id = some b ∧ y = .map (some b) := by
  cases h with | mapr h => exact ⟨_, h, rfl⟩
theorem RV.inv_row {id off len : Nat} {cap : Option Nat} {y : Value} (h : RV Γ (.row id off len cap) y) : ∃ b c, Γ.rho id = some b ∧ y = .slice (some ⟨b, off, none⟩) len c ∧ len ≤ c ∧ ∀ k, cap = some k → k = c := by
  cases h with | row h hl hc => exact ⟨_, _, h, rfl, hl, hc⟩
theorem RV.inv_lptr {cells : List AV} {off : Nat} {y : Value} (h : RV Γ (.lptr cells off) y) : ∃ (b o : Nat) (u : Nat → Value), y = .pointer (some ⟨b, o + off, none⟩) ∧ (∀ j, j < cells.length → Γ.F b (o + j) = some (u j)) ∧
    (∀ j, j < cells.length → (u j).oneCell' = true) ∧ ∀ (j : Nat) (hj : j < cells.length), RV Γ cells[j] (u j) := by
  cases h with | lptr hF h1 hr => exact ⟨_, _, _, rfl, hF, h1, hr⟩
theorem RV.inv_agg {cells : List AV} {y : Value} (h : RV Γ (.agg cells) y) : ∃ vs, y = .agg vs ∧ vs.size = cells.length ∧ (∀ (i : Nat) (h : i < vs.size), vs[i].oneCell' = true) ∧
    ∀ (i : Nat) (h : i < cells.length) (h' : i < vs.size), RV Γ cells[i] vs[i] := by
  cases h with | agg hs h1 hr => exact ⟨_, rfl, hs, h1, hr⟩
theorem RV.inv_tup {xs : List AV} {y : Value} (h : RV Γ (.tup xs) y) : ∃ vs, y = .tuple vs ∧ vs.size = xs.length ∧ ∀ (i : Nat) (h : i < xs.length) (h' : i < vs.size), RV Γ xs[i] vs[i] := by
  cases h with | tup hs hr => exact ⟨_, rfl, hs, hr⟩
theorem RV.inv_iface {t : TypeId} {x : AV} {y : Value} (h : RV Γ (.iface t x) y) : ∃ z, y = .iface t z ∧ RV Γ x z := by
  cases h with | iface h => exact ⟨_, rfl, h⟩
theorem RV.inv_func {fn : Fn} {first caps : List AV} {y : Value} (h : RV Γ (.func fn first caps) y) : ∃ vf vc, y = .func fn vf vc ∧ vf.size = first.length ∧ vc.size = caps.length ∧
    (∀ (i : Nat) (h : i < first.length) (h' : i < vf.size), RV Γ first[i] vf[i]) ∧ ∀ (i : Nat) (h : i < caps.length) (h' : i < vc.size), RV Γ caps[i] vc[i] := by
  cases h with | func h1 h2 hf hc => exact ⟨_, _, rfl, h1, h2, hf, hc⟩

/-- The cells that a value fills. -/
structure Cells (Γ : Con) (cs : List AV) (vs : List Value) : Prop where
  len : vs.length = cs.length
  at_ : ∀ (i : Nat) (h : i < cs.length) (h' : i < vs.length), RV Γ cs[i] vs[i]
  one : ∀ x ∈ vs, x.oneCell' = true
theorem Cells.mono {Γ Γ' : Con} (hl : Γ.le Γ') {cs : List AV} {vs : List Value} (h : Cells Γ cs vs) : Cells Γ' cs vs := ⟨h.len, fun i a b => (h.at_ i a b).mono hl, h.one⟩
theorem scells_sound {a : AV} {x : Value} {cs : List AV} (hs : scells a = some cs) (h : RV Γ a x) : Cells Γ cs x.cells.toList := by
  have single : a.one = true → cs = [a] → x.cells = #[x] → Cells Γ cs x.cells.toList := by
    intro ho hc hx
    subst hc
    rw [hx]
    refine ⟨rfl, fun i hi hi' => ?_, fun y hy => ?_⟩
    · have : i = 0 := by simpa using hi
      subst this; exact h
    · obtain rfl : y = x := by simpa using hy
      exact h.one ho
  cases h with
  | agg hsz h1 hr =>
    simp only [scells, Option.some.injEq] at hs
    subst hs
    rename_i vs
    show Cells Γ _ vs.toList
    refine ⟨by simpa using hsz, fun i hi hi' => ?_, fun y hy => ?_⟩
    · rw [Array.getElem_toList]; exact hr i hi (by simpa using hi')
    · obtain ⟨i, hi, rfl⟩ := List.getElem_of_mem hy
      rw [Array.getElem_toList]; exact h1 i (by simpa using hi)
  | v x =>
    simp only [scells] at hs
    split at hs
    · rename_i ho
      injection hs with hs
      refine single ho hs.symm ?_
      cases x <;> first | rfl | (simp [AV.one, Value.oneCell'] at ho)
    · cases hs
  | nilf => simp only [scells, AV.one, if_true, Option.some.injEq] at hs; exact single rfl hs.symm rfl
  | niln => simp only [scells, AV.one, if_true, Option.some.injEq] at hs; exact single rfl hs.symm rfl
  | list => simp only [scells, AV.one, if_true, Option.some.injEq] at hs; exact single rfl hs.symm rfl
  | row => simp only [scells, AV.one, if_true, Option.some.injEq] at hs; exact single rfl hs.symm rfl
  | ptr => simp only [scells, AV.one, if_true, Option.some.injEq] at hs; exact single rfl hs.symm rfl
  | lptr => simp only [scells, AV.one, if_true, Option.some.injEq] at hs; exact single rfl hs.symm rfl
  | mapr => simp only [scells, AV.one, if_true, Option.some.injEq] at hs; exact single rfl hs.symm rfl
  | func => simp only [scells, AV.one, if_true, Option.some.injEq] at hs; exact single rfl hs.symm rfl
  | iface => simp only [scells, AV.one, if_true, Option.some.injEq] at hs; exact single rfl hs.symm rfl
  | tup => simp [scells, AV.one] at hs

/-! what is read out of cells -/
def aggSz (P : Program) (t : TypeId) : Option (Option Nat) :=
  match P.underlying t, P.info? t with
  | some (.struct _), some i => some (some i.size)
  | some (.array _ _), some i => some (some i.size)
  | some _, some _ => some none
  | _, _ => none
theorem run_isAgg {t : TypeId} {s : Option Nat} (ht : aggSz P t = some s) (w : World) : (isAgg t).run P w = .ok s.isSome w := by
  unfold aggSz at ht
  unfold isAgg
  split at ht <;> try cases ht
  · rename_i h1 h2; rw [Sem.run_bind, run_underlying h1]; rfl
  · rename_i h1 h2; rw [Sem.run_bind, run_underlying h1]; rfl
  · rename_i d i h1 h2 h3 h4
    rw [Sem.run_bind, run_underlying h3]
    simp only [Result.andThen_ok]
    first | rfl | (split <;> first | rfl | exact absurd h3 (by first | exact h1 _ | exact h2 _ _))
theorem run_sizeOf' {t : TypeId} {i : TypeInfo} (h : P.info? t = some i) (w : World) : (sizeOf t).run P w = .ok i.size w := by
  simp [sizeOf, typeInfo, h]
theorem aggSz_info {t : TypeId} {s : Option Nat} (ht : aggSz P t = some s) : ∃ i, P.info? t = some i ∧ ∀ n, s = some n → i.size = n := by
  unfold aggSz at ht
  split at ht <;> try cases ht
  · rename_i h2; exact ⟨_, h2, fun n hn => by injection hn⟩
  · rename_i h2; exact ⟨_, h2, fun n hn => by injection hn⟩
  · rename_i h4; exact ⟨_, h4, fun n hn => by cases hn⟩

theorem addr_add (b o n : Nat) : Addr.add ⟨b, o, none⟩ n = ⟨b, o + n, none⟩ := Addr.add_lit b o n
/-- Cells of a block that a pointer reads. -/
def Here (Γ : Con) (w : World) (b o : Nat) (cs : List AV) : Prop :=
  ∃ u : Nat → Value, (∀ j, j < cs.length → w.cell? ⟨b, o + j, none⟩ = some (u j)) ∧ (∀ j, j < cs.length → (u j).oneCell' = true) ∧ ∀ (j : Nat) (hj : j < cs.length), RV Γ cs[j] (u j)
theorem run_rd {t : TypeId} {s : Option Nat} (ht : aggSz P t = some s) {b o off : Nat} {cs : List AV} {a : AV} (hc : Here Γ w b o cs) (ha : rd cs off s = some a) :
    ∃ x, (loadVar t ⟨b, o + off, none⟩).run P w = .ok x w ∧ RV Γ a x := by
  obtain ⟨u, hu, h1, hr⟩ := hc
  obtain ⟨i, hi, hsz⟩ := aggSz_info ht
  unfold loadVar
  rw [Sem.run_bind, run_isAgg ht]
  simp only [Result.andThen_ok]
  cases s with
  | none =>
    simp only [rd] at ha
    obtain ⟨hlt, rfl⟩ := List.getElem?_eq_some_iff.1 ha
    refine ⟨u off, ?_, hr off hlt⟩
    simp [hu off hlt]
  | some n =>
    simp only [rd] at ha
    split at ha
    · rename_i hle
      injection ha with ha
      subst ha
      have hcells : ∀ j, j < n → w.cell? ((⟨b, o + off, none⟩ : Addr).add j) = some (u (off + j)) := by
        intro j hj
        rw [addr_add, Nat.add_assoc]
        exact hu (off + j) (by omega)
      refine ⟨.agg ((List.range n).map fun j => u (off + j)).toArray, ?_, ?_⟩
      · have hl := run_loadCells (P := P) (w := w) ⟨b, o + off, none⟩ n (fun j => u (off + j)) hcells
        simp only [Option.isSome_some, if_true, Sem.run_bind, run_sizeOf' hi, Result.andThen_ok, hsz n rfl, hl, Sem.run_pure]
      · refine .agg (by simp; omega) (fun j hj => ?_) (fun j hj hj' => ?_)
        · simp only [List.size_toArray, List.length_map, List.length_range] at hj
          simpa using h1 (off + j) (by omega)
        · simp only [List.length_take, List.length_drop] at hj
          simpa using hr (off + j) (by omega)
    · cases ha

theorem WR.here {id : Nat} {cs : List AV} (H : WR w0 Γ h w) (ho : h.objs id = some (.cells cs)) {b : Nat} (hb : Γ.rho id = some b) : Here Γ w b 0 cs := by
  obtain ⟨b', hb', _, ⟨vs, e, fr, hh, hl, hc⟩, _⟩ := H.obj ho
  obtain rfl : b = b' := by rw [hb] at hb'; injection hb'
  refine ⟨fun j => vs.getD j undef, fun j hj => ?_, fun j hj => ?_, fun j hj => ?_⟩
  · have : j < vs.size := by omega
    simp [World.cell?, hh, this]
  · have : j < vs.size := by omega
    simpa [this] using (hc j hj this).2.1
  · have : j < vs.size := by omega
    simpa [this] using (hc j hj this).1

theorem run_part {t : TypeId} {s : Option Nat} (ht : aggSz P t = some s) {off : Nat} {cs : List AV} {vs : Array Value} {a : AV} (hs : vs.size = cs.length) (h1 : ∀ (i : Nat) (h : i < vs.size), vs[i].oneCell' = true)
    (hr : ∀ (i : Nat) (h : i < cs.length) (h' : i < vs.size), RV Γ cs[i] vs[i]) (ha : rd cs off s = some a) : ∃ x, (part t vs off).run P w = .ok x w ∧ RV Γ a x := by
  obtain ⟨i, hi, hsz⟩ := aggSz_info ht
  unfold part
  rw [Sem.run_bind, run_isAgg ht]
  simp only [Result.andThen_ok]
  cases s with
  | none =>
    simp only [rd] at ha
    obtain ⟨hlt, rfl⟩ := List.getElem?_eq_some_iff.1 ha
    exact ⟨vs[off], by simp [show off < vs.size by omega], hr off hlt (by omega)⟩
  | some n =>
    simp only [rd] at ha
    split at ha
    · rename_i hle
      injection ha with ha
      subst ha
      refine ⟨.agg (vs.extract off (off + n)), by simp [run_sizeOf' hi, hsz n rfl], .agg (by simp; omega) (fun j hj => ?_) (fun j hj hj' => ?_)⟩
      · simp only [Array.size_extract] at hj
        simpa using h1 (off + j) (by omega)
      · simp only [List.length_take, List.length_drop] at hj
        simpa using hr (off + j) (by omega) (by omega)
    · cases ha
end
end Go.Abs
