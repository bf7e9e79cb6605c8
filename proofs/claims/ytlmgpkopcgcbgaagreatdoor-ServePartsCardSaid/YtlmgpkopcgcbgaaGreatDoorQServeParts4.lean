/- What the proof needs, part 4: A program logic over abstract states, 5: new objects, stores, rows that never turn, appends: what they do to the relation of heap and world. -/
import Derived.Test.YtlmgpkopcgcbgaaGreatDoorQServeParts3
import Derived.Laws.Rows
/- A program logic over abstract states, 5: new objects, stores, rows that never turn, appends: what they do to the relation of heap and world. -/
namespace Go.Abs
open Go Go.RowKit
set_option linter.unusedVariables false
set_option linter.unusedSimpArgs false

def Con.withObj (Γ : Con) (i b : Nat) : Con := { Γ with rho := fun j => if j = i then some b else Γ.rho j }
def Con.withRow (Γ : Con) (b : Nat) (f : Nat → Option Value) : Con := { Γ with F := fun k o => if k = b then f o else Γ.F k o }
def Con.withTok (Γ : Con) (t v : Nat) (T : TokAt) : Con := { Γ with tau := fun t' v' => if t' = t ∧ v' = v then some T else Γ.tau t' v' }

/-- One block has turned, no other. -/
structure Chg (w w' : World) (b : Nat) : Prop where
  os : w'.os = w.os
  tape : w'.tape = w.tape
  output : w'.output = w.output
  size : w'.heap.size = w.heap.size
  other : ∀ k, k ≠ b → w'.heap[k]? = w.heap[k]?
theorem Chg.refl (w : World) (b : Nat) : Chg w w b := ⟨rfl, rfl, rfl, rfl, fun _ _ => rfl⟩
theorem Chg.trans {a b' c : World} {b : Nat} (h : Chg a b' b) (k : Chg b' c b) : Chg a c b :=
  ⟨k.os.trans h.os, k.tape.trans h.tape, k.output.trans h.output, k.size.trans h.size, fun i hi => (k.other i hi).trans (h.other i hi)⟩
theorem Chg.below {B : Nat} {w0 w w' : World} {b : Nat} (h : Chg w w' b) (hb : B ≤ b) (H : Below B w0 w) : Below B w0 w' :=
  ⟨h.os.trans H.os, h.tape.trans H.tape, h.output.trans H.output, by rw [h.size]; exact H.size, fun k hk => (h.other k (by omega)).trans (H.block k hk)⟩
theorem Chg.cell {w w' : World} {b : Nat} (h : Chg w w' b) {a : Addr} (ha : a.block ≠ b) : w'.cell? a = w.cell? a := World.cell?_of_block (h.other _ ha)

section
variable {w0 : World} {Γ : Con} {h : AH} {w : World}

theorem WR.le_obj (H : WR w0 Γ h w) (b : Nat) : Γ.le (Γ.withObj h.n b) := by
  refine ⟨fun x => x, fun {i b'} hi => ?_, fun x => x⟩
  have := (H.rlt hi).1
  simp only [Con.withObj]
  rw [if_neg (by omega)]
  exact hi
/-- A new object. -/
theorem WR.new (H : WR w0 Γ h w) (O : Obj) (o : AObj) (ho : ∀ w' : World, w'.heap[w.heap.size]? = some O → ObjAt (Γ.withObj h.n w.heap.size) w' w.heap.size o) :
    WR w0 (Γ.withObj h.n w.heap.size) (h.alloc o) (w.alloc O) := by
  have hle := H.le_obj w.heap.size
  have HA := H.alloc O
  have lt : ∀ {i b}, Γ.rho i = some b → b ≠ w.heap.size ∧ i ≠ h.n := fun hi => by have := H.rlt hi; omega
  have hcase : ∀ {i b}, (Γ.withObj h.n w.heap.size).rho i = some b → (i = h.n ∧ b = w.heap.size) ∨ Γ.rho i = some b := by
    intro i b hi
    simp only [Con.withObj] at hi
    split at hi
    · injection hi with hi; exact .inl ⟨by assumption, hi.symm⟩
    · exact .inr hi
  have hobj : ∀ {i}, ((h.alloc o).objs i).isSome → i = h.n ∨ (h.objs i).isSome := by
    intro i hi
    simp only [AH.alloc] at hi
    split at hi
    · exact .inl (by assumption)
    · exact .inr hi
  refine ⟨HA.below, HA.fcell, ?_, ?_, ?_, ?_, H.tinj, H.tnew⟩
  · intro i o' hi
    simp only [AH.alloc] at hi
    split at hi
    · injection hi with hi
      subst hi
      rename_i hin
      exact ⟨w.heap.size, by simp [Con.withObj, hin], H.below.size, ho _ (heap_alloc_new w O), fun off => H.fnone (Nat.le_refl _) off⟩
    · obtain ⟨b, h1, h2, h3, h4⟩ := HA.obj hi
      exact ⟨b, hle.rho h1, h2, h3.mono hle, h4⟩
  · intro i j b hi hj hbi hbj
    rcases hcase hbi with ⟨rfl, rfl⟩ | hbi' <;> rcases hcase hbj with ⟨rfl, hb⟩ | hbj'
    · rfl
    · exact absurd rfl (lt hbj').1
    · exact absurd hb (lt hbi').1
    · rcases hobj hi with rfl | hi'
      · exact absurd rfl (lt hbi').2
      · rcases hobj hj with rfl | hj'
        · exact absurd rfl (lt hbj').2
        · exact H.inj hi' hj' hbi' hbj'
  · intro i b hi
    rcases hcase hi with ⟨rfl, rfl⟩ | hi'
    · simp [AH.alloc]
    · have := H.rlt hi'
      simp only [AH.alloc, World.size_alloc]; omega
  · intro t T ht
    obtain ⟨h1, ⟨h2, vs, e, fr, h3, h4, h5⟩, h6⟩ := HA.tok ht
    obtain ⟨_, ⟨_, vs', e', fr', h3', _⟩, _⟩ := H.tok ht
    refine ⟨h1, ⟨h2, vs, e, fr, h3, h4, h5⟩, fun i hi hb => ?_⟩
    have hlt : T.blk < w.heap.size := (Array.getElem?_eq_some_iff.1 h3').1
    rcases hcase hb with ⟨_, hb'⟩ | hb'
    · omega
    · rcases hobj hi with rfl | hi'
      · exact (lt hb').2 rfl
      · exact h6 i hi' hb'

/-- A row is laid that never turns. -/
theorem WR.row (H : WR w0 Γ h w) (vs : Array Value) (e : TypeId) (fr : Nat × Nat) (k : Nat) : WR w0 (Γ.withRow w.heap.size fun o => if o < k then vs[o]? else none) h (w.alloc (.cells vs e fr)) ∧
    Γ.le (Γ.withRow w.heap.size fun o => if o < k then vs[o]? else none) := by
  have HA := H.alloc (.cells vs e fr)
  have hle : Γ.le (Γ.withRow w.heap.size fun o => if o < k then vs[o]? else none) := by
    refine ⟨fun {b o x} hx => ?_, fun x => x, fun x => x⟩
    simp only [Con.withRow]
    rw [if_neg (by have := H.flt hx; omega)]
    exact hx
  refine ⟨⟨HA.below, ?_, ?_, H.inj, HA.rlt, ?_, H.tinj, H.tnew⟩, hle⟩
  · intro b o x hx
    simp only [Con.withRow] at hx
    split at hx
    · rename_i hb
      subst hb
      split at hx
      · simp only [World.cell?, heap_alloc_new]
        exact hx
      · cases hx
    · exact HA.fcell hx
  · intro i o ho
    obtain ⟨b, h1, h2, h3, h4⟩ := HA.obj ho
    refine ⟨b, h1, h2, h3.mono hle, fun off => ?_⟩
    simp only [Con.withRow]
    rw [if_neg (by have := H.rlt h1; omega)]
    exact h4 off
  · intro t T ht
    obtain ⟨h1, ⟨h2, vs', e', fr', h3, h4, h5⟩, h6⟩ := HA.tok ht
    obtain ⟨_, ⟨_, vs2, e2, fr2, h32, _⟩, _⟩ := H.tok ht
    have hlt : T.blk < w.heap.size := (Array.getElem?_eq_some_iff.1 h32).1
    refine ⟨h1, ⟨h2, vs', e', fr', h3, h4, fun off a b => ?_⟩, h6⟩
    simp only [Con.withRow]
    rw [if_neg (by omega)]
    exact h5 off a b

/-- An object's block turns. -/
theorem WR.turn (H : WR w0 Γ h w) {id b : Nat} {o o' : AObj} (ho : h.objs id = some o) (hb : Γ.rho id = some b) {w' : World} (hc : Chg w w' b) (ho' : ObjAt Γ w' b o') (hk : ∀ vs t fr, w.heap[b]? = some (.cells vs t fr) → ∃ vs' fr', w'.heap[b]? = some (.cells vs' t fr') ∧ vs'.size = vs.size) : WR w0 Γ (h.set id o') w' := by
  obtain ⟨b', hb', hge, hat, hF⟩ := H.obj ho
  obtain rfl : b = b' := by rw [hb] at hb'; injection hb'
  have hobj : ∀ {i}, ((h.set id o').objs i).isSome → (h.objs i).isSome := by
    intro i hi
    simp only [AH.set] at hi
    split at hi
    · rename_i e; rw [e, ho]; rfl
    · exact hi
  refine ⟨hc.below hge H.below, ?_, ?_, fun hi hj => H.inj (hobj hi) (hobj hj), ?_, ?_, H.tinj, H.tnew⟩
  · intro k off x hx
    have : k ≠ b := by rintro rfl; rw [hF off] at hx; cases hx
    exact (hc.cell (a := ⟨k, off, none⟩) this).trans (H.fcell hx)
  · intro i oi hi
    simp only [AH.set] at hi
    split at hi
    · rename_i e
      injection hi with hi
      subst hi; subst e
      exact ⟨b, hb, hge, ho', hF⟩
    · rename_i hne
      obtain ⟨bi, h1, h2, h3, h4⟩ := H.obj hi
      refine ⟨bi, h1, h2, h3.at_ (hc.other bi ?_), h4⟩
      rintro rfl
      exact hne (H.inj (by rw [hi]; rfl) (by rw [ho]; rfl) h1 hb)
  · intro i bi hi
    have := H.rlt hi
    rw [hc.size]; exact this
  · intro t T ht
    obtain ⟨h1, ⟨h2, vs, e, fr, h3, h4, h5⟩, h6⟩ := H.tok ht
    refine ⟨h1, ⟨h2, vs, e, fr, (hc.other T.blk ?_).trans h3, h4, h5⟩, fun i hi => h6 i (hobj hi)⟩
    rintro rfl
    exact h6 id (by rw [ho]; rfl) hb

/-- The world draws, and no more. -/
theorem size_pos_of {b : Nat} {o : Obj} (hb : w.heap[b]? = some o) : b < w.heap.size := (Array.getElem?_eq_some_iff.1 hb).1

/-! stores into a block -/
def putBlk (w : World) (b : Nat) (o : Obj) : World := { w with heap := w.heap.setIfInBounds b o }
theorem putBlk_chg (w : World) (b : Nat) (o : Obj) : Chg w (putBlk w b o) b :=
  ⟨rfl, rfl, rfl, by simp [putBlk], fun k hk => by simp only [putBlk]; rw [Array.getElem?_setIfInBounds_ne (fun e => hk e.symm)]⟩
theorem putBlk_at {w : World} {b : Nat} {x : Obj} (hb : w.heap[b]? = some x) (o : Obj) : (putBlk w b o).heap[b]? = some o := by
  have := size_pos_of hb
  simp [putBlk, this]
theorem setCell_putBlk {b off : Nat} {vs : Array Value} {e : TypeId} {fr : Nat × Nat} (hb : w.heap[b]? = some (.cells vs e fr)) (x : Value) :
    w.setCell ⟨b, off, none⟩ x = putBlk w b (.cells (vs.setIfInBounds off x) e fr) := by
  unfold World.setCell putBlk
  congr 1
  apply Array.ext_getElem?
  intro i
  rw [Array.getElem?_modify]
  by_cases hi : b = i
  · subst hi
    rw [hb]
    have := size_pos_of hb
    simp [this]
  · rw [if_neg hi, Array.getElem?_setIfInBounds_ne hi]
def wrA : Array Value → Nat → List Value → Array Value
  | vs, _, [] => vs
  | vs, off, x :: xs => wrA (vs.setIfInBounds off x) (off + 1) xs
theorem wrA_size : ∀ (xs : List Value) (vs : Array Value) (off : Nat), (wrA vs off xs).size = vs.size
  | [], _, _ => rfl
  | x :: xs, vs, off => by rw [wrA, wrA_size xs]; simp
theorem wrL_length : ∀ (xs : List AV) (vs : List AV) (off : Nat), (wrL vs off xs).length = vs.length
  | [], _, _ => rfl
  | x :: xs, vs, off => by rw [wrL, wrL_length xs]; simp
theorem wrA_at : ∀ (xs : List Value) (vs : Array Value) (off i : Nat), (wrA vs off xs)[i]? = if off ≤ i ∧ i < off + xs.length ∧ i < vs.size then xs[i - off]? else vs[i]?
  | [], vs, off, i => by simp only [wrA, List.length_nil]; rw [if_neg (by omega)]
  | x :: xs, vs, off, i => by
    rw [wrA, wrA_at xs]
    simp only [Array.size_setIfInBounds, List.length_cons]
    by_cases h1 : off + 1 ≤ i ∧ i < off + 1 + xs.length ∧ i < vs.size
    · rw [if_pos h1, if_pos (by omega)]
      obtain ⟨m, rfl⟩ : ∃ m, i = off + 1 + m := ⟨i - (off + 1), by omega⟩
      rw [show off + 1 + m - (off + 1) = m by omega, show off + 1 + m - off = m + 1 by omega]; rfl
    · rw [if_neg h1]
      by_cases h2 : i = off
      · subst h2
        by_cases h3 : i < vs.size
        · rw [if_pos (by omega)]; simp [h3]
        · rw [if_neg (by omega)]; simp [h3]
      · rw [if_neg (by omega), Array.getElem?_setIfInBounds_ne (fun e => h2 e.symm)]
theorem run_storeCells (P : Program) {b off : Nat} {e : TypeId} {fr : Nat × Nat} : ∀ (xs : List Value) (i : Nat) (vs : Array Value) (w : World), w.heap[b]? = some (.cells vs e fr) → (∀ x ∈ xs, x.oneCell' = true) →
    off + i + xs.length ≤ vs.size → (∀ k, off + i ≤ k → k < off + i + xs.length → free fr k) →
    (storeCells ⟨b, off, none⟩ xs i).run P w = .ok () (putBlk w b (.cells (wrA vs (off + i) xs) e fr))
  | [], i, vs, w, hb, _, _, _ => by
    simp only [storeCells, Sem.run_pure, wrA]
    congr 1
    unfold putBlk
    have := size_pos_of hb
    have e2 : w.heap.setIfInBounds b (.cells vs e fr) = w.heap := by
      apply Array.ext_getElem?
      intro k
      by_cases hk : b = k
      · subst hk; rw [hb]; simp [this]
      · rw [Array.getElem?_setIfInBounds_ne hk]
    rw [e2]
  | x :: xs, i, vs, w, hb, h1, hsz, hfr => by
    simp only [storeCells, Sem.run_bind, addr_add]
    simp only [List.length_cons] at hsz hfr
    have hcell : w.cell? ⟨b, off + i, none⟩ = some (vs[off + i]'(by omega)) := by simp [World.cell?, hb, show off + i < vs.size by omega]
    have hfree : w.frozen? ⟨b, off + i, none⟩ = false := by
      have := hfr (off + i) (by omega) (by omega)
      unfold free at this
      simp only [World.frozen?, hb, Bool.and_eq_false_iff, decide_eq_false_iff_not]
      omega
    rw [run_store P w _ x .plain (h1 x (by simp)), hcell]
    simp only [hfree, Bool.false_eq_true, if_false, Result.andThen_ok, setCell_putBlk hb]
    have hb' := putBlk_at hb (.cells (vs.setIfInBounds (off + i) x) e fr)
    rw [run_storeCells P xs (i + 1) _ _ hb' (fun y hy => h1 y (by simp [hy])) (by simp; omega) (fun k a c => hfr k (by omega) (by omega))]
    congr 1
    unfold putBlk
    simp only [World.mk.injEq, true_and, and_true]
    rw [show off + (i + 1) = off + i + 1 by omega]
    apply Array.ext_getElem?
    intro k
    by_cases hk : b = k
    · subst hk
      have := size_pos_of hb
      simp [this, wrA]
    · rw [Array.getElem?_setIfInBounds_ne hk, Array.getElem?_setIfInBounds_ne hk, Array.getElem?_setIfInBounds_ne hk]
theorem wrL_at : ∀ (xs : List AV) (vs : List AV) (off i : Nat), (wrL vs off xs)[i]? = if off ≤ i ∧ i < off + xs.length ∧ i < vs.length then xs[i - off]? else vs[i]?
  | [], vs, off, i => by simp only [wrL, List.length_nil]; rw [if_neg (by omega)]
  | x :: xs, vs, off, i => by
    rw [wrL, wrL_at xs]
    simp only [List.length_set, List.length_cons]
    by_cases h1 : off + 1 ≤ i ∧ i < off + 1 + xs.length ∧ i < vs.length
    · rw [if_pos h1, if_pos (by omega)]
      obtain ⟨m, rfl⟩ : ∃ m, i = off + 1 + m := ⟨i - (off + 1), by omega⟩
      rw [show off + 1 + m - (off + 1) = m by omega, show off + 1 + m - off = m + 1 by omega]; rfl
    · rw [if_neg h1]
      by_cases h2 : i = off
      · subst h2
        by_cases h3 : i < vs.length
        · rw [if_pos (by omega)]; simp [h3]
        · rw [if_neg (by omega)]; simp [h3]
      · rw [if_neg (by omega), List.getElem?_set_ne (fun e => h2 e.symm)]
/-- Cells stored into an object. -/
theorem WR.store (P : Program) (H : WR w0 Γ h w) {id b off : Nat} {cs as : List AV} {xs : List Value} (ho : h.objs id = some (.cells cs)) (hb : Γ.rho id = some b) (hx : Cells Γ as xs) (hle : off + as.length ≤ cs.length) :
    ∃ w', (storeCells ⟨b, off, none⟩ xs).run P w = .ok () w' ∧ WR w0 Γ (h.set id (.cells (wrL cs off as))) w' := by
  obtain ⟨b', hb', _, ⟨vs, e, fr, hh, hl, hc⟩, _⟩ := H.obj ho
  obtain rfl : b = b' := by rw [hb] at hb'; injection hb'
  have hlen := hx.len
  have hr := run_storeCells P (off := off) xs 0 vs w hh hx.one (by omega) (fun k a c => (hc k (by omega) (by omega)).2.2)
  simp only [Nat.add_zero] at hr
  refine ⟨_, hr, H.turn ho hb (putBlk_chg w b _) ⟨_, e, fr, putBlk_at hh _, by rw [wrA_size, wrL_length]; exact hl, fun i hi hi' => ?_⟩ (fun vs' t' fr' h' => by
    rw [hh] at h'
    cases h'
    exact ⟨_, _, putBlk_at hh _, wrA_size _ _ _⟩)⟩
  have hi1 : i < cs.length := by rwa [wrL_length] at hi
  have hi2 : i < vs.size := by rwa [wrA_size] at hi'
  have eL := wrL_at as cs off i
  have eA := wrA_at xs vs off i
  rw [List.getElem?_eq_getElem hi] at eL
  rw [Array.getElem?_eq_getElem hi'] at eA
  refine ⟨?_, ?_, (hc i hi1 hi2).2.2⟩
  · by_cases hin : off ≤ i ∧ i < off + as.length
    · rw [if_pos (by omega), List.getElem?_eq_getElem (by omega)] at eL
      rw [if_pos (by omega), List.getElem?_eq_getElem (by omega)] at eA
      injection eL with eL
      injection eA with eA
      rw [eL, eA]
      exact hx.at_ (i - off) (by omega) (by omega)
    · rw [if_neg (by omega), List.getElem?_eq_getElem hi1] at eL
      rw [if_neg (by omega), Array.getElem?_eq_getElem hi2] at eA
      injection eL with eL
      injection eA with eA
      rw [eL, eA]
      exact (hc i hi1 hi2).1
  · by_cases hin : off ≤ i ∧ i < off + as.length
    · rw [if_pos (by omega), List.getElem?_eq_getElem (by omega)] at eA
      injection eA with eA
      rw [eA]
      exact hx.one _ (List.getElem_mem _)
    · rw [if_neg (by omega), Array.getElem?_eq_getElem hi2] at eA
      injection eA with eA
      rw [eA]
      exact (hc i hi1 hi2).2.1
end
end Go.Abs
