/- A program logic over abstract states, 27: what a call has laid and nobody can reach is forgotten. -/
import Derived.Test.YtnpdmkbfphcioaaGreatDoorAbsZ
namespace Go.Abs
open Go Go.RowKit
set_option linter.unusedVariables false
set_option linter.unusedSimpArgs false
def Tok.plain : Tok → Prop
  | .own _ _ => False
  | _ => True
/-- Values that name no object and no token. -/
inductive Plain : AV → Prop
  | v (x : Value) : Plain (.v x)
  | list {sz : Nat} {rows : List (List AV)} {tok : Tok} (ht : tok.plain) (h : ∀ (i : Nat) (hi : i < rows.length) (j : Nat) (hj : j < rows[i].length), Plain rows[i][j]) : Plain (.list sz rows tok)
  | lptr {cells : List AV} {off : Nat} (h : ∀ (j : Nat) (hj : j < cells.length), Plain cells[j]) : Plain (.lptr cells off)
  | func {fn : Fn} {first caps : List AV} (h : ∀ (j : Nat) (hj : j < first.length), Plain first[j]) (h' : ∀ (j : Nat) (hj : j < caps.length), Plain caps[j]) : Plain (.func fn first caps)
  | iface {t : TypeId} {x : AV} (h : Plain x) : Plain (.iface t x)
  | agg {cells : List AV} (h : ∀ (j : Nat) (hj : j < cells.length), Plain cells[j]) : Plain (.agg cells)
  | tup {xs : List AV} (h : ∀ (j : Nat) (hj : j < xs.length), Plain xs[j]) : Plain (.tup xs)
theorem Plain.allv {xs : List AV} (h : ∀ x ∈ xs, Plain x) (j : Nat) (hj : j < xs.length) : Plain xs[j] := h _ (List.getElem_mem hj)
theorem Plain.tupv {xs : List AV} (h : ∀ x ∈ xs, Plain x) : Plain (.tup xs) := .tup (Plain.allv h)
theorem Plain.aggv {xs : List AV} (h : ∀ x ∈ xs, Plain x) : Plain (.agg xs) := .agg (Plain.allv h)
theorem Plain.listv {sz : Nat} {rows : List (List AV)} {tok : Tok} (ht : tok.plain) (h : ∀ r ∈ rows, ∀ x ∈ r, Plain x) : Plain (.list sz rows tok) := .list ht fun i hi j hj => h _ (List.getElem_mem hi) _ (List.getElem_mem hj)
def Con.cut (Γ : Con) (n nt : Nat) : Con := { F := Γ.F, rho := fun i => if i < n then Γ.rho i else none, tau := fun t v => if t < nt then Γ.tau t v else none }
theorem Plain.cut {Γ : Con} {a : AV} (hp : Plain a) (n nt : Nat) : ∀ {x : Value}, RV Γ a x → RV (Γ.cut n nt) a x := by
  induction hp with
  | v y => intro x hx; cases hx; exact .v _
  | list ht h ih =>
    intro x hx
    cases hx with
    | nilf => exact .nilf
    | niln => exact .niln
    | list hc hsz hF h1 hr hto =>
      refine .list hc hsz hF h1 (fun i hi j hj => ih i hi j hj (hr i hi j hj)) ?_
      rename_i tok _ _ _ _
      cases tok with
      | no => trivial
      | full => exact hto
      | own t v => exact ht.elim
  | lptr h ih =>
    intro x hx
    cases hx with
    | lptr hF h1 hr => exact .lptr hF h1 fun j hj => ih j hj (hr j hj)
  | func h h' ih ih' =>
    intro x hx
    cases hx with
    | func h1 h2 hf hc => exact .func h1 h2 (fun i a b => ih i a (hf i a b)) (fun i a b => ih' i a (hc i a b))
  | iface h ih =>
    intro x hx
    cases hx with
    | iface h => exact .iface (ih h)
  | agg h ih =>
    intro x hx
    cases hx with
    | agg hs h1 hr => exact .agg hs h1 fun i a b => ih i a (hr i a b)
  | tup h ih =>
    intro x hx
    cases hx with
    | tup hs hr => exact .tup hs fun i a b => ih i a (hr i a b)
/-- What was there names only what was there. -/
theorem RV.cut {Γ Γ' : Con} {n nt : Nat} (hn : ∀ {i b}, Γ.rho i = some b → i < n) (ht : ∀ {t v T}, Γ.tau t v = some T → t < nt) {a : AV} {x : Value} (h : RV Γ a x) : ∀ {y : Value}, RV Γ' a y → RV (Γ'.cut n nt) a y := by
  have tok : ∀ {tok : Tok} {b o m c sz b' o' m' c' sz' : Nat}, TokOk Γ tok b o m c sz → TokOk Γ' tok b' o' m' c' sz' → TokOk (Γ'.cut n nt) tok b' o' m' c' sz' := by
    intro tok b o m c sz b' o' m' c' sz' h1 h2
    cases tok with
    | no => trivial
    | full => exact h2
    | own t v =>
      obtain ⟨T, hT, _⟩ := h1
      obtain ⟨T', hT', h3⟩ := h2
      exact ⟨T', by simp only [Con.cut]; rw [if_pos (ht hT)]; exact hT', h3⟩
  have rho : ∀ {i b b'}, Γ.rho i = some b → Γ'.rho i = some b' → (Γ'.cut n nt).rho i = some b' := fun h1 h2 => by
    simp only [Con.cut]; rw [if_pos (hn h1)]; exact h2
  induction h with
  | v x => intro y hy; cases hy; exact .v _
  | nilf =>
    intro y hy
    cases hy with
    | nilf => exact .nilf
    | list hc hsz hF h1 hr hto => exact .list hc hsz hF h1 (fun i hi => by simp at hi) hto
  | niln =>
    intro y hy
    cases hy with
    | niln => exact .niln
    | list hc hsz hF h1 hr hto => exact .list hc hsz hF h1 (fun i hi => by simp at hi) trivial
  | list hc hsz hF h1 hr hto ih =>
    intro y hy
    cases hy with
    | nilf => exact .nilf
    | niln => exact .niln
    | list hc' hsz' hF' h1' hr' hto' => exact .list hc' hsz' hF' h1' (fun i hi j hj => ih i hi j hj (hr' i hi j hj)) (tok hto hto')
  | row h hlc hc =>
    intro y hy
    cases hy with
    | row h' hlc' hc' => exact .row (rho h h') hlc' hc'
  | ptr h =>
    intro y hy
    cases hy with
    | ptr h' => exact .ptr (rho h h')
  | lptr hF h1 hr ih =>
    intro y hy
    generalize hz : AV.lptr _ _ = z at hy
    cases hy <;> cases hz
    rename_i hF' h1' hr'
    exact .lptr hF' h1' fun j hj => ih j hj (hr' j hj)
  | mapr h =>
    intro y hy
    cases hy with
    | mapr h' => exact .mapr (rho h h')
  | func h1 h2 hf hc ih1 ih2 =>
    intro y hy
    cases hy with
    | func h1' h2' hf' hc' => exact .func h1' h2' (fun i a b => ih1 i a (by omega) (hf' i a b)) (fun i a b => ih2 i a (by omega) (hc' i a b))
  | iface h ih =>
    intro y hy
    cases hy with
    | iface h' => exact .iface (ih h')
  | agg hs h1 hr ih =>
    intro y hy
    cases hy with
    | agg hs' h1' hr' => exact .agg hs' h1' fun i a b => ih i a (by omega) (hr' i a b)
  | tup hs hr ih =>
    intro y hy
    cases hy with
    | tup hs' hr' => exact .tup hs' fun i a b => ih i a (by omega) (hr' i a b)
theorem ObjAt.cut {Γ Γ' : Con} {n nt : Nat} (hn : ∀ {i b}, Γ.rho i = some b → i < n) (ht : ∀ {t v T}, Γ.tau t v = some T → t < nt) {w w' : World} {b b' : Nat} {o : AObj} (h : ObjAt Γ w b o) (h' : ObjAt Γ' w' b' o) : ObjAt (Γ'.cut n nt) w' b' o := by
  cases o with
  | cells cs =>
    obtain ⟨vs, e, fr, h1, h2, h3⟩ := h
    obtain ⟨vs', e', fr', h1', h2', h3'⟩ := h'
    exact ⟨vs', e', fr', h1', h2', fun i a c => ⟨RV.cut hn ht (h3 i a (by omega)).1 (h3' i a c).1, (h3' i a c).2⟩⟩
  | map es =>
    obtain ⟨ms, c, h1, h2, h3⟩ := h
    obtain ⟨ms', c', h1', h2', h3'⟩ := h'
    exact ⟨ms', c', h1', h2', fun i a d => ⟨(h3' i a d).1, RV.cut hn ht (h3 i a (by omega)).2 (h3' i a d).2⟩⟩
  | siter s pos => exact h'
  | bld T o k cap =>
    obtain ⟨p, v, fr, _, _, _, _, h5⟩ := h
    obtain ⟨p', v', fr', h1', h2', h3', h4', h5'⟩ := h'
    refine ⟨p', v', fr', h1', h2', h3', h4', ?_⟩
    rcases h5' with h5' | ⟨i, g, h6, h7, h8⟩
    · exact .inl h5'
    · refine .inr ⟨i, g, h6, ?_, h8⟩
      rcases h5 with ⟨h5, _⟩ | ⟨i2, g2, h62, h72, _⟩
      · rw [h5] at h6; cases h6
      · rw [h6] at h62
        cases h62
        simp only [Con.cut]; rw [if_pos (hn h72)]; exact h7
  | buf e l cap => exact h'
  | lp l R st pend fr =>
    obtain ⟨_, t, d, h1, h2, h3⟩ := h
    obtain ⟨h0', t', d', h1', h2', h3'⟩ := h'
    exact ⟨h0', t', d', h1', h2', fun i a c => RV.cut hn ht (h3 i a (by omega)) (h3' i a c)⟩
  | dfr bd => exact h'
/-- What has been laid since is forgotten. -/
theorem WR.gc {w0 : World} {Γ Γ' : Con} {h h' : AH} {w w' : World} (H : WR w0 Γ h w) (hle : Γ.le Γ') (H' : WR w0 Γ' h' w') (e : Ext h h') : Γ.le (Γ'.cut h.n h.nt) ∧ WR w0 (Γ'.cut h.n h.nt) h w' := by
  have hn : ∀ {i b}, Γ.rho i = some b → i < h.n := fun x => (H.rlt x).1
  have ht : ∀ {t v T}, Γ.tau t v = some T → t < h.nt := fun x => (H.tnew x).1
  have hob : ∀ {i}, (h.objs i).isSome → h'.objs i = h.objs i := fun hi => e.objs _ (H.olt hi)
  have cr : ∀ {i b}, (Γ'.cut h.n h.nt).rho i = some b → i < h.n ∧ Γ'.rho i = some b := fun {i b} hi => by
    simp only [Con.cut] at hi
    split at hi
    · exact ⟨by assumption, hi⟩
    · cases hi
  have ct : ∀ {t v T}, (Γ'.cut h.n h.nt).tau t v = some T → t < h.nt ∧ Γ'.tau t v = some T := fun {t v T} hi => by
    simp only [Con.cut] at hi
    split at hi
    · exact ⟨by assumption, hi⟩
    · cases hi
  refine ⟨⟨fun hx => hle.F hx, fun hx => ?_, fun hx => ?_⟩, H'.below, fun hx => H'.fcell hx, ?_, ?_, ?_, ?_, ?_, ?_⟩
  · simp only [Con.cut]; rw [if_pos (hn hx)]; exact hle.rho hx
  · simp only [Con.cut]; rw [if_pos (ht hx)]; exact hle.tau hx
  · intro i o ho
    obtain ⟨b, h1, h2, h3, h4⟩ := H.obj ho
    obtain ⟨b', h1', h2', h3', h4'⟩ := H'.obj ((hob (by rw [ho]; rfl)).trans ho)
    refine ⟨b', ?_, h2', ObjAt.cut hn ht h3 h3', h4'⟩
    simp only [Con.cut]; rw [if_pos (hn h1)]; exact h1'
  · intro i j b hi hj hbi hbj
    exact H'.inj (by rw [hob hi]; exact hi) (by rw [hob hj]; exact hj) (cr hbi).2 (cr hbj).2
  · intro i b hi
    exact ⟨(cr hi).1, (H'.rlt (cr hi).2).2⟩
  · intro t T hT
    obtain ⟨hlt, hT'⟩ := ct hT
    rw [← e.ver t hlt] at hT'
    obtain ⟨h1, h2, h3⟩ := H'.tok hT'
    refine ⟨h1, h2, fun i hi hb => h3 i (by rw [hob hi]; exact hi) (cr hb).2⟩
  · intro t t' T T' hT hT' he
    obtain ⟨hl1, h1⟩ := ct hT
    obtain ⟨hl2, h2⟩ := ct hT'
    rw [← e.ver t hl1] at h1
    rw [← e.ver t' hl2] at h2
    exact H'.tinj h1 h2 he
  · intro t v T hT
    obtain ⟨hlt, hT'⟩ := ct hT
    refine ⟨hlt, ?_⟩
    rw [← e.ver t hlt]
    exact (H'.tnew hT').2
/-- A call that gives a plain value and changes nothing that was there leaves the heap as it is. -/
theorem Call.gc {P : Program} {w0 : World} {f : FuncId} {args : List AV} {h : AH} {Q : AV → AH → Prop} {Q' : AV → Prop} (hc : Call P w0 f args h Q) (hq : ∀ v h', Q v h' → Plain v ∧ Ext h h' ∧ Q' v) : Call P w0 f args h fun v h' => Q' v ∧ h' = h :=
  ⟨hc.1, fun Γ w vs H hv => (hc.2 Γ w vs H hv).mono fun e w' ⟨x, Γ', v, h', h1, h2, h3, h4, h5⟩ => by
    obtain ⟨hp, he, hk⟩ := hq v h' h5
    obtain ⟨hle, HW⟩ := H.gc h2 h4 he
    exact ⟨x, _, v, h, h1, hle, hp.cut _ _ h3, HW, hk, rfl⟩⟩
/-- A contract of a value, used. -/
theorem Call.use {P : Program} {w0 : World} {f : FuncId} {args : List AV} {h : AH} {v : AV} {K : AV → AH → Prop} (hc : Call P w0 f args h fun u h' => u = v ∧ h' = h) (k : K v h) : Call P w0 f args h K :=
  hc.mono fun u h' hh => by obtain ⟨rfl, rfl⟩ := hh; exact k
end Go.Abs
