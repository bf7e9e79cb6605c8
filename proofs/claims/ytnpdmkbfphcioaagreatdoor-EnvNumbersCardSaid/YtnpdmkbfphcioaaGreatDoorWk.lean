/- A program logic over abstract states, 28: what is known may be forgotten. -/
import Derived.Test.YtnpdmkbfphcioaaGreatDoorGc
namespace Go.Abs
open Go Go.RowKit
set_option linter.unusedVariables false
set_option linter.unusedSimpArgs false
/-- Whatever the first stands for the second stands for. -/
def AV.le (a b : AV) : Prop := ∀ (Γ : Con) (x : Value), RV Γ a x → RV Γ b x
theorem AV.le.refl (a : AV) : a.le a := fun _ _ h => h
theorem AV.le.trans {a b c : AV} (h : a.le b) (k : b.le c) : a.le c := fun Γ x hx => k Γ x (h Γ x hx)
/-- Cells, one by one. -/
structure CLe (as bs : List AV) : Prop where
  len : as.length = bs.length
  at_ : ∀ (i : Nat) (h : i < as.length) (h' : i < bs.length), (as[i]).le bs[i]
theorem CLe.nil : CLe [] [] := ⟨rfl, fun i h => by simp at h⟩
theorem CLe.cons {a b : AV} {as bs : List AV} (h : a.le b) (k : CLe as bs) : CLe (a :: as) (b :: bs) := ⟨by simp [k.len], fun i hi hi' => by
  cases i with
  | zero => exact h
  | succ i => exact k.at_ i (by simpa using hi) (by simpa using hi')⟩
theorem CLe.refl (as : List AV) : CLe as as := ⟨rfl, fun _ _ _ => .refl _⟩
theorem CLe.one {a b : AV} (h : a.le b) : CLe [a] [b] := .cons h .nil
theorem CLe.mapped {α : Type} {f g : α → AV} (l : List α) (h : ∀ x ∈ l, (f x).le (g x)) : CLe (l.map f) (l.map g) := ⟨by simp, fun i hi hi' => by
  simp only [List.getElem_map]
  exact h _ (List.getElem_mem _)⟩
theorem AV.le.list {sz : Nat} {rows rows' : List (List AV)} {tok : Tok} (hl : rows.length = rows'.length) (h : ∀ (i : Nat) (hi : i < rows.length) (hi' : i < rows'.length), CLe rows[i] rows'[i]) : (AV.list sz rows tok).le (.list sz rows' tok) := by
  intro Γ x hx
  cases hx with
  | nilf =>
    have : rows' = [] := List.eq_nil_of_length_eq_zero (by simpa using hl.symm)
    subst this; exact .nilf
  | niln =>
    have : rows' = [] := List.eq_nil_of_length_eq_zero (by simpa using hl.symm)
    subst this; exact .niln
  | list hc hsz hF h1 hr ht =>
    rw [hl]
    refine .list (by omega) (fun i hi => by rw [← (h i (by omega) hi).len]; exact hsz i _) (fun i hi => hF i (by omega)) (fun i hi => h1 i (by omega)) (fun i hi j hj => ?_) (by rw [← hl]; exact ht)
    have := (h i (by omega) hi).len
    exact (h i (by omega) hi).at_ j (by omega) hj _ _ (hr i (by omega) j (by omega))
theorem AV.le.noTok {sz : Nat} {rows : List (List AV)} {tok : Tok} : (AV.list sz rows tok).le (.list sz rows .no) := by
  intro Γ x hx
  cases hx with
  | nilf => exact .niln
  | niln => exact .niln
  | list hc hsz hF h1 hr ht => exact .list hc hsz hF h1 hr trivial
theorem AV.le.agg {as bs : List AV} (h : CLe as bs) : (AV.agg as).le (.agg bs) := by
  intro Γ x hx
  cases hx with
  | agg hs h1 hr => exact .agg (by rw [hs, h.len]) h1 fun i hi hi' => h.at_ i (by rw [h.len]; exact hi) hi _ _ (hr i (by rw [h.len]; exact hi) hi')
theorem AV.le.tup {as bs : List AV} (h : CLe as bs) : (AV.tup as).le (.tup bs) := by
  intro Γ x hx
  cases hx with
  | tup hs hr => exact .tup (by rw [hs, h.len]) fun i hi hi' => h.at_ i (by rw [h.len]; exact hi) hi _ _ (hr i (by rw [h.len]; exact hi) hi')
/-- An abstract heap of which less is known. -/
def AH.le (h h' : AH) : Prop := ∀ (w0 : World) (Γ : Con) (w : World), WR w0 Γ h w → WR w0 Γ h' w
theorem AH.le.refl (h : AH) : h.le h := fun _ _ _ H => H
theorem AH.le.trans {a b c : AH} (h : a.le b) (k : b.le c) : a.le c := fun w0 Γ w H => k w0 Γ w (h w0 Γ w H)
theorem AH.le.drop (h : AH) (id : Nat) : h.le (h.drop id) := by
  intro w0 Γ w H
  have hd : ∀ {i o}, (h.drop id).objs i = some o → h.objs i = some o := by
    intro i o hi
    simp only [AH.drop] at hi
    split at hi
    · cases hi
    · exact hi
  have hs : ∀ {i}, ((h.drop id).objs i).isSome → (h.objs i).isSome := fun hi => by
    obtain ⟨o, ho⟩ := Option.isSome_iff_exists.1 hi
    rw [hd ho]; rfl
  refine ⟨H.below, H.fcell, fun hi => H.obj (hd hi), fun hi hj => H.inj (hs hi) (hs hj), H.rlt, fun hT => ?_, H.tinj, H.tnew⟩
  obtain ⟨h1, h2, h3⟩ := H.tok hT
  exact ⟨h1, h2, fun i hi => h3 i (hs hi)⟩
theorem AH.le.cells {h : AH} {id : Nat} {cs cs' : List AV} (ho : h.objs id = some (.cells cs)) (hc : CLe cs cs') : h.le (h.set id (.cells cs')) := by
  intro w0 Γ w H
  have hs : ∀ {i}, ((h.set id (.cells cs')).objs i).isSome → (h.objs i).isSome := by
    intro i hi
    simp only [AH.set] at hi
    split at hi
    · rename_i e; rw [e, ho]; rfl
    · exact hi
  refine ⟨H.below, H.fcell, fun {i o} hi => ?_, fun hi hj => H.inj (hs hi) (hs hj), H.rlt, fun hT => ?_, H.tinj, H.tnew⟩
  · simp only [AH.set] at hi
    split at hi
    · rename_i e
      injection hi with hi
      subst hi; subst e
      obtain ⟨b, h1, h2, ⟨vs, el, fr, h3, h4, h5⟩, h6⟩ := H.obj ho
      exact ⟨b, h1, h2, ⟨vs, el, fr, h3, by rw [← hc.len]; exact h4, fun k hk hk' => ⟨hc.at_ k (by rw [hc.len]; exact hk) hk _ _ (h5 k (by rw [hc.len]; exact hk) hk').1, (h5 k (by rw [hc.len]; exact hk) hk').2⟩⟩, h6⟩
    · exact H.obj hi
  · obtain ⟨h1, h2, h3⟩ := H.tok hT
    exact ⟨h1, h2, fun i hi => h3 i (hs hi)⟩
/-- A contract of which less is told. -/
theorem Call.weak {P : Program} {w0 : World} {f : FuncId} {args : List AV} {h : AH} {Q Q' : AV → AH → Prop} (hc : Call P w0 f args h Q) (hq : ∀ v h', Q v h' → ∃ v2 h2, v.le v2 ∧ h'.le h2 ∧ Q' v2 h2) : Call P w0 f args h Q' :=
  ⟨hc.1, fun Γ w vs H hv => (hc.2 Γ w vs H hv).mono fun e w' ⟨x, Γ', v, h', h1, h2, h3, h4, h5⟩ => by
    obtain ⟨v2, h2', hv2, hh2, hk⟩ := hq v h' h5
    exact ⟨x, Γ', v2, h2', h1, h2, hv2 _ _ h3, hh2 _ _ _ h4, hk⟩⟩
/-- A contract used where more is known. -/
theorem Call.args {P : Program} {w0 : World} {f : FuncId} {args args' : List AV} {h : AH} {Q : AV → AH → Prop} (hc : Call P w0 f args' h Q) (ha : CLe args args') : Call P w0 f args h Q :=
  ⟨hc.1, fun Γ w vs H hv => hc.2 Γ w vs H ⟨by rw [← ha.len]; exact hv.len, fun i hi hi' => ha.at_ i (by rw [ha.len]; exact hi) hi _ _ (hv.at_ i (by rw [ha.len]; exact hi) hi')⟩⟩
end Go.Abs
