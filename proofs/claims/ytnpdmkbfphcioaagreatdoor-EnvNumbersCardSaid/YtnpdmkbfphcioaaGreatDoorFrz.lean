/- Objects that are not written any more: their cells are cells that never turn. -/
import Derived.Test.YtnpdmkbfphcioaaGreatDoorAbsX
namespace Go.Abs
open Go Go.RowKit
set_option linter.unusedVariables false
set_option linter.unusedSimpArgs false
section
variable {P : Program} {w0 : World} {Γ : Con} {h : AH} {w : World}
theorem WR.froze (H : WR w0 Γ h w) {id b : Nat} {cs : List AV} (ho : h.objs id = some (.cells cs)) (hb : Γ.rho id = some b) :
    ∃ f : Nat → Option Value, Γ.le (Γ.withRow b f) ∧ WR w0 (Γ.withRow b f) (h.drop id) w ∧ ∀ (j : Nat) (hj : j < cs.length), ∃ x, f j = some x ∧ x.oneCell' = true ∧ RV (Γ.withRow b f) cs[j] x := by
  obtain ⟨b', hb', hw0, ⟨vs, e, fr, hh, hl, hc⟩, hn⟩ := H.obj ho
  obtain rfl : b = b' := by rw [hb] at hb'; injection hb'
  have hle : Γ.le (Γ.withRow b fun o => if o < cs.length then vs[o]? else none) := by
    refine ⟨fun {k o x} hx => ?_, fun x => x, fun x => x⟩
    simp only [Con.withRow]
    rw [if_neg (by rintro rfl; rw [hn] at hx; cases hx)]
    exact hx
  have hsome : (h.objs id).isSome = true := by rw [ho]; rfl
  have hd : ∀ i, ((h.drop id).objs i).isSome = true → i ≠ id ∧ (h.objs i).isSome = true := by
    intro i hi
    simp only [AH.drop] at hi
    split at hi
    · cases hi
    · exact ⟨by assumption, hi⟩
  refine ⟨_, hle, ⟨H.below, ?_, ?_, ?_, H.rlt, ?_, H.tinj, H.tnew⟩, ?_⟩
  · intro k o x hx
    simp only [Con.withRow] at hx
    split at hx
    · rename_i hk
      subst hk
      split at hx
      · simp only [World.cell?, hh]
        exact hx
      · cases hx
    · exact H.fcell hx
  · intro i o hi
    have hi2 := hd i (by rw [hi]; rfl)
    have hi3 : h.objs i = some o := by
      simp only [AH.drop] at hi
      rw [if_neg hi2.1] at hi
      exact hi
    obtain ⟨k, h1, h2, h3, h4⟩ := H.obj hi3
    refine ⟨k, h1, h2, h3.mono hle, fun off => ?_⟩
    simp only [Con.withRow]
    rw [if_neg (by rintro rfl; exact hi2.1 (H.inj hi2.2 hsome h1 hb))]
    exact h4 off
  · intro i j k hi hj
    exact H.inj (hd i hi).2 (hd j hj).2
  · intro t T ht
    obtain ⟨h1, ⟨h2, vs', e', fr', h3, h4, h5⟩, h6⟩ := H.tok ht
    refine ⟨h1, ⟨h2, vs', e', fr', h3, h4, fun off a c => ?_⟩, fun i hi => h6 i (hd i hi).2⟩
    simp only [Con.withRow]
    rw [if_neg (by intro e; exact h6 id hsome (by rw [hb, e]))]
    exact h5 off a c
  · intro j hj
    have hj2 : j < vs.size := by omega
    refine ⟨vs[j], ?_, (hc j hj hj2).2.1, (hc j hj hj2).1.mono hle⟩
    rw [if_pos hj]
    simp [hj2]
/-- What a call returns is a row that it has laid and that is not written any more. -/
theorem Call.frz {f : FuncId} {args : List AV} {Q : AV → AH → Prop} (hc : Call P w0 f args h fun v h' => ∃ id cap cs rest, v = .row id 0 cs.length cap ∧ h'.objs id = some (.cells (cs ++ rest)) ∧ (∀ c ∈ cs, c.one = true) ∧ Q (.list 1 (cs.map fun c => [c]) .no) (h'.drop id)) : Call P w0 f args h Q := by
  refine ⟨hc.1, fun Γ w vs H hv => (hc.2 Γ w vs H hv).mono fun e w' hp => ?_⟩
  obtain ⟨x, Γ', v, h', rfl, hle, hx, H', id, cap, cs, rest, rfl, ho, h1, hQ⟩ := hp
  obtain ⟨b, c, hb, rfl, hlc, hcc⟩ := hx.inv_row
  obtain ⟨f, hle2, H2, hf⟩ := H'.froze ho hb
  refine ⟨_, _, _, _, rfl, hle.trans hle2, ?_, H2, hQ⟩
  have hl : (cs.map fun c => [c]).length = cs.length := by simp
  have hat : ∀ j, j < cs.length → ∃ x, f j = some x ∧ x.oneCell' = true ∧ ∃ hj : j < (cs ++ rest).length, RV (Γ'.withRow b f) (cs ++ rest)[j] x := fun j hj => by
    have hj2 : j < (cs ++ rest).length := by simp; omega
    obtain ⟨x, a1, a2, a3⟩ := hf j hj2
    exact ⟨x, a1, a2, hj2, a3⟩
  have key : ∀ i, i < cs.length → f i = some ((f i).getD undef) ∧ ((f i).getD undef).oneCell' = true := fun i hi => by
    obtain ⟨x, a1, a2, _⟩ := hat i hi
    rw [a1]
    exact ⟨rfl, a2⟩
  rw [← hl]
  refine .list (u := fun i _ => (f i).getD undef) (by omega) (fun i hi => by simp) (fun i hi j hj => ?_) (fun i hi j hj => ?_) (fun i hi j hj => ?_) trivial
  · obtain rfl : j = 0 := by omega
    simp only [Con.withRow, if_true, Nat.zero_add, Nat.mul_one, Nat.add_zero]
    exact (key i (by omega)).1
  · exact (key i (by omega)).2
  · have hi2 : i < cs.length := by omega
    obtain ⟨x, a1, a2, hj2, a3⟩ := hat i hi2
    simp only [List.getElem_map, List.length_cons, List.length_nil] at hj ⊢
    obtain rfl : j = 0 := by omega
    rw [List.getElem_append_left hi2] at a3
    simp only [List.getElem_cons_zero, a1, Option.getD_some]
    exact a3
theorem Ext.drop {h h' : AH} (e : Ext h h') {id : Nat} (hi : h.n ≤ id) : Ext h (h'.drop id) :=
  ⟨e.n, e.nt, fun i hl => by
    simp only [AH.drop]
    rw [if_neg (by omega)]
    exact e.objs i hl, e.ver⟩
end
end Go.Abs
