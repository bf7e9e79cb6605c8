/- A program logic over abstract states, 18: what is computed of code holds of it. -/
import Derived.Test.YtbakofbljfhoiaaDoorAbsR
namespace Go.Abs
open Go Go.RowKit
set_option linter.unusedVariables false
set_option linter.unusedSimpArgs false
section
variable {P : Program} {w0 : World}

theorem steps_tail {m m1 m' : Machine} (hs : step P m = .next m1) (h : Steps P m m') (hne : m' ≠ m) : Steps P m1 m' := by
  obtain ⟨n, hn⟩ := h
  cases n with
  | zero => simp [runN] at hn; exact absurd hn.symm hne
  | succ n => simp [runN, hs] at hn; exact ⟨n, hn⟩
theorem exitTo_len {id : Nat} : ∀ {k k' : List Item}, exitTo id k = some k' → k'.length < k.length
  | [], k', h => by simp [exitTo] at h
  | x :: k, k', h => by
    have rest : exitTo id k = some k' → k'.length < (x :: k).length := fun hh => by have := exitTo_len hh; simp; omega
    cases x with
    | inBlock j =>
      simp only [exitTo] at h
      split at h
      · injection h with h; subst h; simp
      · exact rest h
    | _ => exact rest h
/-- One more round of a loop (where the way out 'outgrown' is never taken). -/
theorem wp_loop_unroll {c : Code} {Q : Exit → Act → World → Prop} (hout : ∀ a w, ¬ Q .outgrown a w) (hgo : ∀ l a w, ¬ Q (.goto l) a w) {a : Act} {w : World} (h : c.wp P (Exit.then ((Code.loop c).wp P Q) Q) a w) : (Code.loop c).wp P Q a w := by
  intro b k cs
  obtain ⟨e, a₁, w₁, hq, harr⟩ := h b (.inLoop c :: k) cs
  cases e with
  | normal =>
    obtain ⟨e₂, a₂, w₂, hq₂, harr₂⟩ := hq b k cs
    refine ⟨e₂, a₂, w₂, hq₂, .of_steps (Steps.trans (.one step_loop) (Steps.trans harr (.one step_inLoop))) ?_⟩
    have hs : step P (lone (b.at a₁ (.code (.loop c) :: k)) cs w₁) = .next (lone (b.at a₁ (.code c :: .inLoop c :: k)) cs w₁) := step_loop
    have hne : ∀ {a' : Act} {k' : List Item} {w' : World}, k'.length ≤ k.length → lone (b.at a' k') cs w' ≠ lone (b.at a₁ (.code (.loop c) :: k)) cs w₁ := by
      intro a' k' w' hl he
      simp only [lone, Frame.at, Machine.mk.injEq, Array.mk.injEq, List.cons.injEq, Goroutine.mk.injEq, Frame.mk.injEq] at he
      have := he.2.1
      simp at this
      have h2 := congrArg List.length this.2.1
      simp at h2
      omega
    cases e₂ with
    | normal => exact steps_tail hs harr₂ (hne (Nat.le_refl _))
    | exit id => exact fun k' hk => steps_tail hs (harr₂ k' hk) (hne (Nat.le_of_lt (exitTo_len hk)))
    | goto l => exact absurd hq₂ (hgo l _ _)
    | ret =>
      obtain ⟨todo, hst⟩ := harr₂
      refine ⟨todo, steps_tail hs hst ?_⟩
      intro he
      simp [lone, Frame.at] at he
    | panic ch =>
      obtain ⟨todo, hst⟩ := harr₂
      refine ⟨todo, steps_tail hs hst ?_⟩
      intro he
      simp [lone, Frame.at] at he
    | outgrown => exact absurd hq₂ (hout _ _)
  | exit id => exact ⟨_, a₁, w₁, hq, .of_steps (.one step_loop) (.pass (x := .inLoop c) rfl (fun _ _ => .inl (by simp)) harr)⟩
  | goto l => exact absurd hq (hgo l _ _)
  | ret => exact ⟨_, a₁, w₁, hq, .of_steps (.one step_loop) (.pass (x := .inLoop c) rfl (fun _ _ => .inl (by simp)) harr)⟩
  | panic ch => exact ⟨_, a₁, w₁, hq, .of_steps (.one step_loop) (.pass (x := .inLoop c) rfl (fun _ _ => .inl (by simp)) harr)⟩
  | outgrown => exact absurd hq (hout _ _)

/-- What is computed of compiled code holds of the code. -/
theorem vc_sound {rows : List Nat} : ∀ {c : Code} {ic : IC}, comp P rows c = some ic → ∀ {Q : AExit → List AV → AH → Prop} {fr : List AV} {h : AH}, vc P w0 ic Q fr h → W P w0 c Q fr h
  | .skip, ic, hc, Q, fr, h, hv => by
    simp only [comp, Option.some.injEq] at hc
    subst hc
    intro Γ w a H hf
    exact wp_skip ⟨.normal, Γ, fr, h, trivial, .refl _, hf, H, hv⟩
  | .region id ops d, ic, hc, Q, fr, h, hv => by
    cases d with
    | true =>
      simp only [comp] at hc
      split at hc
      · rename_i is his
        split at hc
        · rename_i l hd
          intro Γ w a H hf
          split at hc
          · rename_i is' hp
            injection hc with hc
            subst hc
            exact vcD_sound his hd H hf (plainD_vc hp hv)
          · injection hc with hc
            subst hc
            exact vcD_sound his hd H hf hv
        · cases hc
      · cases hc
    | false =>
      simp only [comp, Option.map_eq_some_iff] at hc
      obtain ⟨is, his, rfl⟩ := hc
      intro Γ w a H hf
      exact wp_region_list (vcOps_sound his H hf (.refl _) hv)
  | .seq x y, ic, hc, Q, fr, h, hv => by
    simp only [comp] at hc
    split at hc
    · rename_i ix iy hx hy
      injection hc with hc
      subst hc
      intro Γ w a H hf
      refine wp_seq (wp_mono (vc_sound hx hv Γ w a H hf) fun e a' w' hp => ?_)
      obtain ⟨ae, Γ', fr', h', h1, h2, h3, h4, h5⟩ := hp
      cases e <;> cases ae <;> simp only [exitOf] at h1
      · exact wp_mono (vc_sound hy h5 Γ' w' a' h4 h3) fun e a w hp => hp.weaken h2
      · exact ⟨.exit _, Γ', fr', h', h1, h2, h3, h4, h5⟩
      · exact ⟨.ret, Γ', fr', h', trivial, h2, h3, h4, h5⟩
    · cases hc
  | .cond X x y, ic, hc, Q, fr, h, hv => by
    simp only [comp] at hc
    split at hc
    · rename_i ox ix iy hX hx hy
      injection hc with hc
      subst hc
      intro Γ w a H hf
      have hxr := hf.eval hX
      simp only [vc] at hv
      split at hv
      · rename_i t ht
        rw [ht] at hxr
        refine wp_cond hxr.inv_v ?_
        cases t
        · exact vc_sound hy hv Γ w a H hf
        · exact vc_sound hx hv Γ w a H hf
      · exact hv.elim
    · cases hc
  | .block id b, ic, hc, Q, fr, h, hv => by
    simp only [comp, Option.map_eq_some_iff] at hc
    obtain ⟨ib, hb, rfl⟩ := hc
    intro Γ w a H hf
    refine wp_block (wp_mono (vc_sound hb hv Γ w a H hf) fun e a' w' hp => ?_)
    obtain ⟨ae, Γ', fr', h', h1, h2, h3, h4, h5⟩ := hp
    cases e <;> cases ae <;> simp only [exitOf] at h1
    · exact ⟨.normal, Γ', fr', h', trivial, h2, h3, h4, h5⟩
    · subst h1
      simp only [blkQ] at h5
      simp only [Exit.inBlock]
      split
      · rename_i hid
        rw [if_pos hid] at h5
        exact ⟨.normal, Γ', fr', h', trivial, h2, h3, h4, h5⟩
      · rename_i hid
        rw [if_neg hid] at h5
        exact ⟨.exit _, Γ', fr', h', rfl, h2, h3, h4, h5⟩
    · exact ⟨.ret, Γ', fr', h', trivial, h2, h3, h4, h5⟩
  | .loop b, ic, hc, Q, fr, h, hv => by
    simp only [comp, Option.map_eq_some_iff] at hc
    obtain ⟨ib, hb, rfl⟩ := hc
    exact hv rows b hb
  | .exit id, ic, hc, Q, fr, h, hv => by
    simp only [comp, Option.some.injEq] at hc
    subst hc
    intro Γ w a H hf
    exact wp_exit ⟨.exit id, Γ, fr, h, rfl, .refl _, hf, H, hv⟩
  | .ret, ic, hc, Q, fr, h, hv => by
    simp only [comp, Option.some.injEq] at hc
    subst hc
    intro Γ w a H hf
    exact wp_ret ⟨.ret, Γ, fr, h, trivial, .refl _, hf, H, hv⟩
  | .rangeFunc _ _ _ _, ic, hc, Q, fr, h, hv => by simp [comp] at hc
  | .scope _, ic, hc, Q, fr, h, hv => by simp [comp] at hc
  | .label _, ic, hc, Q, fr, h, hv => by simp [comp] at hc
  | .goto _, ic, hc, Q, fr, h, hv => by simp [comp] at hc
  | .refuse _, ic, hc, Q, fr, h, hv => by simp [comp] at hc

/-- One round, and the loop again. -/
theorem Lp.unfold {b : IC} {Q : AExit → List AV → AH → Prop} {fr : List AV} {h : AH} (hv : vc P w0 b (seqQ (Lp P w0 b Q) Q) fr h) : Lp P w0 b Q fr h := by
  intro rows c hc Γ w a H hf
  refine wp_loop_unroll (fun a w hp => ?_) (fun l a w hp => ?_) (wp_mono (vc_sound hc hv Γ w a H hf) fun e a' w' hp => ?_)
  · obtain ⟨ae, Γ', fr', h', h1, _⟩ := hp
    cases ae <;> exact h1
  · obtain ⟨ae, Γ', fr', h', h1, _⟩ := hp
    cases ae <;> exact h1
  · obtain ⟨ae, Γ', fr', h', h1, h2, h3, h4, h5⟩ := hp
    cases e <;> cases ae <;> simp only [exitOf] at h1
    · exact wp_mono (h5 rows c hc Γ' w' a' h4 h3) fun e a w hp => hp.weaken h2
    · exact ⟨.exit _, Γ', fr', h', h1, h2, h3, h4, h5⟩
    · exact ⟨.ret, Γ', fr', h', trivial, h2, h3, h4, h5⟩
/-- A loop by what holds at each round's head, and a number that goes down. -/
theorem Lp.ind {b : IC} {Q : AExit → List AV → AH → Prop} (I : List AV → AH → Prop) (μ : List AV → AH → Nat) (round : ∀ fr h, I fr h → vc P w0 b (seqQ (fun fr' h' => I fr' h' ∧ μ fr' h' < μ fr h) Q) fr h)
    (mono : ∀ {K K' : List AV → AH → Prop} {fr h}, (∀ fr h, K fr h → K' fr h) → vc P w0 b (seqQ K Q) fr h → vc P w0 b (seqQ K' Q) fr h) {fr : List AV} {h : AH} (hi : I fr h) : Lp P w0 b Q fr h := by
  have key : ∀ n fr h, μ fr h = n → I fr h → Lp P w0 b Q fr h := by
    intro n
    induction n using Nat.strongRecOn with
    | _ n ih =>
      intro fr h hn hi
      refine Lp.unfold (mono (fun fr' h' hh => ?_) (round fr h hi))
      exact ih (μ fr' h') (by omega) fr' h' rfl hh.1
  exact key _ fr h rfl hi

/-! a function's body -/
/-- What a function hands back: slots, or variables in memory. -/
inductive ARes where
  | tmp (t : Nat)
  | cell (t : Nat) (sz : Option Nat)
def aresOne (fr : List AV) (h : AH) : ARes → Option AV
  | .tmp t => some (fr.getD t (.v undef))
  | .cell t sz => match fr.getD t (.v undef) with
    | .ptr id off => match h.objs id with
      | some (.cells cs) => rd cs off sz
      | _ => none
    | _ => none
def aresAll (fr : List AV) (h : AH) : List ARes → Option (List AV)
  | [] => some []
  | r :: rs => match aresOne fr h r, aresAll fr h rs with
    | some v, some vs => some (v :: vs)
    | _, _ => none
def ares (fr : List AV) (h : AH) : List ARes → Option AV
  | [r] => aresOne fr h r
  | rs => (aresAll fr h rs).map .tup
def compRes (P : Program) : List ResultVar → Option (List ARes)
  | [] => some []
  | .tmp t :: rs => (compRes P rs).map (.tmp t :: ·)
  | .cell t ty :: rs => match aggSz P ty, compRes P rs with
    | some s, some rs => some (.cell t s :: rs)
    | _, _ => none
end
end Go.Abs
