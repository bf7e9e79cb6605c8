/- A program logic over abstract states, 18: what is computed of code holds of it. -/
import Derived.Test.YtnpdmkbfphcioaaGreatDoorAbsR
namespace Go.Abs
open Go Go.RowKit
set_option linter.unusedVariables false
set_option linter.unusedSimpArgs false
section
variable {P : Program} {w0 : World}

theorem steps_tail {I : Machine → Prop} {m m1 m' : Machine} (hs : step P m = .next m1) (h : StepsIn I P m m') (hne : m' ≠ m) : StepsIn I P m1 m' := by
  cases h with
  | refl => exact absurd rfl hne
  | head hI h1 rest =>
    rw [hs] at h1
    injection h1 with h1
    subst h1
    exact rest
theorem exitTo_len {id : Nat} : ∀ {k k' : List Item}, exitTo id k = some k' → k'.length < k.length
  | [], k', h => by simp [exitTo] at h
  | x :: k, k', h => by
    have rest : exitTo id k = some k' → k'.length < (x :: k).length := fun hh => by have := exitTo_len hh; simp; omega
    cases x with
    | inBlock j =>
      simp only [exitTo] at h
      split at h
      · injection h with h; subst h; simp
      · exact rest h
    | _ => exact rest h
/-- One more round of a loop (where the way out 'outgrown' is never taken). -/
theorem wp_loop_unroll {F : Fence} {n : Nat} {c : Code} {Q : Exit → Act → World → Prop} (hout : ∀ a w, ¬ Q .outgrown a w) (hgo : ∀ l a w, ¬ Q (.goto l) a w) {a : Act} {w : World} (h : c.wpIn F n P (Exit.then ((Code.loop c).wpIn F n P Q) Q) a w) : (Code.loop c).wpIn F n P Q a w := by
  intro b k cs hro hb hr
  obtain ⟨e, a₁, w₁, hq, harr⟩ := h b (.inLoop c :: k) cs hro hb hr
  have s0 : ∀ {a : Act} {w : World}, StepsIn (Machine.fenced P F) P (lone (b.atR a (.code (.loop c) :: k)) cs w) (lone (b.atR a (.code c :: .inLoop c :: k)) cs w) := .one (fenced_calm hb hr rfl) stepR_loop
  cases e with
  | normal =>
    obtain ⟨e₂, a₂, w₂, hq₂, harr₂⟩ := hq b k cs hro hb hr
    refine ⟨e₂, a₂, w₂, hq₂, .of_steps (StepsIn.trans s0 (StepsIn.trans harr (.one (fenced_calm hb hr rfl) stepR_inLoop))) ?_⟩
    have hs : step P (lone (b.atR a₁ (.code (.loop c) :: k)) cs w₁) = .next (lone (b.atR a₁ (.code c :: .inLoop c :: k)) cs w₁) := stepR_loop
    have hne : ∀ {a' : Act} {k' : List Item} {w' : World}, k'.length ≤ k.length → lone (b.atR a' k') cs w' ≠ lone (b.atR a₁ (.code (.loop c) :: k)) cs w₁ := by
      intro a' k' w' hl he
      simp only [lone, Frame.atR, Machine.mk.injEq, Array.mk.injEq, List.cons.injEq, Goroutine.mk.injEq, Frame.mk.injEq] at he
      have := he.2.1
      simp at this
      have h2 := congrArg List.length this.2.1
      simp at h2
      omega
    cases e₂ with
    | normal => exact steps_tail hs harr₂ (hne (Nat.le_refl _))
    | exit id =>
      refine ⟨fun k' hk => steps_tail hs (harr₂.1 k' hk) (hne (Nat.le_of_lt (exitTo_len hk))), fun h1 h2 => ?_⟩
      obtain ⟨k₁, h3, h4⟩ := harr₂.2 h1 h2
      refine ⟨k₁, h3, steps_tail hs h4 fun he => ?_⟩
      simp only [lone, Frame.atR, Machine.mk.injEq, Array.mk.injEq, List.cons.injEq, Goroutine.mk.injEq, Frame.mk.injEq] at he
      have := he.2.1
      simp at this
    | goto l => exact absurd hq₂ (hgo l _ _)
    | ret =>
      refine ⟨fun h1 => ?_, fun h1 => ?_⟩
      · obtain ⟨todo, hst⟩ := harr₂.1 h1
        refine ⟨todo, steps_tail hs hst ?_⟩
        intro he
        simp [lone, Frame.atR] at he
      · obtain ⟨k₁, hst⟩ := harr₂.2 h1
        refine ⟨k₁, steps_tail hs hst ?_⟩
        intro he
        simp [lone, Frame.atR] at he
    | panic ch =>
      obtain ⟨todo, hst⟩ := harr₂
      refine ⟨todo, steps_tail hs hst ?_⟩
      intro he
      simp [lone, Frame.atR] at he
    | outgrown => exact absurd hq₂ (hout _ _)
  | exit id => exact ⟨_, a₁, w₁, hq, .of_steps s0 (.pass (x := .inLoop c) rfl (fun _ _ => .inl (by simp)) harr)⟩
  | goto l => exact absurd hq (hgo l _ _)
  | ret => exact ⟨_, a₁, w₁, hq, .of_steps s0 (.pass (x := .inLoop c) rfl (fun _ _ => .inl (by simp)) harr)⟩
  | panic ch => exact ⟨_, a₁, w₁, hq, .of_steps s0 (.pass (x := .inLoop c) rfl (fun _ _ => .inl (by simp)) harr)⟩
  | outgrown => exact absurd hq (hout _ _)

/-- What is computed of compiled code holds of the code. -/
theorem vc_sound {rows : List Nat} : ∀ {c : Code} {ic : IC}, comp P rows c = some ic → ∀ {Q : AExit → List AV → AH → Prop} {fr : List AV} {h : AH}, vc P w0 ic Q fr h → W P w0 c Q fr h
  | .skip, ic, hc, Q, fr, h, hv => by
    simp only [comp, Option.some.injEq] at hc
    subst hc
    intro ro Γ w a H hf
    exact wpIn_skip ⟨rfl, .normal, Γ, fr, h, trivial, .refl _, hf, H, hv⟩
  | .region id ops d, ic, hc, Q, fr, h, hv => by
    cases d with
    | true =>
      simp only [comp] at hc
      split at hc
      · rename_i is his
        split at hc
        · rename_i l hd
          intro ro Γ w a H hf
          split at hc
          · rename_i is' hp
            injection hc with hc
            subst hc
            exact vcD_sound his hd H hf (plainD_vc hp hv)
          · injection hc with hc
            subst hc
            exact vcD_sound his hd H hf hv
        · split at hc
          · rename_i ls hA
            injection hc with hc
            subst hc
            intro ro Γ w a H hf
            exact vcA_sound his hA H hf hv
          · cases hc
      · cases hc
    | false =>
      simp only [comp, Option.map_eq_some_iff] at hc
      obtain ⟨is, his, rfl⟩ := hc
      intro ro Γ w a H hf
      exact wpIn_region_list (vcOps_sound his H hf (.refl _) rfl hv)
  | .seq x y, ic, hc, Q, fr, h, hv => by
    simp only [comp] at hc
    split at hc
    · rename_i ix iy hx hy
      injection hc with hc
      subst hc
      intro ro Γ w a H hf
      refine wpIn_seq (wpIn_mono (vc_sound hx hv ro Γ w a H hf) fun e a' w' hp => ?_)
      obtain ⟨hd, ae, Γ', fr', h', h1, h2, h3, h4, h5⟩ := hp
      cases e <;> cases ae <;> simp only [exitOf] at h1
      · exact wpIn_mono (vc_sound hy h5 ro Γ' w' a' h4 h3) fun e a w hp => by rw [hd] at hp; exact hp.weaken h2
      · exact ⟨hd, .exit _, Γ', fr', h', h1, h2, h3, h4, h5⟩
      · exact ⟨hd, .ret, Γ', fr', h', trivial, h2, h3, h4, h5⟩
    · cases hc
  | .cond X x y, ic, hc, Q, fr, h, hv => by
    simp only [comp] at hc
    split at hc
    · rename_i ox ix iy hX hx hy
      injection hc with hc
      subst hc
      intro ro Γ w a H hf
      have hxr := hf.eval hX
      simp only [vc] at hv
      split at hv
      · rename_i t ht
        rw [ht] at hxr
        refine wpIn_cond hxr.inv_v ?_
        cases t
        · exact vc_sound hy hv ro Γ w a H hf
        · exact vc_sound hx hv ro Γ w a H hf
      · exact hv.elim
    · cases hc
  | .block id b, ic, hc, Q, fr, h, hv => by
    simp only [comp, Option.map_eq_some_iff] at hc
    obtain ⟨ib, hb, rfl⟩ := hc
    intro ro Γ w a H hf
    refine wpIn_block (wpIn_mono (vc_sound hb hv ro Γ w a H hf) fun e a' w' hp => ?_)
    obtain ⟨hd, ae, Γ', fr', h', h1, h2, h3, h4, h5⟩ := hp
    cases e <;> cases ae <;> simp only [exitOf] at h1
    · exact ⟨hd, .normal, Γ', fr', h', trivial, h2, h3, h4, h5⟩
    · subst h1
      simp only [blkQ] at h5
      simp only [Exit.inBlock]
      split
      · rename_i hid
        rw [if_pos hid] at h5
        exact ⟨hd, .normal, Γ', fr', h', trivial, h2, h3, h4, h5⟩
      · rename_i hid
        rw [if_neg hid] at h5
        exact ⟨hd, .exit _, Γ', fr', h', rfl, h2, h3, h4, h5⟩
    · exact ⟨hd, .ret, Γ', fr', h', trivial, h2, h3, h4, h5⟩
  | .loop b, ic, hc, Q, fr, h, hv => by
    simp only [comp, Option.map_eq_some_iff] at hc
    obtain ⟨ib, hb, rfl⟩ := hc
    exact hv rows b hb
  | .exit id, ic, hc, Q, fr, h, hv => by
    simp only [comp, Option.some.injEq] at hc
    subst hc
    intro ro Γ w a H hf
    exact wpIn_exit ⟨rfl, .exit id, Γ, fr, h, rfl, .refl _, hf, H, hv⟩
  | .ret, ic, hc, Q, fr, h, hv => by
    simp only [comp, Option.some.injEq] at hc
    subst hc
    intro ro Γ w a H hf
    exact wpIn_ret ⟨rfl, .ret, Γ, fr, h, trivial, .refl _, hf, H, hv⟩
  | .rangeFunc _ _ _ _, ic, hc, Q, fr, h, hv => by simp [comp] at hc
  | .scope _, ic, hc, Q, fr, h, hv => by simp [comp] at hc
  | .label _, ic, hc, Q, fr, h, hv => by simp [comp] at hc
  | .goto _, ic, hc, Q, fr, h, hv => by simp [comp] at hc
  | .refuse _, ic, hc, Q, fr, h, hv => by simp [comp] at hc

/-- One round, and the loop again. -/
theorem Lp.unfold {b : IC} {Q : AExit → List AV → AH → Prop} {fr : List AV} {h : AH} (hv : vc P w0 b (seqQ (Lp P w0 b Q) Q) fr h) : Lp P w0 b Q fr h := by
  intro rows c hc ro Γ w a H hf
  refine wp_loop_unroll (fun a w hp => ?_) (fun l a w hp => ?_) (wpIn_mono (vc_sound hc hv ro Γ w a H hf) fun e a' w' hp => ?_)
  · obtain ⟨_, ae, Γ', fr', h', h1, _⟩ := hp
    cases ae <;> exact h1
  · obtain ⟨_, ae, Γ', fr', h', h1, _⟩ := hp
    cases ae <;> exact h1
  · obtain ⟨hd, ae, Γ', fr', h', h1, h2, h3, h4, h5⟩ := hp
    cases e <;> cases ae <;> simp only [exitOf] at h1
    · exact wpIn_mono (h5 rows c hc ro Γ' w' a' h4 h3) fun e a w hp => by rw [hd] at hp; exact hp.weaken h2
    · exact ⟨hd, .exit _, Γ', fr', h', h1, h2, h3, h4, h5⟩
    · exact ⟨hd, .ret, Γ', fr', h', trivial, h2, h3, h4, h5⟩
/-- A loop by what holds at each round's head, and a number that goes down. -/
theorem Lp.ind {b : IC} {Q : AExit → List AV → AH → Prop} (I : List AV → AH → Prop) (μ : List AV → AH → Nat) (round : ∀ fr h, I fr h → vc P w0 b (seqQ (fun fr' h' => I fr' h' ∧ μ fr' h' < μ fr h) Q) fr h)
    (mono : ∀ {K K' : List AV → AH → Prop} {fr h}, (∀ fr h, K fr h → K' fr h) → vc P w0 b (seqQ K Q) fr h → vc P w0 b (seqQ K' Q) fr h) {fr : List AV} {h : AH} (hi : I fr h) : Lp P w0 b Q fr h := by
  have key : ∀ n fr h, μ fr h = n → I fr h → Lp P w0 b Q fr h := by
    intro n
    induction n using Nat.strongRecOn with
    | _ n ih =>
      intro fr h hn hi
      refine Lp.unfold (mono (fun fr' h' hh => ?_) (round fr h hi))
      exact ih (μ fr' h') (by omega) fr' h' rfl hh.1
  exact key _ fr h rfl hi

/-! a function's body -/
/-- What a function hands back: slots, or variables in memory. -/
inductive ARes where
  | tmp (t : Nat)
  | cell (t : Nat) (sz : Option Nat)
def aresOne (fr : List AV) (h : AH) : ARes → Option AV
  | .tmp t => some (fr.getD t (.v undef))
  | .cell t sz => match fr.getD t (.v undef) with
    | .ptr id off => match h.objs id with
      | some (.cells cs) => rd cs off sz
      | _ => none
    | _ => none
def aresAll (fr : List AV) (h : AH) : List ARes → Option (List AV)
  | [] => some []
  | r :: rs => match aresOne fr h r, aresAll fr h rs with
    | some v, some vs => some (v :: vs)
    | _, _ => none
def ares (fr : List AV) (h : AH) : List ARes → Option AV
  | [r] => aresOne fr h r
  | rs => (aresAll fr h rs).map .tup
def compRes (P : Program) : List ResultVar → Option (List ARes)
  | [] => some []
  | .tmp t :: rs => (compRes P rs).map (.tmp t :: ·)
  | .cell t ty :: rs => match aggSz P ty, compRes P rs with
    | some s, some rs => some (.cell t s :: rs)
    | _, _ => none
end
end Go.Abs
