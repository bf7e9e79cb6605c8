/- A program logic over abstract states, 20: frames as functions; the form that is computed. -/
import Derived.Test.YtnpdmkbfphcioaaGreatDoorAbsQ
namespace Go.Abs
open Go Go.RowKit
set_option linter.unusedVariables false
set_option linter.unusedSimpArgs false

abbrev Fm := Nat → AV
def up (σ : Fm) (d : Option Nat) (v : AV) : Fm := match d with
  | some d => fun t => match Nat.beq t d with
    | true => v
    | false => σ t
  | none => σ
theorem up_none (σ : Fm) (v : AV) : up σ none v = σ := rfl
theorem up_at (σ : Fm) (d : Nat) (v : AV) (t : Nat) : up σ (some d) v t = if t = d then v else σ t := by
  simp only [up]
  by_cases h : t = d
  · subst h; simp
  · have : Nat.beq t d = false := by
      cases hb : Nat.beq t d with
      | false => rfl
      | true => exact absurd (Nat.eq_of_beq_eq_true hb) h
    rw [this, if_neg h]
def evF (σ : Fm) : Opd → AV
  | .tmp t => σ t
  | .cst a => a
theorem evF_tmp (σ : Fm) (t : Nat) : evF σ (.tmp t) = σ t := rfl
theorem evF_cst (σ : Fm) (a : AV) : evF σ (.cst a) = a := rfl
def wantF (g : Option (Nat × Bool)) (σ : Fm) : Bool :=
  match g with
  | none => true
  | some (d, b) => match σ d with
    | .v (.bool t) => t == b
    | _ => false
def opF (P : Program) (w0 : World) (op : IOp) (σ : Fm) (h : AH) (K : AV → AH → Prop) : Prop :=
  match op with
  | .app sz eb x y => match evF σ x with
    | .row id off len cap => AppR sz eb h id off len cap (srcRows sz h (evF σ y)) K
    | _ => match istep (.app sz eb x y) (evF σ) h with
      | some (v, h') => K v h'
      | none => False
  | .call f xs => Call P w0 f (xs.map (evF σ)) h K
  | .callv x xs => match evF σ x with
    | .func (.func f) first caps => Call P w0 f (first ++ xs.map (evF σ) ++ caps) h K
    | .func (.yield l) [] [] => Yld P w0 l (xs.map (evF σ)) h K
    | _ => False
  | op => match istep op (evF σ) h with
    | some (v, h') => K v h'
    | none => False
def opsF (P : Program) (w0 : World) : List IOper → (Fm → AH → Prop) → Fm → AH → Prop
  | [], Q, σ, h => Q σ h
  | o :: os, Q, σ, h => if wantF o.guard σ then opF P w0 o.op σ h fun v h' => opsF P w0 os Q (up σ o.dst v) h' else opsF P w0 os Q (up σ o.dst (.v undef)) h
def stabF (o : IOper) (σ : Fm) (h : AH) : Prop :=
  if wantF o.guard σ then match istep o.op (evF σ) h with
    | some (v, _) => match o.dst with
      | some d => σ d = v
      | none => True
    | none => False
  else True
def stabsF : List IOper → Fm → AH → Prop
  | [], _, _ => True
  | o :: os, σ, h => stabF o σ h ∧ stabsF os σ h
def dopsF (P : Program) (w0 : World) : List (IOper × List IOper) → (Fm → AH → Prop) → Fm → AH → Prop
  | [], Q, σ, h => Q σ h
  | (o, cs) :: os, Q, σ, h => if wantF o.guard σ then opF P w0 o.op σ h fun v h' => stabsF cs (up σ o.dst v) h' ∧ dopsF P w0 os Q (up σ o.dst v) h' else dopsF P w0 os Q (up σ o.dst (.v undef)) h
def seqF (K : Fm → AH → Prop) (Q : AExit → Fm → AH → Prop) : AExit → Fm → AH → Prop
  | .normal, σ, h => K σ h
  | .exit i, σ, h => Q (.exit i) σ h
  | .ret, σ, h => Q .ret σ h
def blkF (id : Nat) (Q : AExit → Fm → AH → Prop) : AExit → Fm → AH → Prop
  | .normal, σ, h => Q .normal σ h
  | .exit i, σ, h => if i = id then Q .normal σ h else Q (.exit i) σ h
  | .ret, σ, h => Q .ret σ h

def frF (fr : List AV) : Fm := fun t => fr.getD t (.v undef)
def liftQ (Q : AExit → Fm → AH → Prop) : AExit → List AV → AH → Prop := fun e fr h => Q e (frF fr) h
/-- A loop, by its frame. -/
def LpF (P : Program) (w0 : World) (n : Nat) (b : IC) (Q : AExit → Fm → AH → Prop) (σ : Fm) (h : AH) : Prop :=
  ∀ fr : List AV, fr.length = n → frF fr = σ → Lp P w0 b (fun e fr h => fr.length = n ∧ liftQ Q e fr h) fr h
def dallF (P : Program) (w0 : World) : List (List (IOper × List IOper)) → (Fm → AH → Prop) → Fm → AH → Prop
  | [], _, _, _ => True
  | l :: ls, Q, σ, h => dopsF P w0 l Q σ h ∧ dallF P w0 ls Q σ h
def vcF (P : Program) (w0 : World) (n : Nat) : IC → (AExit → Fm → AH → Prop) → Fm → AH → Prop
  | .skip, Q, σ, h => Q .normal σ h
  | .region ops, Q, σ, h => opsF P w0 ops (Q .normal) σ h
  | .dregion ops, Q, σ, h => dopsF P w0 ops (Q .normal) σ h
  | .dalts ls, Q, σ, h => dallF P w0 ls (Q .normal) σ h
  | .seq a b, Q, σ, h => vcF P w0 n a (seqF (vcF P w0 n b Q) Q) σ h
  | .cond x a b, Q, σ, h => match evF σ x with
    | .v (.bool t) => if t then vcF P w0 n a Q σ h else vcF P w0 n b Q σ h
    | _ => False
  | .block id b, Q, σ, h => vcF P w0 n b (blkF id Q) σ h
  | .loop b, Q, σ, h => LpF P w0 n b Q σ h
  | .exit id, Q, σ, h => Q (.exit id) σ h
  | .ret, Q, σ, h => Q .ret σ h

/-! every slot that is written is there -/
def opOk (n : Nat) (o : IOper) : Bool := match o.dst with
  | some d => Nat.blt d n
  | none => true
def icOk (n : Nat) : IC → Bool
  | .region ops => ops.all (opOk n)
  | .dregion ops => ops.all fun p => opOk n p.1
  | .dalts ls => ls.all fun l => l.all fun p => opOk n p.1
  | .seq a b => icOk n a && icOk n b
  | .cond _ a b => icOk n a && icOk n b
  | .block _ b => icOk n b
  | .loop b => icOk n b
  | _ => true

section
variable {P : Program} {w0 : World} {n : Nat}

theorem frF_put {fr : List AV} (hl : fr.length = n) {o : IOper} (ho : opOk n o = true) (v : AV) : (put fr o.dst v).length = n ∧ frF (put fr o.dst v) = up (frF fr) o.dst v := by
  unfold opOk at ho
  cases hd : o.dst with
  | none => exact ⟨hl, rfl⟩
  | some d =>
    rw [hd] at ho
    simp only [Nat.blt_eq] at ho
    refine ⟨by simp [put, hl], funext fun t => ?_⟩
    simp only [frF, up_at, put, List.getD_eq_getElem?_getD]
    by_cases h : t = d
    · subst h; simp [hl, ho]
    · rw [if_neg h, List.getElem?_set_ne (fun e => h e.symm)]
theorem evF_eq (fr : List AV) : ev fr = evF (frF fr) := funext fun x => by cases x <;> rfl
theorem wantF_eq (g : Option (Nat × Bool)) (fr : List AV) : wantd g fr = wantF g (frF fr) := by cases g <;> rfl
theorem opF_sound {op : IOp} {fr : List AV} {h : AH} {K K' : AV → AH → Prop} (hv : opF P w0 op (frF fr) h K) (hK : ∀ v h', K v h' → K' v h') : vcOp P w0 op fr h K' := by
  have : vcOp P w0 op fr h K := by
    cases op <;> simp only [opF, vcOp, ← evF_eq] at hv ⊢ <;> exact hv
  exact vcOp_mono hK this
theorem opsF_sound : ∀ {os : List IOper} {Q : Fm → AH → Prop} {fr : List AV} {h : AH}, fr.length = n → os.all (opOk n) = true → opsF P w0 os Q (frF fr) h → vcOps P w0 os (fun fr h => fr.length = n ∧ Q (frF fr) h) fr h
  | [], Q, fr, h, hl, _, hv => ⟨hl, hv⟩
  | o :: os, Q, fr, h, hl, hok, hv => by
    simp only [List.all_cons, Bool.and_eq_true] at hok
    simp only [opsF, ← wantF_eq] at hv
    simp only [vcOps]
    split at hv
    · rename_i hw
      rw [if_pos hw]
      refine opF_sound hv fun v h' hk => ?_
      obtain ⟨h1, h2⟩ := frF_put hl hok.1 v
      exact opsF_sound h1 hok.2 (by rw [h2]; exact hk)
    · rename_i hw
      rw [if_neg hw]
      obtain ⟨h1, h2⟩ := frF_put hl hok.1 (.v undef)
      exact opsF_sound h1 hok.2 (by rw [h2]; exact hv)
theorem stabsF_sound : ∀ {cs : List IOper} {fr : List AV} {h : AH}, stabsF cs (frF fr) h → stabs cs fr h
  | [], _, _, _ => trivial
  | o :: os, fr, h, hs => by
    refine ⟨?_, stabsF_sound hs.2⟩
    have := hs.1
    simp only [stabF, ← wantF_eq, ← evF_eq] at this
    exact this
theorem dopsF_sound : ∀ {os : List (IOper × List IOper)} {Q : Fm → AH → Prop} {fr : List AV} {h : AH}, fr.length = n → os.all (fun p => opOk n p.1) = true → dopsF P w0 os Q (frF fr) h → vcD P w0 os (fun fr h => fr.length = n ∧ Q (frF fr) h) fr h
  | [], Q, fr, h, hl, _, hv => ⟨hl, hv⟩
  | (o, cs) :: os, Q, fr, h, hl, hok, hv => by
    simp only [List.all_cons, Bool.and_eq_true] at hok
    simp only [dopsF, ← wantF_eq] at hv
    simp only [vcD]
    split at hv
    · rename_i hw
      rw [if_pos hw]
      refine opF_sound hv fun v h' hk => ?_
      obtain ⟨h1, h2⟩ := frF_put hl hok.1 v
      exact ⟨stabsF_sound (by rw [h2]; exact hk.1), dopsF_sound h1 hok.2 (by rw [h2]; exact hk.2)⟩
    · rename_i hw
      rw [if_neg hw]
      obtain ⟨h1, h2⟩ := frF_put hl hok.1 (.v undef)
      exact dopsF_sound h1 hok.2 (by rw [h2]; exact hv)

theorem vcOps_mono : ∀ {os : List IOper} {Q Q' : List AV → AH → Prop} {fr : List AV} {h : AH}, (∀ fr h, Q fr h → Q' fr h) → vcOps P w0 os Q fr h → vcOps P w0 os Q' fr h
  | [], Q, Q', fr, h, hQ, hv => hQ _ _ hv
  | o :: os, Q, Q', fr, h, hQ, hv => by
    simp only [vcOps] at hv ⊢
    split at hv
    · rename_i hw; rw [if_pos hw]; exact vcOp_mono (fun v h' hk => vcOps_mono hQ hk) hv
    · rename_i hw; rw [if_neg hw]; exact vcOps_mono hQ hv
theorem vcD_mono : ∀ {os : List (IOper × List IOper)} {Q Q' : List AV → AH → Prop} {fr : List AV} {h : AH}, (∀ fr h, Q fr h → Q' fr h) → vcD P w0 os Q fr h → vcD P w0 os Q' fr h
  | [], Q, Q', fr, h, hQ, hv => hQ _ _ hv
  | (o, cs) :: os, Q, Q', fr, h, hQ, hv => by
    simp only [vcD] at hv ⊢
    split at hv
    · rename_i hw; rw [if_pos hw]; exact vcOp_mono (fun v h' hk => ⟨hk.1, vcD_mono hQ hk.2⟩) hv
    · rename_i hw; rw [if_neg hw]; exact vcD_mono hQ hv
theorem Lp.mono {b : IC} {Q Q' : AExit → List AV → AH → Prop} (hQ : ∀ e fr h, Q e fr h → Q' e fr h) {fr : List AV} {h : AH} (hl : Lp P w0 b Q fr h) : Lp P w0 b Q' fr h := fun rows c hc ro Γ w a H hf =>
  wpIn_mono (hl rows c hc ro Γ w a H hf) fun e a w hp => by
    obtain ⟨hd, ae, Γ', fr', h', h1, h2, h3, h4, h5⟩ := hp
    exact ⟨hd, ae, Γ', fr', h', h1, h2, h3, h4, hQ _ _ _ h5⟩
theorem vc_mono : ∀ {ic : IC} {Q Q' : AExit → List AV → AH → Prop}, (∀ e fr h, Q e fr h → Q' e fr h) → ∀ {fr : List AV} {h : AH}, vc P w0 ic Q fr h → vc P w0 ic Q' fr h
  | .skip, Q, Q', hQ, fr, h, hv => hQ _ _ _ hv
  | .region ops, Q, Q', hQ, fr, h, hv => vcOps_mono (fun fr h hh => hQ _ _ _ hh) hv
  | .dregion ops, Q, Q', hQ, fr, h, hv => vcD_mono (fun fr h hh => hQ _ _ _ hh) hv
  | .dalts ls, Q, Q', hQ, fr, h, hv => fun l hl => vcD_mono (fun fr h hh => hQ _ _ _ hh) (hv l hl)
  | .seq a b, Q, Q', hQ, fr, h, hv => vc_mono (ic := a) (fun e fr h hh => by
      cases e with
      | normal => exact vc_mono (ic := b) hQ hh
      | exit i => exact hQ _ _ _ hh
      | ret => exact hQ _ _ _ hh) hv
  | .cond x a b, Q, Q', hQ, fr, h, hv => by
    simp only [vc] at hv ⊢
    split at hv
    · split at hv
      · rename_i ht; rw [if_pos ht]; exact vc_mono hQ hv
      · rename_i ht; rw [if_neg ht]; exact vc_mono hQ hv
    · exact hv.elim
  | .block id b, Q, Q', hQ, fr, h, hv => vc_mono (ic := b) (fun e fr h hh => by
      cases e with
      | normal => exact hQ _ _ _ hh
      | exit i =>
        simp only [blkQ] at hh ⊢
        split at hh
        · rename_i hi; rw [if_pos hi]; exact hQ _ _ _ hh
        · rename_i hi; rw [if_neg hi]; exact hQ _ _ _ hh
      | ret => exact hQ _ _ _ hh) hv
  | .loop b, Q, Q', hQ, fr, h, hv => Lp.mono hQ hv
  | .exit id, Q, Q', hQ, fr, h, hv => hQ _ _ _ hv
  | .ret, Q, Q', hQ, fr, h, hv => hQ _ _ _ hv

theorem dallF_sound : ∀ {ls : List (List (IOper × List IOper))} {Q : Fm → AH → Prop} {fr : List AV} {h : AH}, fr.length = n → (ls.all fun l => l.all fun p => opOk n p.1) = true → dallF P w0 ls Q (frF fr) h → ∀ l ∈ ls, vcD P w0 l (fun fr h => fr.length = n ∧ Q (frF fr) h) fr h
  | [], Q, fr, h, hl, _, hv => fun l hm => by cases hm
  | l :: ls, Q, fr, h, hl, hok, hv => fun l' hm => by
    simp only [List.all_cons, Bool.and_eq_true] at hok
    rcases List.mem_cons.1 hm with rfl | hm
    · exact dopsF_sound hl hok.1 hv.1
    · exact dallF_sound hl hok.2 hv.2 l' hm
theorem vcF_sound : ∀ {ic : IC} {Q : AExit → Fm → AH → Prop} {fr : List AV} {h : AH}, fr.length = n → icOk n ic = true → vcF P w0 n ic Q (frF fr) h → vc P w0 ic (fun e fr h => fr.length = n ∧ liftQ Q e fr h) fr h
  | .skip, Q, fr, h, hl, _, hv => ⟨hl, hv⟩
  | .region ops, Q, fr, h, hl, hok, hv => opsF_sound hl hok hv
  | .dregion ops, Q, fr, h, hl, hok, hv => dopsF_sound hl hok hv
  | .dalts ls, Q, fr, h, hl, hok, hv => dallF_sound hl hok hv
  | .seq a b, Q, fr, h, hl, hok, hv => by
    simp only [icOk, Bool.and_eq_true] at hok
    refine vc_mono (ic := a) (fun e fr h hh => ?_) (vcF_sound hl hok.1 hv)
    cases e with
    | normal => exact vcF_sound hh.1 hok.2 hh.2
    | exit i => exact hh
    | ret => exact hh
  | .cond x a b, Q, fr, h, hl, hok, hv => by
    simp only [icOk, Bool.and_eq_true] at hok
    simp only [vcF, ← evF_eq] at hv
    simp only [vc]
    split at hv
    · rename_i t he
      rw [he]
      split at hv
      · rename_i ht; simp only [if_pos ht]; exact vcF_sound hl hok.1 hv
      · rename_i ht; simp only [if_neg ht]; exact vcF_sound hl hok.2 hv
    · exact hv.elim
  | .block id b, Q, fr, h, hl, hok, hv => by
    refine vc_mono (ic := b) (fun e fr h hh => ?_) (vcF_sound hl hok hv)
    cases e with
    | normal => exact hh
    | exit i =>
      have h2 := hh.2
      simp only [liftQ, blkF] at h2
      simp only [blkQ]
      split at h2
      · rename_i hi; rw [if_pos hi]; exact ⟨hh.1, h2⟩
      · rename_i hi; rw [if_neg hi]; exact ⟨hh.1, h2⟩
    | ret => exact hh
  | .loop b, Q, fr, h, hl, hok, hv => hv fr hl rfl
  | .exit id, Q, fr, h, hl, _, hv => ⟨hl, hv⟩
  | .ret, Q, fr, h, hl, _, hv => ⟨hl, hv⟩

/-- One round, and the loop again. -/
theorem LpF.unfold {b : IC} (hok : icOk n b = true) {Q : AExit → Fm → AH → Prop} {σ : Fm} {h : AH} (hv : vcF P w0 n b (seqF (LpF P w0 n b Q) Q) σ h) : LpF P w0 n b Q σ h := by
  rintro fr hl rfl
  refine Lp.unfold (vc_mono (fun e fr h hh => ?_) (vcF_sound hl hok hv))
  cases e with
  | normal => exact hh.2 fr hh.1 rfl
  | exit i => exact hh
  | ret => exact hh
/-- A loop by what holds at each round's head, and a number that goes down. -/
theorem LpF.ind {b : IC} (hok : icOk n b = true) {Q : AExit → Fm → AH → Prop} {ι : Type} (μ : ι → Nat) (I : ι → Fm → AH → Prop)
    (round : ∀ i σ h, I i σ h → vcF P w0 n b (seqF (fun σ' h' => ∃ j, μ j < μ i ∧ I j σ' h') Q) σ h) {i : ι} {σ : Fm} {h : AH} (hi : I i σ h) : LpF P w0 n b Q σ h := by
  have key : ∀ k i σ h, μ i = k → I i σ h → LpF P w0 n b Q σ h := by
    intro k
    induction k using Nat.strongRecOn with
    | _ k ih =>
      intro i σ h hk hi
      rintro fr hl rfl
      refine Lp.unfold (vc_mono (fun e fr h hh => ?_) (vcF_sound hl hok (round i _ h hi)))
      cases e with
      | normal =>
        obtain ⟨j, hj, hI⟩ := hh.2
        exact ih (μ j) (by omega) j _ _ rfl hI fr hh.1 rfl
      | exit i => exact hh
      | ret => exact hh
  exact key _ i σ h rfl hi

/-! a function's body -/
def resF (σ : Fm) (h : AH) : ARes → Option AV
  | .tmp t => some (σ t)
  | .cell t sz => match σ t with
    | .ptr id off => match h.objs id with
      | some (.cells cs) => rd cs off sz
      | _ => none
    | _ => none
def ressF (σ : Fm) (h : AH) : List ARes → Option (List AV)
  | [] => some []
  | r :: rs => match resF σ h r, ressF σ h rs with
    | some v, some vs => some (v :: vs)
    | _, _ => none
def aresF (σ : Fm) (h : AH) : List ARes → Option AV
  | [r] => resF σ h r
  | rs => (ressF σ h rs).map .tup
def retF (rs : List ARes) (Q : AV → AH → Prop) : AExit → Fm → AH → Prop
  | .exit _, _, _ => False
  | .normal, σ, h => match aresF σ h rs with
    | some v => Q v h
    | none => False
  | .ret, σ, h => match aresF σ h rs with
    | some v => Q v h
    | none => False
theorem resF_eq (fr : List AV) (h : AH) (r : ARes) : aresOne fr h r = resF (frF fr) h r := by cases r <;> rfl
theorem ressF_eq (fr : List AV) (h : AH) : ∀ rs, aresAll fr h rs = ressF (frF fr) h rs
  | [] => rfl
  | r :: rs => by simp only [aresAll, ressF, resF_eq, ressF_eq fr h rs]; rfl
theorem aresF_eq (fr : List AV) (h : AH) (rs : List ARes) : ares fr h rs = aresF (frF fr) h rs := by
  unfold ares aresF
  split <;> simp only [resF_eq, ressF_eq]
def argF : List AV → Fm
  | [] => fun _ => .v undef
  | a :: as => fun t => match t with
    | 0 => a
    | t + 1 => argF as t
theorem argF_nil (t : Nat) : argF [] t = .v undef := rfl
theorem argF_zero (a : AV) (as : List AV) : argF (a :: as) 0 = a := rfl
theorem argF_succ (a : AV) (as : List AV) (t : Nat) : argF (a :: as) (t + 1) = argF as t := rfl
theorem argF_eq : ∀ (as : List AV) (k : Nat), frF (as ++ List.replicate k (.v undef)) = argF as
  | [], k => funext fun t => by
    simp only [frF, List.nil_append, List.getD_eq_getElem?_getD, List.getElem?_replicate]
    split <;> rfl
  | a :: as, k => funext fun t => by
    cases t with
    | zero => rfl
    | succ t => exact congrFun (argF_eq as k) t
theorem Call.bodyF {f : FuncId} {nt : Nat} {ic : IC} {rs : List ARes} (hb : HasBody P f nt ic rs) {args : List AV} {h : AH} {Q : AV → AH → Prop} (hl : Nat.ble args.length nt = true) (hok : icOk nt ic = true) (hv : vcF P w0 nt ic (retF rs Q) (argF args) h) : Call P w0 f args h Q := by
  refine Call.body hb ?_
  have hl' : args.length ≤ nt := Nat.le_of_ble_eq_true hl
  rw [← argF_eq args (nt - args.length)] at hv
  refine vc_mono (fun e fr h hh => ?_) (vcF_sound (by simp; omega) hok hv)
  have h2 := hh.2
  cases e with
  | exit i => exact h2
  | _ =>
    simp only [liftQ, retF, ← aresF_eq] at h2
    exact h2
end
end Go.Abs
