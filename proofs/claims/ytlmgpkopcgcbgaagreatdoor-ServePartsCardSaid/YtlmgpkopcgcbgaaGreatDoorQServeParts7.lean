/- What the proof needs, part 7: A program logic over abstract states, 14: builtin calls; every operation; A program logic over abstract states, 15: every operation that has a compact form. -/
import Derived.Test.YtlmgpkopcgcbgaaGreatDoorQServeParts6
/- A program logic over abstract states, 14: builtin calls; every operation. -/
namespace Go.Abs
open Go Go.RowKit
set_option linter.unusedVariables false
set_option linter.unusedSimpArgs false

section
variable {P : Program} {w0 : World} {Γ : Con} {h : AH} {w : World} {fr : List AV} {a : Act} {e : Opd → AV}

theorem snd_slL {o : Oper} {t el : TypeId} {X : Operand} {LO HI MX : Option Operand} (hop : o.op = .slice t X LO HI MX) (ht : P.underlying t = some (.slice el)) {inf : TypeInfo} (hin : P.info? el = some inf) {x : Opd} (hx : RV Γ (e x) (a.eval X)) {lo hi mx : Option Opd} (hl : BndOk Γ e lo (LO.map a.eval)) (hh : BndOk Γ e hi (HI.map a.eval))
    (hm : BndOk Γ e mx (MX.map a.eval)) (hmh : mx.isNone || hi.isSome) (H : WR w0 Γ h w) {v : AV} {h' : AH} (hs : istep (.slL inf.size x lo hi mx) e h = some (v, h')) : Res P w0 Γ ((execOp a.eval o).run P w) v h' := by
  have hr : (execOp a.eval o).run P w = (do pure (Next.value (← Instr.sliceAt t (a.eval X) (LO.map a.eval) (HI.map a.eval) (MX.map a.eval))) : Sem Next).run P w := by unfold execOp; simp only [hop]
  have hsl : SlAt P t inf.size := ⟨_, _, ht, hin, rfl⟩
  have mxn : mx = none → MX = none := by
    intro hmx
    subst hmx
    have := hm.out
    cases MX with
    | none => rfl
    | some M => exact this.elim
  simp only [istep] at hs
  split at hs
  · rename_i sz' rows tok hk
    rw [hk] at hx
    split at hs
    · rename_i hsz
      subst hsz
      split at hs
      · rename_i b hb
        split at hs
        · rename_i a' ha
          split at hs
          · simp only [Option.some.injEq, Prod.mk.injEq] at hs
            obtain ⟨rfl, rfl⟩ := hs
            obtain rfl := mxn rfl
            obtain ⟨v, hrun, hv⟩ := run_cutL (P := P) (w := w) hsl hx hl hh hb ha
            exact Res.val hr hrun hv H
          · rename_i mo
            split at hs
            · rename_i m hmv
              split at hs
              · rename_i hbm
                simp only [Option.some.injEq, Prod.mk.injEq] at hs
                obtain ⟨rfl, rfl⟩ := hs
                have h1 := hm.out
                cases MX with
                | none => exact h1.elim
                | some M =>
                  have h2 := hh.out
                  cases hi with
                  | none => simp at hmh
                  | some ho =>
                    cases HI with
                    | none => exact h2.elim
                    | some HV =>
                      obtain ⟨v, hrun, hv⟩ := run_cutL3 (P := P) (w := w) hsl hx hl hh hm hb ha hmv hbm
                      exact Res.val hr hrun hv H
              · cases hs
            · cases hs
        · cases hs
      · cases hs
    · cases hs
  · rename_i id off len cap hk
    rw [hk] at hx
    split at hs
    · obtain rfl := mxn rfl
      split at hs
      · rename_i b hb
        split at hs
        · rename_i a' ha
          obtain ⟨v, hrun, hv1, hv2⟩ := run_cutR (P := P) (w := w) hsl hx hl hh hb ha
          split at hs
          · rename_i c
            simp only [Option.some.injEq, Prod.mk.injEq] at hs
            obtain ⟨rfl, rfl⟩ := hs
            exact Res.val hr hrun (hv1 c rfl) H
          · split at hs
            · rename_i h0
              simp only [Option.some.injEq, Prod.mk.injEq] at hs
              obtain ⟨rfl, rfl⟩ := hs
              exact Res.val hr hrun (hv2 h0) H
            · cases hs
        · cases hs
      · cases hs
    · cases hs
  · cases hs

theorem exec_builtin {o : Oper} {b : Builtin} {args : Array Operand} {ts : Array TypeId} (hop : o.op = .call { callee := .builtin b, args := args, argTypes := ts }) :
    ∃ consts, execOp a.eval o = builtin b ts o.type consts (args.map a.eval) := by
  refine ⟨args.map fun | .const _ => true | _ => false, ?_⟩
  unfold execOp
  simp only [hop]
  rfl
def LenK.ok (P : Program) (t : TypeId) : LenK → Prop
  | .str => P.underlying t = some .string
  | .sl => ∃ el, P.underlying t = some (.slice el)
  | .map => ∃ k v, P.underlying t = some (.map k v)
theorem snd_len {o : Oper} {t : TypeId} {X : Operand} (hop : o.op = .call { callee := .builtin .len, args := #[X], argTypes := #[t] }) {k : LenK} (ht : k.ok P t) {x : Opd} (hx : RV Γ (e x) (a.eval X)) (H : WR w0 Γ h w) {v : AV} {h' : AH}
    (hs : istep (.len k x) e h = some (v, h')) : Res P w0 Γ ((execOp a.eval o).run P w) v h' := by
  obtain ⟨cn, hex⟩ := exec_builtin (a := a) hop
  have hr : (execOp a.eval o).run P w = (do pure (Next.value (← Builtin.len_ #[t] o.type #[a.eval X])) : Sem Next).run P w := by rw [hex]; simp only [builtin, List.map_toArray, List.map_cons, List.map_nil]
  generalize a.eval X = xv at hx hr
  have fin : ∀ n : Nat, (Builtin.len_ #[t] o.type #[xv]).run P w = .ok (.int .i64 n) w → Res P w0 Γ ((execOp a.eval o).run P w) (.v (.int .i64 n)) h := fun n hn => Res.val hr hn (.v _) H
  simp only [istep] at hs
  split at hs
  · rename_i s hk
    rw [hk] at hx
    simp only [Option.some.injEq, Prod.mk.injEq] at hs
    obtain ⟨rfl, rfl⟩ := hs
    have hu : P.underlying t = some .string := ht
    exact fin _ (by rw [hx.inv_v]; simp [Builtin.len_, run_underlying hu, goInt])
  · rename_i sz rows tok hk
    rw [hk] at hx
    simp only [Option.some.injEq, Prod.mk.injEq] at hs
    obtain ⟨rfl, rfl⟩ := hs
    obtain ⟨el, hu⟩ := ht
    refine fin _ ?_
    rcases hx.inv_list with ⟨base, rfl, rfl, _⟩ | ⟨b, o', c, us, rfl, _⟩ <;> simp [Builtin.len_, run_underlying hu, goInt]
  · rename_i id off n cap hk
    rw [hk] at hx
    simp only [Option.some.injEq, Prod.mk.injEq] at hs
    obtain ⟨rfl, rfl⟩ := hs
    obtain ⟨el, hu⟩ := ht
    obtain ⟨b, c, _, rfl, _⟩ := hx.inv_row
    exact fin _ (by simp [Builtin.len_, run_underlying hu, goInt])
  · rename_i id hk
    rw [hk] at hx
    obtain ⟨kt, vt, hu⟩ := ht
    obtain ⟨b, hb, rfl⟩ := hx.inv_mapr
    split at hs
    · rename_i es ho
      simp only [Option.some.injEq, Prod.mk.injEq] at hs
      obtain ⟨rfl, rfl⟩ := hs
      obtain ⟨ms, clock, hh, hm⟩ := H.mapAt ho hb
      have hml := hm.len
      rw [Array.length_toList] at hml
      refine fin _ ?_
      simp only [Builtin.len_, List.getElem?_toArray, List.getElem?_cons_zero, Sem.run_bind, run_underlying hu, Result.andThen_ok, run_getMap hh, Sem.run_pure, goInt, hml]
    · cases hs
  · rename_i hk
    rw [hk] at hx
    simp only [Option.some.injEq, Prod.mk.injEq] at hs
    obtain ⟨rfl, rfl⟩ := hs
    obtain ⟨kt, vt, hu⟩ := ht
    exact fin 0 (by rw [hx.inv_v]; simp [Builtin.len_, run_underlying hu, goInt])
  · cases hs
theorem snd_cap {o : Oper} {t el : TypeId} {X : Operand} (hop : o.op = .call { callee := .builtin .cap, args := #[X], argTypes := #[t] }) (hu : P.underlying t = some (.slice el)) {x : Opd} (hx : RV Γ (e x) (a.eval X)) (H : WR w0 Γ h w) {v : AV} {h' : AH}
    (hs : istep (.cap x) e h = some (v, h')) : Res P w0 Γ ((execOp a.eval o).run P w) v h' := by
  obtain ⟨cn, hex⟩ := exec_builtin (a := a) hop
  have hr : (execOp a.eval o).run P w = (do pure (Next.value (← Builtin.cap_ #[t] o.type #[a.eval X])) : Sem Next).run P w := by rw [hex]; simp only [builtin, List.map_toArray, List.map_cons, List.map_nil]
  generalize a.eval X = xv at hx hr
  simp only [istep] at hs
  split at hs
  · rename_i id off n c hk
    rw [hk] at hx
    simp only [Option.some.injEq, Prod.mk.injEq] at hs
    obtain ⟨rfl, rfl⟩ := hs
    obtain ⟨b, c', _, rfl, _, hc⟩ := hx.inv_row
    obtain rfl := hc c rfl
    exact Res.val hr (by simp only [Builtin.cap_, List.getElem?_toArray, List.getElem?_cons_zero, Sem.run_bind, run_underlying hu, Result.andThen_ok, Sem.run_pure, goInt]) (.v _) H
  · rename_i sz rows hk
    rw [hk] at hx
    simp only [Option.some.injEq, Prod.mk.injEq] at hs
    obtain ⟨rfl, rfl⟩ := hs
    rcases hx.inv_list with ⟨base, rfl, rfl, _⟩ | ⟨b, o', c, us, rfl, _, _, _, _, _, hto⟩
    · exact Res.val hr (x := .int .i64 (0 : Nat)) (by simp only [Builtin.cap_, List.getElem?_toArray, List.getElem?_cons_zero, Sem.run_bind, run_underlying hu, Result.andThen_ok, Sem.run_pure, goInt]) (.v _) H
    · have hto' : rows.length = c := hto
      exact Res.val hr (x := .int .i64 (rows.length : Nat)) (by simp only [Builtin.cap_, List.getElem?_toArray, List.getElem?_cons_zero, Sem.run_bind, run_underlying hu, Result.andThen_ok, Sem.run_pure, goInt, hto']) (.v _) H
  · cases hs
theorem snd_app {o : Oper} {t u : TypeId} {X Y : Operand} (hop : o.op = .call { callee := .builtin .append, args := #[X, Y], argTypes := #[t, u] }) {sz eb : Nat} (ht : ElemAt P t sz eb) (hxt : slOrStr P u) (heb : 0 < eb) {x y : Opd} (hx : RV Γ (e x) (a.eval X)) (hy : RV Γ (e y) (a.eval Y)) (H : WR w0 Γ h w) {v : AV} {h' : AH}
    (hs : istep (.app sz eb x y) e h = some (v, h')) : Res P w0 Γ ((execOp a.eval o).run P w) v h' := by
  obtain ⟨cn, hex⟩ := exec_builtin (a := a) hop
  have hr : (execOp a.eval o).run P w = (do pure (Next.value (← Builtin.append_ #[t, u] o.type #[a.eval X, a.eval Y])) : Sem Next).run P w := by rw [hex]; simp only [builtin, List.map_toArray, List.map_cons, List.map_nil]
  simp only [istep] at hs
  split at hs
  · rename_i sz' rows tok new hk hsrc
    rw [hk] at hx
    split at hs
    · rename_i hsz
      subst hsz
      split at hs
      · simp only [Option.some.injEq, Prod.mk.injEq] at hs
        obtain ⟨rfl, rfl⟩ := hs
        obtain ⟨Γ', v, w', hrun, hle, hv, HW⟩ := run_app (P := P) (ty := o.type) ht hxt heb H hx hy hsrc (tok' := tok) (h' := h) (by simp)
        rw [List.append_nil] at hv
        exact Res.valw hr hrun hle hv HW
      · rename_i r new
        split at hs
        · rename_i tok' h1 htok
          split at hs
          · rename_i hb
            simp only [Option.some.injEq, Prod.mk.injEq] at hs
            obtain ⟨rfl, rfl⟩ := hs
            obtain ⟨Γ', v, w', hrun, hle, hv, HW⟩ := run_app (P := P) (ty := o.type) ht hxt heb H hx hy hsrc (tok' := tok') (h' := h1) (by rw [if_neg (by simp)]; exact ⟨htok, by simpa using hb⟩)
            exact Res.valw hr hrun hle hv HW
          · cases hs
        · cases hs
    · cases hs
  · cases hs
theorem snd_mnx {o : Oper} {args : Array Operand} {ts : Array TypeId} {mx : Bool} (hop : o.op = .call { callee := .builtin (if mx then .max else .min), args := args, argTypes := ts }) {xs : List Opd} (hxs : clist P args.toList = some xs) (hf : FR Γ fr a) (H : WR w0 Γ h w) {v : AV} {h' : AH}
    (hs : istep (.mnx mx xs) (ev fr) h = some (v, h')) : Res P w0 Γ ((execOp a.eval o).run P w) v h' := by
  obtain ⟨cn, hex⟩ := exec_builtin (a := a) hop
  have hrv := clist_inv hf hxs
  have hr : (execOp a.eval o).run P w = (do pure (Next.value (← (if mx then Builtin.max_ ts o.type (args.map a.eval) else Builtin.min_ ts o.type (args.map a.eval) : Sem Value))) : Sem Next).run P w := by
    rw [hex]; cases mx <;> simp [builtin]
  have fold : ∀ (l : List AV) (us : List Value) (k : IntKind) (n : Int) (m : Int), RVs Γ l us → l.foldl (fun (s : Option Int) y => match s, y with
        | some a, .v (.int _ b) => some (if mx then (if b > a then b else a) else (if b < a then b else a))
        | _, _ => none) (some n) = some m → (us.foldlM (if mx then Builtin.max2 else Builtin.min2) (.int k n) : Sem Value).run P w = .ok (.int k m) w := by
    intro l
    induction l with
    | nil =>
      intro us k n m hrv hfo
      have : us = [] := List.eq_nil_of_length_eq_zero (by simpa using hrv.len)
      subst this
      simp only [List.foldl_nil, Option.some.injEq] at hfo
      subst hfo; rfl
    | cons y l ih =>
      intro us k n m hrv hfo
      cases us with
      | nil => have := hrv.len; simp at this
      | cons u us =>
        have h0 := hrv.at_ 0 (by simp) (by simp)
        simp only [List.getElem_cons_zero] at h0
        have hr' : RVs Γ l us := ⟨by have := hrv.len; simpa using this, fun i hi hi' => hrv.at_ (i + 1) (by simpa using hi) (by simpa using hi')⟩
        have hnone : ∀ l : List AV, l.foldl (fun (s : Option Int) y => match s, y with
            | some a, .v (.int _ b) => some (if mx then (if b > a then b else a) else (if b < a then b else a))
            | _, _ => none) none = none := by
          intro l; induction l with
          | nil => rfl
          | cons a l ih => simpa using ih
        rw [List.foldl_cons] at hfo
        cases y with
        | v yv =>
          cases yv with
          | int k' b =>
            rw [h0.inv_v]
            simp only at hfo
            have := ih us k _ m hr' hfo
            rw [List.foldlM_cons, Sem.run_bind]
            cases mx
            · simp only [Bool.false_eq_true, if_false] at this ⊢
              simp only [Builtin.min2, Sem.run_pure, Result.andThen_ok]; exact this
            · simp only [if_true] at this ⊢
              simp only [Builtin.max2, Sem.run_pure, Result.andThen_ok]; exact this
          | _ => simp only at hfo; rw [hnone] at hfo; cases hfo
        | _ => simp only at hfo; rw [hnone] at hfo; cases hfo
  simp only [istep] at hs
  split at hs
  · rename_i k n r hk
    rw [hk] at hrv
    simp only [Option.map_eq_some_iff, Prod.mk.injEq] at hs
    obtain ⟨m, hm, rfl, rfl⟩ := hs
    have hlist : ∃ us, (args.map a.eval).toList = .int k n :: us ∧ RVs Γ r us := by
      rw [Array.toList_map]
      cases hargs : args.toList.map a.eval with
      | nil => rw [hargs] at hrv; have := hrv.len; simp at this
      | cons u us =>
        rw [hargs] at hrv
        have h0 := hrv.at_ 0 (by simp) (by simp)
        simp only [List.getElem_cons_zero] at h0
        exact ⟨us, by rw [h0.inv_v], ⟨by have := hrv.len; simpa using this, fun i hi hi' => hrv.at_ (i + 1) (by simpa using hi) (by simpa using hi')⟩⟩
    obtain ⟨us, hus, hrs⟩ := hlist
    have := fold r us k n m hrs hm
    refine Res.val hr (x := .int k m) ?_ (.v _) H
    cases mx
    · simp only [Bool.false_eq_true, if_false] at this ⊢
      unfold Builtin.min_; rw [hus]; exact this
    · simp only [if_true] at this ⊢
      unfold Builtin.max_; rw [hus]; exact this
  · cases hs
theorem snd_cpy {o : Oper} {t u el : TypeId} {X Y : Operand} (hop : o.op = .call { callee := .builtin .copy, args := #[X, Y], argTypes := #[t, u] }) (ht : P.underlying t = some (.slice el)) {inf : TypeInfo} (hin : P.info? el = some inf) {x y : Opd} (hx : RV Γ (e x) (a.eval X)) (hy : RV Γ (e y) (a.eval Y)) (H : WR w0 Γ h w) {v : AV} {h' : AH}
    (hs : istep (.cpy inf.size x y) e h = some (v, h')) : Res P w0 Γ ((execOp a.eval o).run P w) v h' := by
  obtain ⟨cn, hex⟩ := exec_builtin (a := a) hop
  have hr : (execOp a.eval o).run P w = (do pure (Next.value (← Builtin.copy_ #[t, u] o.type #[a.eval X, a.eval Y])) : Sem Next).run P w := by rw [hex]; simp only [builtin, List.map_toArray, List.map_cons, List.map_nil]
  generalize a.eval X = xv at hx hr
  generalize a.eval Y = yv at hy hr
  simp only [istep] at hs
  split at hs
  · rename_i id off len cap new hk hsrc
    rw [hk] at hx
    split at hs
    · rename_i cs ho
      split at hs
      · rename_i hle
        simp only [Option.some.injEq, Prod.mk.injEq] at hs
        obtain ⟨rfl, rfl⟩ := hs
        obtain ⟨b, c, hb, rfl, _⟩ := hx.inv_row
        obtain ⟨us, hly, hfn, hcs, hul, hrsz, hcl⟩ := srcRows_sound (P := P) H hsrc hy
        have hsub : Cells Γ (new.take len).flatten (us.take (len * inf.size)) := by
          have := hcs.part 0 (len * inf.size)
          have e1 := flat_part hrsz 0 len
          simp only [List.drop_zero, Nat.zero_mul] at this e1
          rw [e1]; exact this
        have hfl : (new.take len).flatten.length = (min new.length len) * inf.size := by
          rw [flat_len (sz := inf.size) (fun r hr => hrsz r (List.mem_of_mem_take hr)), List.length_take, Nat.min_comm]
        have hmin : Nat.min new.length len = min new.length len := rfl
        obtain ⟨w', hst, HW⟩ := H.store P ho hb hsub (off := off) (by
          rw [hfl]
          have : min new.length len * inf.size ≤ len * inf.size := Nat.mul_le_mul_right _ (Nat.min_le_right _ _)
          omega)
        have hfc : (Builtin.firstCells inf.size (Nat.min new.length len) yv).run P w = .ok (us.take (len * inf.size)).toArray w := by
          have hutake : us.take (len * inf.size) = us.take ((min new.length len) * inf.size) := by
            by_cases hh : new.length ≤ len
            · rw [Nat.min_eq_left hh, List.take_of_length_le (by rw [hul]; exact Nat.mul_le_mul_right _ hh), List.take_of_length_le (by rw [hul]; exact Nat.le_refl _)]
            · rw [Nat.min_eq_right (by omega)]
          rw [hutake, hmin]
          have hfull := hfn w (fun a v hv => hv)
          cases yv with
          | slice base n2 c2 =>
            simp only [Builtin.lenOf, Sem.run_pure, Result.ok.injEq, and_true] at hly
            subst hly
            cases base with
            | none =>
              simp only [Builtin.firstCells, Sem.run_pure, Result.ok.injEq, and_true] at hfull ⊢
              have : us = [] := List.eq_nil_of_length_eq_zero (by have := congrArg Array.size hfull; simpa using this.symm)
              simp [this]
            | some ad =>
              have hlen2 : (us.take ((min new.length len) * inf.size)).length = (min new.length len) * inf.size := by
                rw [List.length_take, hul]
                exact Nat.min_eq_left (Nat.mul_le_mul_right _ (Nat.min_le_left _ _))
              refine run_firstCells_some (P := P) w inf.size (min new.length len) ad _ c2 _ hlen2 (fun j v hv => ?_)
              have hv2 : us[j]? = some v := by
                rw [List.getElem?_take] at hv
                split at hv
                · exact hv
                · cases hv
              obtain ⟨hj, rfl⟩ := List.getElem?_eq_some_iff.1 hv2
              cases ad with
              | mk bb oo sp =>
                have hsp : sp = none := by
                  unfold srcRows at hsrc
                  split at hsrc
                  · rename_i hkk; rw [hkk] at hy
                    split at hsrc
                    · injection hsrc with hsrc
                      rcases hy.inv_list with ⟨_, _, hh, _⟩ | ⟨_, _, _, _, hh, _⟩
                      · exfalso
                        rw [← hsrc, hh] at hul
                        rw [hul] at hj
                        simp at hj
                      · injection hh with h1 h2 h3; injection h1 with h1; injection h1
                    · cases hsrc
                  · rename_i hkk; rw [hkk] at hy; have := hy.inv_v; cases this
                  · rename_i hkk; rw [hkk] at hy; obtain ⟨_, _, _, hh, _⟩ := hy.inv_row; injection hh with h1 h2 h3; injection h1 with h1; injection h1
                  · cases hsrc
                subst hsp
                rw [addr_add]; exact hcl bb oo _ _ rfl j hj
          | string s =>
            simp only [Builtin.lenOf, Sem.run_pure, Result.ok.injEq, and_true] at hly
            simp only [Builtin.firstCells, Sem.run_pure, Result.ok.injEq, and_true] at hfull ⊢
            have hs1 : inf.size = 1 := by
              unfold srcRows at hsrc
              split at hsrc
              · rename_i hkk; rw [hkk] at hy; rcases hy.inv_list with ⟨_, hh, _⟩ | ⟨_, _, _, _, hh, _⟩ <;> cases hh
              · split at hsrc
                · assumption
                · cases hsrc
              · rename_i hkk; rw [hkk] at hy; obtain ⟨_, _, _, hh, _⟩ := hy.inv_row; cases hh
              · cases hsrc
            have hu2 : us = s.data.toList.map (fun b => Value.int .u8 b.toNat) := by
              have := congrArg Array.toList hfull
              rw [hly.symm] at this
              simp only [Array.toList_map, List.toList_toArray] at this
              rw [← this]
              have e2 : s.extract 0 s.size = s := by apply ByteArray.ext; simp [ByteArray.data_extract]
              rw [e2]
            rw [hs1, Nat.mul_one, hu2, ← hly]
            apply Array.ext'
            simp [ByteArray.data_extract, Array.toList_extract, List.map_take]
          | _ => simp [Builtin.lenOf] at hly
        refine Res.valw hr (x := .int .i64 (min new.length len : Nat)) (w' := w') ?_ (.refl _) (.v _) HW
        simp only [Builtin.copy_, List.getElem?_toArray, List.getElem?_cons_zero, List.getElem?_cons_succ, Sem.run_bind, run_underlying ht, Result.andThen_ok, hly, run_sizeOf' hin, hfc, hst, Sem.run_pure, goInt]
      · cases hs
    · cases hs
  · cases hs
theorem snd_del {o : Oper} {t u kt et : TypeId} {X Y : Operand} (hop : o.op = .call { callee := .builtin .delete, args := #[X, Y], argTypes := #[t, u] }) (ht : P.underlying t = some (.map kt et)) {ck : CK} (hk : ckOf P kt = some ck) {m k : Opd} (hm : RV Γ (e m) (a.eval X)) (hkk : RV Γ (e k) (a.eval Y)) (H : WR w0 Γ h w) {v : AV} {h' : AH}
    (hs : istep (.del ck m k) e h = some (v, h')) : Res P w0 Γ ((execOp a.eval o).run P w) v h' := by
  obtain ⟨cn, hex⟩ := exec_builtin (a := a) hop
  have hr : (execOp a.eval o).run P w = (do pure (Next.value (← Builtin.delete_ #[t, u] o.type #[a.eval X, a.eval Y])) : Sem Next).run P w := by rw [hex]; simp only [builtin, List.map_toArray, List.map_cons, List.map_nil]
  simp only [istep] at hs
  split at hs
  · rename_i id kv hmv hkv
    rw [hkv] at hkk
    rw [hmv] at hm
    split at hs
    · rename_i es ho
      simp only [Option.map_eq_some_iff, Prod.mk.injEq] at hs
      obtain ⟨h1, hh1, rfl, rfl⟩ := hs
      obtain ⟨w', hrun, HW⟩ := run_del (P := P) (ty := o.type) (tk := u) ht hk H hm ho hh1
      rw [hkk.inv_v] at hr
      exact Res.valw hr hrun (.refl _) (.tup rfl (fun i hi => by simp at hi)) HW
    · cases hs
  · cases hs
end
end Go.Abs
/- A program logic over abstract states, 15: every operation that has a compact form. -/
namespace Go.Abs
open Go Go.RowKit
set_option linter.unusedVariables false
set_option linter.unusedSimpArgs false

section
variable {P : Program} {w0 : World} {Γ : Con} {h : AH} {w : World} {fr : List AV} {a : Act}

theorem toList2 {α : Type} {xs : Array α} {l : List α} (h : xs.toList = l) : xs = l.toArray := by subst h; simp

theorem call_sound {o : Oper} {c : Call} (hop : o.op = .call c) {i : IOp} (hc : compCall P c = some i) (H : WR w0 Γ h w) (hf : FR Γ fr a) {v : AV} {h' : AH} (hs : istep i (ev fr) h = some (v, h')) : Res P w0 Γ ((execOp a.eval o).run P w) v h' := by
  obtain ⟨callee, args, ts⟩ := c
  unfold compCall at hc
  split at hc <;> rename_i hcal <;> (try (simp only at hcal; subst hcal))
  · -- len
    split at hc
    · rename_i X t hargs hts
      simp only at hargs hts
      obtain rfl := toList2 hargs
      obtain rfl := toList2 hts
      split at hc
      · rename_i hu
        obtain ⟨x, rfl, hx⟩ := c1_inv hc hf
        exact snd_len (k := .str) hop hu hx H hs
      · rename_i hu
        obtain ⟨x, rfl, hx⟩ := c1_inv hc hf
        exact snd_len (k := .sl) hop ⟨_, hu⟩ hx H hs
      · rename_i hu
        obtain ⟨x, rfl, hx⟩ := c1_inv hc hf
        exact snd_len (k := .map) hop ⟨_, _, hu⟩ hx H hs
      · cases hc
    · cases hc
  · -- cap
    split at hc
    · rename_i X t hargs hts
      simp only at hargs hts
      obtain rfl := toList2 hargs
      obtain rfl := toList2 hts
      split at hc
      · rename_i hu
        obtain ⟨x, rfl, hx⟩ := c1_inv hc hf
        exact snd_cap hop hu hx H hs
      · cases hc
    · cases hc
  · -- append
    split at hc
    · rename_i X Y t u hargs hts
      simp only at hargs hts
      obtain rfl := toList2 hargs
      obtain rfl := toList2 hts
      have key : ∀ el, P.underlying t = some (.slice el) → slOrStr P u → (match P.info? el with
          | some i => match i.zero with
            | some z => if z.cells.size == i.size && i.bytes != 0 && z.cells.toList.all (·.oneCell') then c2 P t X u Y (.app i.size i.bytes) else none
            | none => none
          | none => none) = some i → Res P w0 Γ ((execOp a.eval o).run P w) v h' := by
        intro el hu hxt hc
        split at hc
        · rename_i inf hin
          split at hc
          · rename_i z hz
            split at hc
            · rename_i hb
              simp only [Bool.and_eq_true, beq_iff_eq, bne_iff_ne, ne_eq] at hb
              obtain ⟨x, y, rfl, hx, hy⟩ := c2_inv hc hf
              exact snd_app hop ⟨_, _, _, hu, hin, hz, rfl, hb.1.1, rfl⟩ hxt (Nat.pos_of_ne_zero hb.1.2) hx hy H hs
            · cases hc
          · cases hc
        · cases hc
      split at hc
      · rename_i hu hv; exact key _ hu (.inl ⟨_, hv⟩) hc
      · rename_i hu hv; exact key _ hu (.inr hv) hc
      · cases hc
    · cases hc
  · -- copy
    split at hc
    · rename_i X Y t u hargs hts
      simp only at hargs hts
      obtain rfl := toList2 hargs
      obtain rfl := toList2 hts
      split at hc
      · rename_i hu
        split at hc
        · rename_i hin
          obtain ⟨x, y, rfl, hx, hy⟩ := c2_inv hc hf
          exact snd_cpy hop hu hin hx hy H hs
        · cases hc
      · cases hc
    · cases hc
  · -- min
    simp only [Option.map_eq_some_iff] at hc
    obtain ⟨xs, hxs, rfl⟩ := hc
    exact snd_mnx (mx := false) hop hxs hf H hs
  · -- max
    simp only [Option.map_eq_some_iff] at hc
    obtain ⟨xs, hxs, rfl⟩ := hc
    exact snd_mnx (mx := true) hop hxs hf H hs
  · -- delete
    split at hc
    · rename_i X Y t u hargs hts
      simp only at hargs hts
      obtain rfl := toList2 hargs
      obtain rfl := toList2 hts
      split at hc
      · rename_i hu
        split at hc
        · rename_i hck
          obtain ⟨x, y, rfl, hx, hy⟩ := c2_inv hc hf
          exact snd_del hop hu hck hx hy H hs
        · cases hc
      · cases hc
    · cases hc
  · simp only [Option.map_eq_some_iff] at hc
    obtain ⟨xs, hxs, rfl⟩ := hc
    simp [istep] at hs
  · split at hc
    · injection hc with hc
      subst hc
      simp [istep] at hs
    · cases hc
  · cases hc

theorem step_sound {rows : List Nat} {o : Oper} {i : IOp} (hc : compOp P rows o = some i) (H : WR w0 Γ h w) (hf : FR Γ fr a) {v : AV} {h' : AH} (hs : istep i (ev fr) h = some (v, h')) : Res P w0 Γ ((execOp a.eval o).run P w) v h' := by
  unfold compOp at hc
  split at hc <;> rename_i hop
  · -- move
    obtain ⟨x, rfl, hx⟩ := c1_inv hc hf
    simp only [istep, Option.some.injEq, Prod.mk.injEq] at hs
    obtain ⟨rfl, rfl⟩ := hs
    exact Res.same (by unfold execOp; simp only [hop]; rfl) hx H
  · obtain ⟨x, rfl, hx⟩ := c1_inv hc hf
    simp only [istep, Option.some.injEq, Prod.mk.injEq] at hs
    obtain ⟨rfl, rfl⟩ := hs
    exact Res.same (by unfold execOp; simp only [hop]; rfl) hx H
  · -- pick
    obtain ⟨x, y, z, rfl, hx, hy, hz⟩ := c3_inv hc hf
    simp only [istep] at hs
    split at hs
    · rename_i t ht
      rw [ht] at hx
      simp only [Option.some.injEq, Prod.mk.injEq] at hs
      obtain ⟨rfl, rfl⟩ := hs
      cases t
      · exact Res.same (by unfold execOp; simp only [hop, hx.inv_v, asBool]; rfl) hz H
      · exact Res.same (by unfold execOp; simp only [hop, hx.inv_v, asBool]; rfl) hy H
    · cases hs
  · -- alloc
    simp only [Option.map_eq_some_iff] at hc
    obtain ⟨z, hz, rfl⟩ := hc
    split at hs
    · rename_i hkb
      exact snd_newT (e := ev fr) hop hz (by simp only [Bool.and_eq_true] at hkb; exact hkb.2) H hs
    · exact snd_new (e := ev fr) hop hz H hs
  · obtain ⟨x, rfl, hx⟩ := c1_inv hc hf
    exact snd_box hop hx H hs
  · -- build
    split at hc
    · rename_i fs z hu hz
      split at hc
      · rename_i hall
        simp only [Option.map_eq_some_iff] at hc
        obtain ⟨qs, hq, rfl⟩ := hc
        exact snd_buildS hop hu hz hall hq hf H hs
      · cases hc
    · rename_i n el z hu hz
      split at hc
      · rename_i inf hin
        simp only [Option.map_eq_some_iff] at hc
        obtain ⟨qs, hq, rfl⟩ := hc
        exact snd_buildA hop hu hz hin hq hf H hs
      · cases hc
    · cases hc
  · -- buildSlice
    split at hc
    · rename_i el hu
      split at hc
      · rename_i inf z qs hin hz hq
        split at hc
        · rename_i hb
          simp only [Bool.and_eq_true, beq_iff_eq, bne_iff_ne, ne_eq, decide_eq_true_eq] at hb
          injection hc with hc
          refine snd_lit hop hu hin hz hq hb.1.1 hb.2 hf H ((o.dst.map fun d => rows.contains d).getD false) ?_
          rw [hc]; exact hs
        · cases hc
      · cases hc
    · cases hc
  · -- load
    split at hc
    · rename_i s hag
      obtain ⟨x, rfl, hx⟩ := c1_inv hc hf
      exact snd_load hop hag hx H hs
    · cases hc
  · -- store
    split at hc
    · rename_i inf hin
      obtain ⟨x, y, rfl, hx, hy⟩ := c2_inv hc hf
      exact snd_store hop hin hx hy H hs
    · cases hc
  · obtain ⟨x, rfl, hx⟩ := c1_inv hc hf
    exact snd_nilc hop hx H hs
  · -- binOp
    split at hc
    · rename_i k hk
      obtain ⟨x, y, rfl, hx, hy⟩ := c2_inv hc hf
      exact snd_bin hop hk hx hy H hs
    · cases hc
  · obtain ⟨x, rfl, hx⟩ := c1_inv hc hf
    exact snd_un hop hx H hs
  · -- convert
    split at hc
    · rename_i hu hd
      obtain ⟨x, rfl, hx⟩ := c1_inv hc hf
      exact snd_convI hop hu hd hx H hs
    · rename_i hu hd
      obtain ⟨x, rfl, hx⟩ := c1_inv hc hf
      exact snd_convS hop hu hd hx H hs
    · rename_i hu hd
      split at hc
      · rename_i h8
        obtain ⟨x, rfl, hx⟩ := c1_inv hc hf
        exact snd_s2b hop hu hd h8 hx H hs
      · cases hc
    · rename_i hu hd
      split at hc
      · rename_i h8
        obtain ⟨x, rfl, hx⟩ := c1_inv hc hf
        exact snd_b2s hop hu hd h8 hx H hs
      · cases hc
    · rename_i hu hd
      split at hc
      · rename_i h8
        obtain ⟨x, rfl, hx⟩ := c1_inv hc hf
        simp only [Bool.and_eq_true, beq_iff_eq] at h8
        exact snd_cvb (h8.1 ▸ hop) hu h8.2 hx H hs
      · cases hc
    · cases hc
  · -- makeInterface
    split at hc
    · cases hc
    · rename_i d hd hu
      obtain ⟨x, rfl, hx⟩ := c1_inv hc hf
      exact snd_mki hop hu (fun ms e => hd ms (by rw [e])) hx H hs
    · cases hc
  · -- makeFunc
    split at hc
    · rename_i xs ys hx hy
      injection hc with hc
      subst hc
      exact snd_mkf hop hx hy hf H hs
    · cases hc
  · injection hc with hc
    subst hc
    exact snd_mkm (e := ev fr) hop H hs
  · -- makeSlice
    split at hc
    · rename_i el hu
      split at hc
      · rename_i inf z hin hz
        split at hc
        · rename_i hb
          simp only [beq_iff_eq] at hb
          obtain ⟨x, y, rfl, hx, hy⟩ := c2_inv hc hf
          exact snd_mks hop hu hin hz hb hx hy H hs
        · cases hc
      · cases hc
    · cases hc
  · -- slice
    split at hc
    · rename_i hu
      split at hc
      · rename_i x lo hi hx hlo hhi
        injection hc with hc
        subst hc
        exact snd_slS hop hu (hf.eval hx) (copt_inv hlo hf) (copt_inv hhi hf) H hs
      · cases hc
    · rename_i el hu
      split at hc
      · rename_i inf hin
        split at hc
        · rename_i x lo hi mx hx hlo hhi hmx
          split at hc
          · rename_i hmh
            injection hc with hc
            subst hc
            exact snd_slL hop hu hin (hf.eval hx) (copt_inv hlo hf) (copt_inv hhi hf) (copt_inv hmx hf) hmh H hs
          · cases hc
        · cases hc
      · cases hc
    · rename_i n el hu
      split at hc
      · rename_i inf hin
        split at hc
        · rename_i x lo hi hx hlo hhi
          injection hc with hc
          subst hc
          exact snd_slA hop hu hin (hf.eval hx) (copt_inv hlo hf) (copt_inv hhi hf) H hs
        · cases hc
      · cases hc
    · cases hc
  · -- fieldAddr
    split at hc
    · rename_i fs hu
      split at hc
      · rename_i fd hfd
        split at hc
        · rename_i inf hin
          split at hc
          · rename_i h0
            simp only [bne_iff_ne, ne_eq] at h0
            obtain ⟨x, rfl, hx⟩ := c1_inv hc hf
            exact snd_fad hop hu hfd hin h0 hx H hs
          · cases hc
        · cases hc
      · cases hc
    · cases hc
  · -- field
    split at hc
    · rename_i fs hu
      split at hc
      · rename_i fd hfd
        split at hc
        · rename_i sz hag
          obtain ⟨x, rfl, hx⟩ := c1_inv hc hf
          exact snd_fld hop hu hfd hag hx H hs
        · cases hc
      · cases hc
    · cases hc
  · -- indexAddr
    split at hc
    · rename_i el hu
      split at hc
      · rename_i inf hin
        obtain ⟨x, y, rfl, hx, hy⟩ := c2_inv hc hf
        exact snd_iaL hop hu hin hx hy H hs
      · cases hc
    · rename_i n el hu
      split at hc
      · rename_i inf hin
        obtain ⟨x, y, rfl, hx, hy⟩ := c2_inv hc hf
        exact snd_iaA hop hu hin hx hy H hs
      · cases hc
    · cases hc
  · -- index
    split at hc
    · rename_i hu
      obtain ⟨x, y, rfl, hx, hy⟩ := c2_inv hc hf
      exact snd_ixS hop hu hx hy H hs
    · rename_i n el hu
      split at hc
      · rename_i inf sz hin hag
        obtain ⟨x, y, rfl, hx, hy⟩ := c2_inv hc hf
        exact snd_ixA hop hu hin hag hx hy H hs
      · cases hc
    · cases hc
  · -- lookup
    split at hc
    · rename_i hu
      split at hc
      · rename_i ck z hck hz
        obtain ⟨x, y, rfl, hx, hy⟩ := c2_inv hc hf
        exact snd_look hop hu hck hz hx hy H hs
      · cases hc
    · cases hc
  · -- mapUpdate
    split at hc
    · rename_i hu
      split at hc
      · rename_i ck hck
        obtain ⟨x, y, z, rfl, hx, hy, hz⟩ := c3_inv hc hf
        exact snd_upd (.inl hop) hu hck hx hy hz H hs
      · cases hc
    · cases hc
  · split at hc
    · rename_i hu
      split at hc
      · rename_i ck hck
        obtain ⟨x, y, z, rfl, hx, hy, hz⟩ := c3_inv hc hf
        exact snd_upd (.inr hop) hu hck hx hy hz H hs
      · cases hc
    · cases hc
  · obtain ⟨x, rfl, hx⟩ := c1_inv hc hf
    exact snd_ext hop hx H hs
  · -- range
    split at hc
    · rename_i hu
      obtain ⟨x, rfl, hx⟩ := c1_inv hc hf
      exact snd_rng hop hu hx H hs
    · cases hc
  · obtain ⟨x, rfl, hx⟩ := c1_inv hc hf
    exact snd_nxt hop hx H hs
  · exact call_sound hop hc H hf hs
  · cases hc
end
end Go.Abs
