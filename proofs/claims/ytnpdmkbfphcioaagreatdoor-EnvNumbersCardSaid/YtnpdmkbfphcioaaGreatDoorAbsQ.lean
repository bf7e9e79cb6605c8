/- A program logic over abstract states, 17: a function's body; abstract heaps that grow. -/
import Derived.Test.YtnpdmkbfphcioaaGreatDoorAbsS
namespace Go.Abs
open Go Go.RowKit
set_option linter.unusedVariables false
set_option linter.unusedSimpArgs false

section
variable {P : Program} {w0 : World}

theorem run_resOne {Γ : Con} {fr : List AV} {h : AH} {w : World} {a : Act} (H : WR w0 Γ h w) (hf : FR Γ fr a) {r : ResultVar} {q : ARes} (hq : compRes P [r] = some [q]) {v : AV} (hv : aresOne fr h q = some v) :
    ∃ x, ((match r with
      | .tmp t => pure (a.tmps.getD t undef)
      | .cell b t => do loadVar t (← asAddr (a.tmps.getD b undef)) : Sem Value)).run P w = .ok x w ∧ RV Γ v x := by
  have hev : ∀ t, RV Γ (fr.getD t (.v undef)) (a.tmps.getD t undef) := fun t => hf.eval (P := P) (t := 0) (X := .tmp t) rfl
  cases r with
  | tmp t =>
    simp only [compRes, Option.map_some, Option.some.injEq, List.cons.injEq, and_true] at hq
    subst hq
    simp only [aresOne, Option.some.injEq] at hv
    subst hv
    exact ⟨_, rfl, hev t⟩
  | cell b t =>
    simp only [compRes] at hq
    split at hq
    · rename_i s rs hs hrs
      simp only [Option.some.injEq, List.cons.injEq] at hq
      obtain ⟨rfl, rfl⟩ := hq
      simp only [aresOne] at hv
      split at hv
      · rename_i id off hk
        have hx := hev b
        rw [hk] at hx
        obtain ⟨bb, hb, hxv⟩ := hx.inv_ptr
        split at hv
        · rename_i cs ho
          obtain ⟨y, hy, hyv⟩ := run_rd (P := P) hs (H.here ho hb) hv
          rw [Nat.zero_add] at hy
          refine ⟨y, ?_, hyv⟩
          simp only [hxv, asAddr, Sem.run_bind, Sem.run_pure, Result.andThen_ok, hy]
        · cases hv
      · cases hv
    · cases hq
theorem run_results {Γ : Con} {fr : List AV} {h : AH} {w : World} {a : Act} (H : WR w0 Γ h w) (hf : FR Γ fr a) {fn : Func} {rs : List ARes} (hr : compRes P fn.results.toList = some rs) {v : AV} (hv : ares fr h rs = some v) : ∃ x, (results fn a.tmps).run P w = .ok x w ∧ RV Γ v x := by
  have all : ∀ (l : List ResultVar) (rs : List ARes) (vs : List AV), compRes P l = some rs → aresAll fr h rs = some vs →
      ∃ xs : List Value, (l.mapM (fun r => (match r with
        | .tmp t => pure (a.tmps.getD t undef)
        | .cell b t => do loadVar t (← asAddr (a.tmps.getD b undef)) : Sem Value))).run P w = .ok xs w ∧ RVs Γ vs xs := by
    intro l
    induction l with
    | nil =>
      intro rs vs hr hv
      simp only [compRes, Option.some.injEq] at hr
      subst hr
      simp only [aresAll, Option.some.injEq] at hv
      subst hv
      exact ⟨[], rfl, .nil⟩
    | cons r l ih =>
      intro rs vs hr hv
      obtain ⟨q, rs', hq, hrs', rfl⟩ : ∃ q rs', compRes P [r] = some [q] ∧ compRes P l = some rs' ∧ rs = q :: rs' := by
        cases r with
        | tmp t =>
          simp only [compRes, Option.map_eq_some_iff] at hr
          obtain ⟨rs', h1, rfl⟩ := hr
          exact ⟨.tmp t, rs', by simp [compRes], h1, rfl⟩
        | cell b t =>
          simp only [compRes] at hr
          split at hr
          · rename_i s rs' hs hrs'
            injection hr with hr
            subst hr
            exact ⟨.cell b s, rs', by simp [compRes, hs], hrs', rfl⟩
          · cases hr
      simp only [aresAll] at hv
      split at hv
      · rename_i v vs' hv1 hvs
        injection hv with hv
        subst hv
        obtain ⟨x, hx, hxv⟩ := run_resOne H hf hq hv1
        obtain ⟨xs, hxs, hxsv⟩ := ih rs' vs' hrs' hvs
        refine ⟨x :: xs, ?_, .cons hxv hxsv⟩
        rw [List.mapM_cons, Sem.run_bind, hx]
        simp only [Result.andThen_ok]
        rw [Sem.run_bind, hxs]; rfl
      · cases hv
  have one : ∀ q, rs = [q] → ∃ vs, aresAll fr h rs = some vs ∧ vs = [v] := by
    intro q hq
    subst hq
    simp only [ares] at hv
    exact ⟨[v], by simp [aresAll, hv], rfl⟩
  have hlen : ∀ (l : List ResultVar) (rs : List ARes), compRes P l = some rs → rs.length = l.length := by
    intro l
    induction l with
    | nil => intro rs hr; simp only [compRes, Option.some.injEq] at hr; subst hr; rfl
    | cons r l ih =>
      intro rs hr
      cases r with
      | tmp t =>
        simp only [compRes, Option.map_eq_some_iff] at hr
        obtain ⟨rs', h1, rfl⟩ := hr
        simp [ih rs' h1]
      | cell b t =>
        simp only [compRes] at hr
        split at hr
        · rename_i s rs' hs hrs'
          injection hr with hr
          subst hr
          simp [ih rs' hrs']
        · cases hr
  have hl := hlen _ _ hr
  by_cases h1 : ∃ q, rs = [q]
  · obtain ⟨q, hq⟩ := h1
    obtain ⟨vs, hvs, rfl⟩ := one q hq
    obtain ⟨xs, hxs, hxsv⟩ := all _ _ _ hr hvs
    have hxl : xs.length = 1 := by simpa using hxsv.len
    obtain ⟨x, rfl⟩ : ∃ x, xs = [x] := by
      cases xs with
      | nil => simp at hxl
      | cons x xs => cases xs with
        | nil => exact ⟨x, rfl⟩
        | cons y ys => simp at hxl
    refine ⟨x, ?_, hxsv.at_ 0 (by simp) (by simp)⟩
    unfold results
    rw [Sem.run_bind, Array.mapM_eq_mapM_toList, Sem.run_map]
    refine Eq.trans (congrArg (fun r => (Result.andThen (Result.andThen r fun a w' => .ok a.toArray w') fun vs w' => Sem.run P (pure (if h : vs.size = 1 then vs[0] else .tuple vs)) w')) hxs) ?_
    simp
  · have hv2 : (aresAll fr h rs).map .tup = some v := by
      unfold ares at hv
      split at hv
      · exact absurd ⟨_, rfl⟩ h1
      · exact hv
    simp only [Option.map_eq_some_iff] at hv2
    obtain ⟨vs, hvs, rfl⟩ := hv2
    obtain ⟨xs, hxs, hxsv⟩ := all _ _ _ hr hvs
    have hxl : xs.length ≠ 1 := by
      intro he
      have h2 := hxsv.len
      have h3 : ∀ (rs : List ARes) (vs : List AV), aresAll fr h rs = some vs → vs.length = rs.length := by
        intro rs
        induction rs with
        | nil => intro vs hh; simp only [aresAll, Option.some.injEq] at hh; subst hh; rfl
        | cons r rs ih =>
          intro vs hh
          simp only [aresAll] at hh
          split at hh
          · rename_i v' vs' _ hvs'
            injection hh with hh
            subst hh
            simp [ih vs' hvs']
          · cases hh
      have h4 := h3 _ _ hvs
      have h5 : rs.length = 1 := by omega
      cases rs with
      | nil => simp at h5
      | cons r rs => cases rs with
        | nil => exact h1 ⟨r, rfl⟩
        | cons y ys => simp at h5
    refine ⟨.tuple xs.toArray, ?_, .tup (by simpa using hxsv.len) (fun i hi hi' => by simpa using hxsv.at_ i hi (by simpa using hi'))⟩
    unfold results
    rw [Sem.run_bind, Array.mapM_eq_mapM_toList, Sem.run_map]
    refine Eq.trans (congrArg (fun r => (Result.andThen (Result.andThen r fun a w' => .ok a.toArray w') fun vs w' => Sem.run P (pure (if h : vs.size = 1 then vs[0] else .tuple vs)) w')) hxs) ?_
    simp [hxl]

/-- A function's compiled body. -/
structure HasBody (P : Program) (f : FuncId) (nt : Nat) (ic : IC) (rs : List ARes) : Prop where
  out : ∃ fn c rows, P.funcs[f]? = some fn ∧ fn.body = some c ∧ comp P rows c = some ic ∧ fn.ntmps = nt ∧ compRes P fn.results.toList = some rs ∧ (fn.name == "runtime.NumGoroutine") = false
def getBody (P : Program) (f : FuncId) (rows : List Nat) : Option (Nat × IC × List ARes) :=
  match P.funcs[f]? with
  | some fn => match fn.body with
    | some c => match comp P rows c, compRes P fn.results.toList with
      | some ic, some rs => if fn.name == "runtime.NumGoroutine" then none else some (fn.ntmps, ic, rs)
      | _, _ => none
    | none => none
  | none => none
theorem HasBody.of {P : Program} {f : FuncId} {nt : Nat} {ic : IC} {rs : List ARes} (rows : List Nat) (h : getBody P f rows = some (nt, ic, rs)) : HasBody P f nt ic rs := by
  unfold getBody at h
  split at h
  · rename_i fn hfn
    split at h
    · rename_i c hc
      split at h
      · rename_i ic' rs' h1 h2
        split at h
        · cases h
        · rename_i hn
          simp only [Option.some.injEq, Prod.mk.injEq] at h
          obtain ⟨rfl, rfl, rfl⟩ := h
          exact ⟨fn, c, rows, hfn, hc, h1, rfl, h2, by simpa using hn⟩
      · cases h
    · cases h
  · cases h
/-- Bytes. -/
def bs (l : List UInt8) : ByteArray := ⟨l.toArray⟩
def retQ (rs : List ARes) (Q : AV → AH → Prop) : AExit → List AV → AH → Prop
  | .exit _, _, _ => False
  | _, fr, h => match ares fr h rs with
    | some v => Q v h
    | none => False
theorem Call.body {f : FuncId} {nt : Nat} {ic : IC} {rs : List ARes} (hb : HasBody P f nt ic rs) {args : List AV} {h : AH} {Q : AV → AH → Prop} (hv : vc P w0 ic (retQ rs Q) (args ++ List.replicate (nt - args.length) (.v undef)) h) : Call P w0 f args h Q := by
  obtain ⟨fn, c, rows, hfn, hbody, hcomp, hnt, hres, hname⟩ := hb.out
  refine ⟨⟨fn, hfn, by rw [hbody]; rfl, hname⟩, fun Γ w vs H hvs => ?_⟩
  have hlen := hvs.len
  have hfr : FR Γ (args ++ List.replicate (nt - args.length) (.v undef)) { tmps := vs.toArray ++ Array.replicate (fn.ntmps - vs.toArray.size) undef, defers := [] } := by
    refine ⟨by simp [hlen, hnt], fun i hi hi' => ?_⟩
    simp only [List.length_append, List.length_replicate] at hi
    by_cases hlt : i < args.length
    · rw [List.getElem_append_left hlt]
      have : i < vs.toArray.size := by simp; omega
      rw [Array.getElem_append_left this]
      simpa using hvs.at_ i hlt (by omega)
    · rw [List.getElem_append_right (by omega), Array.getElem_append_right (by simp; omega)]
      simp only [List.getElem_replicate, Array.getElem_replicate]
      exact .v _
  refine fen_calls.1 (callsIn_of_wp (F := fen none) (n := 0) hfn hbody trivial (wpIn_mono (vc_sound hcomp hv none Γ w _ H hfr) fun e a' w' hp => ?_))
  obtain ⟨hd, ae, Γ', fr', h', h1, h2, h3, h4, h5⟩ := hp
  have fin : (match ares fr' h' rs with | some v => Q v h' | none => False) → a'.defers = [] ∧ ∃ v, (results fn a'.tmps).run P w' = .ok v w' ∧ ∃ x Γ' v' h', Ending.returned v = .returned x ∧ Γ.le Γ' ∧ RV Γ' v' x ∧ WR w0 Γ' h' w' ∧ Q v' h' := by
    intro hm
    split at hm
    · rename_i v hv'
      obtain ⟨x, hx, hxv⟩ := run_results (P := P) h4 h3 hres hv'
      exact ⟨hd, x, hx, x, Γ', v, h', rfl, h2, hxv, h4, hm⟩
    · exact hm.elim
  cases e <;> cases ae <;> simp only [exitOf] at h1
  · exact fin h5
  · exact h5.elim
  · exact fin h5
end

/-! heaps that grow -/
/-- All that was there is there, as it was. -/
structure Ext (h h' : AH) : Prop where
  n : h.n ≤ h'.n
  nt : h.nt ≤ h'.nt
  objs : ∀ i, i < h.n → h'.objs i = h.objs i
  ver : ∀ t, t < h.nt → h'.ver t = h.ver t
theorem Ext.refl (h : AH) : Ext h h := ⟨Nat.le_refl _, Nat.le_refl _, fun _ _ => rfl, fun _ _ => rfl⟩
theorem Ext.trans {a b c : AH} (h : Ext a b) (k : Ext b c) : Ext a c :=
  ⟨Nat.le_trans h.n k.n, Nat.le_trans h.nt k.nt, fun i hi => (k.objs i (Nat.lt_of_lt_of_le hi h.n)).trans (h.objs i hi), fun t ht => (k.ver t (Nat.lt_of_lt_of_le ht h.nt)).trans (h.ver t ht)⟩
theorem Ext.alloc (h : AH) (o : AObj) : Ext h (h.alloc o) := ⟨by simp [AH.alloc], Nat.le_refl _, fun i hi => by simp only [AH.alloc]; rw [if_neg (by omega)], fun _ _ => rfl⟩
theorem Ext.newTok (h : AH) : Ext h h.newTok := ⟨Nat.le_refl _, by simp [AH.newTok], fun _ _ => rfl, fun t ht => by simp only [AH.newTok]; rw [if_neg (by omega)]⟩
/-- A change at what is new is none to what was there. -/
theorem Ext.set {h h' : AH} (e : Ext h h') {i : Nat} (hi : h.n ≤ i) (o : AObj) : Ext h (h'.set i o) := ⟨e.n, e.nt, fun j hj => by simp only [AH.set]; rw [if_neg (by omega)]; exact e.objs j hj, e.ver⟩
theorem Ext.bump {h h' : AH} (e : Ext h h') {t : Nat} (ht : h.nt ≤ t) : Ext h (h'.bump t) := ⟨e.n, e.nt, e.objs, fun s hs => by simp only [AH.bump]; rw [if_neg (by omega)]; exact e.ver s hs⟩
end Go.Abs
