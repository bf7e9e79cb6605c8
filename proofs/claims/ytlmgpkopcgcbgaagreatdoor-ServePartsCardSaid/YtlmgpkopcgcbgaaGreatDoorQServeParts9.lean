/- What the proof needs, part 9: A program logic over abstract states, 17: regions whose order is drawn; A program logic over abstract states, 18: what is computed of code holds of it; A program logic over abstract states, 17: a function's body; abstract heaps that grow; A program logic over abstract states, 20: frames as functions; the form that is computed. -/
import Derived.Test.YtlmgpkopcgcbgaaGreatDoorQServeParts8
import Derived.Orders
/- A program logic over abstract states, 17: regions whose order is drawn. -/
namespace Go.Abs
open Go Go.RowKit
set_option linter.unusedVariables false
set_option linter.unusedSimpArgs false

theorem bnd_congr {e e' : Opd → AV} {x : Option Opd} (h : ∀ o ∈ x.toList, e o = e' o) (d t : Nat) : bnd e x d t = bnd e' x d t := by
  cases x with
  | none => rfl
  | some o => simp only [bnd, h o (by simp)]
theorem istep_congr {o : IOp} {e e' : Opd → AV} (h : ∀ x ∈ o.opds, e x = e' x) (H : AH) : istep o e H = istep o e' H := by
  cases o with
  | build z ps =>
    have : ps.map (fun p => (p.1, p.2.1, e p.2.2)) = ps.map (fun p => (p.1, p.2.1, e' p.2.2)) := List.map_congr_left fun p hp => by
      rw [h p.2.2 (List.mem_map.2 ⟨p, hp, rfl⟩)]
    simp only [istep, this]
  | lit sz n z ps =>
    have : ps.map (fun p => (p.1 * sz, sz, e p.2)) = ps.map (fun p => (p.1 * sz, sz, e' p.2)) := List.map_congr_left fun p hp => by
      rw [h p.2 (List.mem_map.2 ⟨p, hp, rfl⟩)]
    simp only [istep, this]
  | litRow sz n z ps =>
    have : ps.map (fun p => (p.1 * sz, sz, e p.2)) = ps.map (fun p => (p.1 * sz, sz, e' p.2)) := List.map_congr_left fun p hp => by
      rw [h p.2 (List.mem_map.2 ⟨p, hp, rfl⟩)]
    simp only [istep, this]
  | mkf fn fs cs =>
    have h1 : fs.map e = fs.map e' := List.map_congr_left fun x hx => h x (by simp [IOp.opds, hx])
    have h2 : cs.map e = cs.map e' := List.map_congr_left fun x hx => h x (by simp [IOp.opds, hx])
    simp only [istep, h1, h2]
  | slS x lo hi =>
    have h0 := h x (by simp [IOp.opds])
    have h1 := bnd_congr (x := lo) (fun o ho => h o (by simp only [IOp.opds, List.mem_cons, List.mem_append]; exact .inr (.inl ho)))
    have h2 := bnd_congr (x := hi) (fun o ho => h o (by simp only [IOp.opds, List.mem_cons, List.mem_append]; exact .inr (.inr ho)))
    simp only [istep, h0, h1, h2]
  | slA n sz x lo hi =>
    have h0 := h x (by simp [IOp.opds])
    have h1 := bnd_congr (x := lo) (fun o ho => h o (by simp only [IOp.opds, List.mem_cons, List.mem_append]; exact .inr (.inl ho)))
    have h2 := bnd_congr (x := hi) (fun o ho => h o (by simp only [IOp.opds, List.mem_cons, List.mem_append]; exact .inr (.inr ho)))
    simp only [istep, h0, h1, h2]
  | slL sz x lo hi mx =>
    have h0 := h x (by simp [IOp.opds])
    have h1 := bnd_congr (x := lo) (fun o ho => h o (by simp only [IOp.opds, List.mem_cons, List.mem_append]; exact .inr (.inl ho)))
    have h2 := bnd_congr (x := hi) (fun o ho => h o (by simp only [IOp.opds, List.mem_cons, List.mem_append]; exact .inr (.inr (.inl ho))))
    have h3 := bnd_congr (x := mx) (fun o ho => h o (by simp only [IOp.opds, List.mem_cons, List.mem_append]; exact .inr (.inr (.inr ho))))
    simp only [istep, h0, h1, h2, h3]
  | mnx mx xs =>
    have : xs.map e = xs.map e' := List.map_congr_left fun x hx => h x hx
    simp only [istep, this]
  | _ =>
    simp only [IOp.opds, List.mem_cons, List.not_mem_nil, or_false, forall_eq_or_imp, forall_eq] at h
    simp only [istep, h]

theorem quiet_same {o : IOp} (hq : o.quiet = true) {e : Opd → AV} {H H' : AH} {v : AV} (hs : istep o e H = some (v, H')) : H' = H := by
  cases o with
  | s2b row x => cases row with
    | true => simp [IOp.quiet] at hq
    | false => simp only [istep] at hs; split at hs <;> simp_all
  | len k x => simp only [istep] at hs; (repeat' split at hs) <;> simp_all
  | slL sz x lo hi mx => simp only [istep] at hs; (repeat' split at hs) <;> simp_all
  | _ =>
    first
      | (simp [IOp.quiet] at hq; done)
      | (simp only [istep] at hs; (repeat' split at hs) <;> simp_all <;> (obtain ⟨_, _, _, hh⟩ := hs; exact hh.symm))
      | (simp only [istep] at hs; (repeat' split at hs) <;> simp_all)
theorem pure_any {o : IOp} (hq : o.pure = true) {e : Opd → AV} {H : AH} {v : AV} (hs : istep o e H = some (v, H)) (H2 : AH) : istep o e H2 = some (v, H2) := by
  cases o with
  | s2b row x => cases row with
    | true => simp [IOp.pure] at hq
    | false => simp only [istep] at hs ⊢; split at hs <;> simp_all
  | len k x => cases k <;> first | (simp [IOp.pure] at hq; done) | (simp only [istep] at hs ⊢; (repeat' split at hs) <;> simp_all)
  | slL sz x lo hi mx => simp only [istep] at hs ⊢; (repeat' split at hs) <;> simp_all
  | _ =>
    first
      | (simp [IOp.pure] at hq; done)
      | (simp only [istep] at hs ⊢; (repeat' split at hs) <;> simp_all)
      | (simp only [istep, Option.map_eq_some_iff, Prod.mk.injEq] at hs ⊢; (repeat' split at hs) <;> simp_all)

/-! what the checks say -/
/-- What is said to stand ahead does, by the region's edges. -/
def AOk (ops : Array Oper) (A : Nat → List Nat) : Prop := ∀ {i : Nat}, i < ops.size → ∀ j ∈ A i, ∃ o, ops[i]? = some o ∧ ∃ e ∈ o.after, Region.binds .any e = true ∧ (e.on = j ∨ j ∈ A e.on)
structure DOk (P : Program) (rows : List Nat) (ops : Array Oper) (is : List IOper) (A : Nat → List Nat) (ld : Nat → Bool) : Prop where
  at_ : ∀ {i : Nat} {o : Oper}, ops[i]? = some o → ∃ oi, is[i]? = some oi ∧ compOper P rows ops o = some oi
  len : is.length = ops.size
  edge : ∀ {i : Nat} {o : Oper}, ops[i]? = some o → ∀ e ∈ o.after, Region.binds .any e = true → e.on < i
  pairR : ∀ {i j : Nat} {oi oj : IOper} {d : Nat}, i ≠ j → is[i]? = some oi → is[j]? = some oj → oi.dst = some d → d ∈ oj.reads → i ∈ A j ∨ ld i = true ∧ j ∈ A i
  pairW : ∀ {i j : Nat} {oi oj : IOper} {d : Nat}, i ≠ j → is[i]? = some oi → is[j]? = some oj → oi.dst = some d → oj.dst = some d → ld i = true ∧ ld j = true ∨ (ld i = true ∨ ld j = true) ∧ (j ∈ A i ∨ i ∈ A j)
  quiet : ∀ {i : Nat} {oi : IOper}, is[i]? = some oi → ld i = false → oi.op.quiet = true
  self : ∀ {i : Nat} {oi : IOper} {d : Nat}, is[i]? = some oi → ld i = false → oi.dst = some d → d ∉ oi.reads

theorem compOps_at {P : Program} {rows : List Nat} {ops : Array Oper} : ∀ {os : List Oper} {is : List IOper}, compOps P rows ops os = some is → is.length = os.length ∧ ∀ {i : Nat} {o : Oper}, os[i]? = some o → ∃ oi, is[i]? = some oi ∧ compOper P rows ops o = some oi
  | [], is, hc => by
    simp only [compOps, Option.some.injEq] at hc
    subst hc
    exact ⟨rfl, fun h => by simp at h⟩
  | o :: os, is, hc => by
    simp only [compOps] at hc
    split at hc
    · rename_i i is' hi his
      injection hc with hc
      subst hc
      obtain ⟨h1, h2⟩ := compOps_at his
      refine ⟨by simp [h1], fun {k ok} hk => ?_⟩
      cases k with
      | zero => simp only [List.getElem?_cons_zero, Option.some.injEq] at hk ⊢; subst hk; exact ⟨i, rfl, hi⟩
      | succ k => simp only [List.getElem?_cons_succ] at hk ⊢; exact h2 hk
    · cases hc

theorem mem_edgesOf {o : Oper} {k : Nat} : k ∈ edgesOf o ↔ ∃ e ∈ o.after, Region.binds .any e = true ∧ e.on = k := by
  simp only [edgesOf, List.mem_map, List.mem_filter, Array.mem_toList_iff, and_assoc]

theorem aheadOk_at {es : List (List Nat)} {A : Nat → List Nat} : ∀ {l : List Nat}, aheadOk es A l = true → ∀ {i}, i ∈ l → (∀ k ∈ es.getD i [], k < i) ∧ ∀ j ∈ A i, ∃ k ∈ es.getD i [], k = j ∨ j ∈ A k
  | [], _, i, hi => by simp at hi
  | x :: xs, h, i, hi => by
    simp only [aheadOk, Bool.and_eq_true, List.all_eq_true, List.any_eq_true, Bool.or_eq_true, beq_iff_eq, List.contains_iff_mem] at h
    obtain ⟨⟨h1, h2⟩, h3⟩ := h
    rcases List.mem_cons.1 hi with rfl | hi
    · exact ⟨fun k hk => by simpa [Nat.blt_eq] using h1 k hk, h2⟩
    · exact aheadOk_at h3 hi

theorem meet_iff {o : Option Nat} {l : List Nat} : meet o l = true ↔ ∃ d, o = some d ∧ d ∈ l := by
  cases o <;> simp [meet]
theorem mem_zipIdx' {is : List IOper} {i : Nat} {oi : IOper} (h : is[i]? = some oi) : (oi, i) ∈ is.zipIdx := by
  rw [List.mem_zipIdx_iff_getElem?]; exact h

theorem dok_of {P : Program} {rows : List Nat} {ops : Array Oper} {is : List IOper} (hc : compOps P rows ops ops.toList = some is) {A : Nat → List Nat} {ld : Nat → Bool} (hlen : is.length = ops.size)
    (edge : ∀ {i : Nat} {o : Oper}, ops[i]? = some o → ∀ e ∈ o.after, Region.binds .any e = true → e.on < i) (hpair : pairsOk A ld is.zipIdx = true) (hquiet : quietOk ld is.zipIdx = true) : DOk P rows ops is A ld := by
  refine ⟨?_, hlen, edge, ?_, ?_, ?_, ?_⟩
  · intro i o ho
    exact (compOps_at hc).2 (by simpa using ho)
  · intro i j oi oj d hne hoi hoj hdi hdr
    simp only [pairsOk, List.all_eq_true] at hpair
    have h1 := hpair _ (mem_zipIdx' hoi) _ (mem_zipIdx' hoj)
    simp only [Bool.or_eq_true, beq_iff_eq] at h1
    have h2 := h1.resolve_left hne
    simp only [pairOk, Bool.and_eq_true, Bool.or_eq_true, Bool.not_eq_true', List.contains_iff_mem] at h2
    rcases h2.1 with (h | h) | h
    · have : meet oi.dst oj.reads = true := meet_iff.2 ⟨d, hdi, hdr⟩
      rw [this] at h; cases h
    · exact .inl h
    · exact .inr h
  · intro i j oi oj d hne hoi hoj hdi hdr
    simp only [pairsOk, List.all_eq_true] at hpair
    have h1 := hpair _ (mem_zipIdx' hoi) _ (mem_zipIdx' hoj)
    simp only [Bool.or_eq_true, beq_iff_eq] at h1
    have h2 := h1.resolve_left hne
    simp only [pairOk, Bool.and_eq_true, Bool.or_eq_true, Bool.not_eq_true', List.contains_iff_mem] at h2
    rcases h2.2 with (h | h) | h
    · simp [sameDst, hdi, hdr] at h
    · exact .inl h
    · exact .inr h
  · intro i oi hoi hl
    simp only [quietOk, List.all_eq_true] at hquiet
    have h1 := hquiet _ (mem_zipIdx' hoi)
    simp only [Bool.or_eq_true, Bool.and_eq_true] at h1
    rcases h1 with h1 | h1
    · rw [hl] at h1; cases h1
    · exact h1.1
  · intro i oi d hoi hl hdi hdr
    simp only [quietOk, List.all_eq_true] at hquiet
    have h1 := hquiet _ (mem_zipIdx' hoi)
    simp only [Bool.or_eq_true, Bool.and_eq_true, Bool.not_eq_true'] at h1
    rcases h1 with h1 | h1
    · rw [hl] at h1; cases h1
    · have : meet oi.dst oi.reads = true := meet_iff.2 ⟨d, hdi, hdr⟩
      rw [this] at h1; cases h1.2
theorem edges_of {ops : Array Oper} {n : Nat} {A : Nat → List Nat} (hlen : n = ops.size) (hah : aheadOk (ops.toList.map edgesOf) A (List.range n) = true) :
    (∀ {i : Nat} {o : Oper}, ops[i]? = some o → ∀ e ∈ o.after, Region.binds .any e = true → e.on < i) ∧ AOk ops A := by
  refine ⟨?_, ?_⟩
  · intro i o ho e he hb
    have hi := (Array.getElem?_eq_some_iff.1 ho).1
    refine (aheadOk_at hah (i := i) (by simp [hlen, hi])).1 _ ?_
    have : (ops.toList.map edgesOf).getD i [] = edgesOf o := by simp [List.getD_eq_getElem?_getD, ho]
    rw [this]
    exact mem_edgesOf.2 ⟨e, he, hb, rfl⟩
  · intro i hi j hj
    obtain ⟨k, hk1, hk2⟩ := (aheadOk_at hah (i := i) (by simp [hlen, hi])).2 j hj
    refine ⟨ops[i], Array.getElem?_eq_getElem hi, ?_⟩
    have : (ops.toList.map edgesOf).getD i [] = edgesOf ops[i] := by simp [List.getD_eq_getElem?_getD, hi]
    rw [this] at hk1
    obtain ⟨e, he, hb, hon⟩ := mem_edgesOf.1 hk1
    exact ⟨e, he, hb, by rw [hon]; exact hk2⟩
theorem dcomp_inv {P : Program} {rows : List Nat} {ops : Array Oper} {is : List IOper} (hc : compOps P rows ops ops.toList = some is) {l : List (IOper × List IOper)} (hd : dcomp P ops is = some l) :
    P.follows .mixedOrders = true ∧ ∃ A ld ord, AOk ops A ∧ DOk P rows ops is A ld ∧ ordOk ops.size A ld [] ord = true ∧ l = withChecks A ld is [] ord := by
  simp only [dcomp] at hd
  split at hd
  · rename_i hk
    injection hd with hd
    simp only [Bool.and_eq_true, beq_iff_eq] at hk
    obtain ⟨⟨⟨⟨⟨hm, hlen⟩, hah⟩, hord⟩, hpair⟩, hquiet⟩ := hk
    obtain ⟨edge, ha⟩ := edges_of hlen hah
    exact ⟨hm, _, _, _, ha, dok_of hc hlen edge hpair hquiet, by rw [← hlen]; exact hord, hd.symm⟩
  · cases hd

theorem ordOk_cons {n : Nat} {A : Nat → List Nat} {ld : Nat → Bool} {T r : List Nat} {m : Nat} (h : ordOk n A ld T (m :: r) = true) :
    m < n ∧ m ∉ T ∧ (∀ k ∈ A m, k ∈ T) ∧ (∀ l ∈ T, ld l = true → l ∈ A m) ∧ ordOk n A ld (m :: T) r = true := by
  simp only [ordOk, Bool.and_eq_true, Bool.not_eq_true', List.all_eq_true, Bool.or_eq_true, List.contains_iff_mem, Nat.blt_eq] at h
  obtain ⟨⟨⟨⟨h1, h2⟩, h3⟩, h4⟩, h5⟩ := h
  refine ⟨h1, ?_, h3, fun l hl hld => (h4 l hl).resolve_left (by rw [hld]; decide), h5⟩
  intro hm
  rw [← List.contains_iff_mem, h2] at hm
  cases hm
theorem ord_later {n : Nat} {A : Nat → List Nat} {ld : Nat → Bool} : ∀ {r T : List Nat}, ordOk n A ld T r = true → ∀ {i}, i < n → i ∉ T → ∀ l ∈ T, ld l = true → l ∈ A i
  | [], T, h, i, hi, hn, l, hl, hld => by
    simp only [ordOk, List.all_eq_true, List.mem_range, List.contains_iff_mem] at h
    exact absurd (h i hi) hn
  | m :: r, T, h, i, hi, hn, l, hl, hld => by
    obtain ⟨_, _, _, h4, h5⟩ := ordOk_cons h
    by_cases hm : m = i
    · subst hm; exact h4 l hl hld
    · exact ord_later h5 hi (fun hh => by rcases List.mem_cons.1 hh with hh | hh; exact hm hh.symm; exact hn hh) l (List.mem_cons_of_mem _ hl) hld

/-! the slots -/
theorem wantd_congr {g : Option (Nat × Bool)} {fr fr' : List AV} (h : ∀ d b, g = some (d, b) → fr.getD d (.v undef) = fr'.getD d (.v undef)) : wantd g fr = wantd g fr' := by
  cases g with
  | none => rfl
  | some p => obtain ⟨d, b⟩ := p; simp only [wantd, h d b rfl]
theorem ev_congr {fr fr' : List AV} {x : Opd} (h : ∀ t ∈ x.slots, fr.getD t (.v undef) = fr'.getD t (.v undef)) : ev fr x = ev fr' x := by
  cases x with
  | tmp t => exact h t (by simp [Opd.slots])
  | cst a => rfl
structure Agree (o : IOper) (fr fr' : List AV) : Prop where
  w : wantd o.guard fr = wantd o.guard fr'
  e : ∀ x ∈ o.op.opds, ev fr x = ev fr' x
theorem Agree.of {o : IOper} {fr fr' : List AV} (h : ∀ t ∈ o.reads, fr.getD t (.v undef) = fr'.getD t (.v undef)) : Agree o fr fr' := by
  have hs : ∀ t ∈ o.op.slots, t ∈ o.reads := fun t ht => by
    unfold IOper.reads; split <;> simp [ht]
  refine ⟨wantd_congr fun d b hg => h d (by simp [IOper.reads, hg]), fun x hx => ev_congr fun t ht => h t (hs t (List.mem_flatMap.2 ⟨x, hx, ht⟩))⟩
theorem Agree.put {o : IOper} {fr : List AV} {dst : Option Nat} {v : AV} (h : ∀ d, dst = some d → d ∉ o.reads) : Agree o fr (put fr dst v) := by
  refine .of fun t ht => ?_
  cases dst with
  | none => rfl
  | some d =>
    have : d ≠ t := fun e => h d rfl (e ▸ ht)
    simp [Go.Abs.put, List.getD_eq_getElem?_getD, List.getElem?_set_ne this]
theorem vcOp_congr {P : Program} {w0 : World} {o : IOp} {fr fr' : List AV} (he : ∀ x ∈ o.opds, ev fr x = ev fr' x) {h : AH} {K : AV → AH → Prop} (hv : vcOp P w0 o fr h K) : vcOp P w0 o fr' h K := by
  have hi := istep_congr he h
  cases o with
  | call f xs =>
    have : xs.map (ev fr) = xs.map (ev fr') := List.map_congr_left fun x hx => he x hx
    simp only [vcOp, this] at hv ⊢
    exact hv
  | callv x xs =>
    have : xs.map (ev fr) = xs.map (ev fr') := List.map_congr_left fun y hy => he y (by simp [IOp.opds, hy])
    have h0 := he x (by simp [IOp.opds])
    simp only [vcOp, this, h0] at hv ⊢
    exact hv
  | app sz eb x y =>
    have h0 := he x (by simp [IOp.opds])
    have h1 := he y (by simp [IOp.opds])
    simp only [vcOp, h0, h1, hi] at hv ⊢
    exact hv
  | _ => simp only [vcOp] at hv ⊢; rw [← hi]; exact hv
theorem vcOp_mono {P : Program} {w0 : World} {o : IOp} {fr : List AV} {h : AH} {K K' : AV → AH → Prop} (hK : ∀ v h', K v h' → K' v h') (hv : vcOp P w0 o fr h K) : vcOp P w0 o fr h K' := by
  cases o with
  | call f xs => exact Call.mono hv hK
  | callv x xs =>
    simp only [vcOp] at hv ⊢
    split at hv
    · rename_i heq; exact hv.mono hK
    · exact Yld.mono hK hv
    · exact hv.elim
  | app sz eb x y =>
    simp only [vcOp] at hv ⊢
    split at hv
    · exact hv.mono hK
    · split at hv
      · exact hK _ _ hv
      · exact hv.elim
  | _ =>
    simp only [vcOp] at hv ⊢
    split at hv
    · exact hK _ _ hv
    · exact hv.elim
theorem vcOp_quiet {P : Program} {w0 : World} {o : IOp} (hq : o.quiet = true) {fr : List AV} {h : AH} {K : AV → AH → Prop} : vcOp P w0 o fr h K ↔ ∃ v, istep o (ev fr) h = some (v, h) ∧ K v h := by
  have key : vcOp P w0 o fr h K ↔ (match istep o (ev fr) h with | some (v, h') => K v h' | none => False) := by
    cases o <;> first | exact Iff.rfl | (simp [IOp.quiet] at hq; done)
  rw [key]
  constructor
  · intro hm
    split at hm
    · rename_i v h' hs
      have := quiet_same hq hs
      subst this
      exact ⟨v, hs, hm⟩
    · exact hm.elim
  · rintro ⟨v, hs, hk⟩
    rw [hs]; exact hk

/-- What was looked at ahead is yet to come, and will yield this. -/
def Pend (o : IOper) (fr : List AV) (h : AH) : Prop :=
  (wantd o.guard fr = true → ∃ v, istep o.op (ev fr) h = some (v, h) ∧ ∀ d, o.dst = some d → d < fr.length → fr.getD d (.v undef) = v) ∧
  (wantd o.guard fr = false → ∀ d, o.dst = some d → d < fr.length → fr.getD d (.v undef) = .v undef)
theorem put_len (fr : List AV) (dst : Option Nat) (v : AV) : (put fr dst v).length = fr.length := by
  cases dst <;> simp [put]
theorem put_getD_ne {fr : List AV} {dst : Option Nat} {v : AV} {t : Nat} (h : dst ≠ some t) : (put fr dst v).getD t (.v undef) = fr.getD t (.v undef) := by
  cases dst with
  | none => rfl
  | some d =>
    have : d ≠ t := fun e => h (by rw [e])
    simp [put, List.getD_eq_getElem?_getD, List.getElem?_set_ne this]
theorem put_getD_eq {fr : List AV} {d : Nat} {v : AV} (h : d < fr.length) : (put fr (some d) v).getD d (.v undef) = v := by
  simp [put, List.getD_eq_getElem?_getD, h]
theorem Pend.put {o : IOper} {fr : List AV} {h : AH} (hp : Pend o fr h) {dst : Option Nat} (v : AV) (h1 : ∀ d, dst = some d → d ∉ o.reads) (h2 : ∀ d, dst = some d → o.dst ≠ some d) : Pend o (put fr dst v) h := by
  have ha : Agree o fr (Go.Abs.put fr dst v) := .put h1
  have hk : ∀ d, o.dst = some d → (Go.Abs.put fr dst v).getD d (.v undef) = fr.getD d (.v undef) := fun d hd => put_getD_ne fun e => h2 d e hd
  refine ⟨fun hw => ?_, fun hw d hd hl => ?_⟩
  · rw [← ha.w] at hw
    obtain ⟨u, hu1, hu2⟩ := hp.1 hw
    exact ⟨u, by rw [← istep_congr ha.e]; exact hu1, fun d hd hl => by rw [hk d hd]; exact hu2 d hd (by rwa [put_len] at hl)⟩
  · rw [← ha.w] at hw
    rw [hk d hd]; exact hp.2 hw d hd (by rwa [put_len] at hl)

/-! whatever order is drawn -/
section
variable {P : Program} {w0 : World} {D0 : List Deferred} {ro : Option Nat} {rows : List Nat} {ops : Array Oper} {is : List IOper} {A : Nat → List Nat} {ld : Nat → Bool} {Q : List AV → AH → Prop}

structure DI (P : Program) (w0 : World) (D0 : List Deferred) (ops : Array Oper) (is : List IOper) (A : Nat → List Nat) (ld : Nat → Bool) (Q : List AV → AH → Prop) (Γ : Con) (l : Array Bool) (a : Act) (w : World) (T rem : List Nat) (fr : List AV) (h : AH) : Prop where
  size : l.size = ops.size
  sub : ∀ {i : Nat}, l.getD i false = true → i ∈ T
  tlt : ∀ {i : Nat}, i ∈ T → i < ops.size
  loudT : ∀ {i : Nat}, i ∈ T → ld i = true → l.getD i false = true
  tA : ∀ {j : Nat}, j ∈ T → ∀ k ∈ A j, k ∈ T
  ord : ordOk ops.size A ld T rem = true
  W : WR w0 Γ h w
  defers : a.defers = D0
  fsize : a.tmps.size = fr.length
  fat : ∀ (t : Nat) (ht : t < fr.length) (ht' : t < a.tmps.size), (∃ j oj, j ∈ T ∧ l.getD j false = false ∧ is[j]? = some oj ∧ oj.dst = some t) ∨ RV Γ fr[t] a.tmps[t]
  pend : ∀ {j : Nat} {oj : IOper}, j ∈ T → l.getD j false = false → is[j]? = some oj → Pend oj fr h
  vc : vcD P w0 (withChecks A ld is T rem) Q fr h

/-- The frame as it is. -/
theorem DI.mask {Γ : Con} {l : Array Bool} {a : Act} {w : World} {T rem : List Nat} {fr : List AV} {h : AH} (D : DI P w0 D0 ops is A ld Q Γ l a w T rem fr h) :
    ∃ frS : List AV, FR Γ frS a ∧ ∀ t, (∀ j oj, j ∈ T → l.getD j false = false → is[j]? = some oj → oj.dst ≠ some t) → frS.getD t (.v undef) = fr.getD t (.v undef) := by
  classical
  let p : Nat → Prop := fun t => ∃ j oj, j ∈ T ∧ l.getD j false = false ∧ is[j]? = some oj ∧ oj.dst = some t
  refine ⟨(List.range fr.length).map fun t => if p t then .v (a.tmps.getD t undef) else fr.getD t (.v undef), ⟨by simp [D.fsize], fun i hi hi' => ?_⟩, fun t ht => ?_⟩
  · simp only [List.length_map, List.length_range] at hi
    simp only [List.getElem_map, List.getElem_range]
    by_cases hp : p i
    · rw [if_pos hp]
      have : a.tmps.getD i undef = a.tmps[i] := by simp [hi']
      rw [this]; exact .v _
    · rw [if_neg hp, List.getD_eq_getElem?_getD, List.getElem?_eq_getElem hi]
      exact (D.fat i hi hi').resolve_left hp
  · have hn : ¬ p t := fun ⟨j, oj, h1, h2, h3, h4⟩ => ht j oj h1 h2 h3 h4
    by_cases hl : t < fr.length
    · simp only [List.getD_eq_getElem?_getD, List.getElem?_map, List.getElem?_range hl, Option.map_some, Option.getD_some]
      rw [if_neg hn]
    · simp only [List.getD_eq_getElem?_getD]
      rw [List.getElem?_eq_none (by simp; omega), List.getElem?_eq_none (by omega)]

theorem act_put_ne {a : Act} {dst : Option Tmp} {x : Value} {t : Nat} (h : dst ≠ some t) (h1 : t < (a.put dst x).tmps.size) (h2 : t < a.tmps.size) : (a.put dst x).tmps[t] = a.tmps[t] := by
  cases dst with
  | none => rfl
  | some d =>
    have : d ≠ t := fun e => h (by rw [e])
    show (a.tmps.setIfInBounds d x)[t]'(by simpa using h2) = _
    rw [Array.getElem_setIfInBounds (by simpa using h2), if_neg this]
theorem getD_set_eq {l : Array Bool} {i : Nat} (hi : i < l.size) (d : Bool) : (l.setIfInBounds i true).getD i d = true := by
  simp [Array.getD_eq_getD_getElem?, hi]
theorem listed_set {l : Array Bool} {i j : Nat} (h : (l.setIfInBounds i true).getD j false = true) : j = i ∨ l.getD j false = true := by
  by_cases hij : i = j
  · exact .inl hij.symm
  · rw [getD_set_ne false hij] at h; exact .inr h
theorem unlisted_set {l : Array Bool} {i j : Nat} (hi : i < l.size) (h : (l.setIfInBounds i true).getD j false = false) : j ≠ i ∧ l.getD j false = false := by
  by_cases hij : i = j
  · subst hij; rw [getD_set_eq hi] at h; cases h
  · rw [getD_set_ne false hij] at h; exact ⟨fun e => hij e.symm, h⟩

/-- Everything ahead of what comes up has come up. -/
theorem aheadListed (edge : ∀ {i : Nat} {o : Oper}, ops[i]? = some o → ∀ e ∈ o.after, Region.binds .any e = true → e.on < i) (ha : AOk ops A) {l : Array Bool} (closed : ∀ {i : Nat} {o : Oper}, l.getD i false = true → ops[i]? = some o → ∀ e ∈ o.after, Region.binds .any e = true → l.getD e.on false = true) :
    ∀ (n : Nat) {i : Nat} {o : Oper}, i ≤ n → ops[i]? = some o → (∀ e ∈ o.after, Region.binds .any e = true → l.getD e.on false = true) → ∀ j ∈ A i, l.getD j false = true := by
  intro n
  induction n with
  | zero =>
    intro i o hi ho hall j hj
    obtain ⟨o', ho', e, he, hb, _⟩ := ha (Array.getElem?_eq_some_iff.1 ho).1 j hj
    have := edge ho' e he hb
    omega
  | succ n ih =>
    intro i o hi ho hall j hj
    obtain ⟨o', ho', e, he, hb, hon⟩ := ha (Array.getElem?_eq_some_iff.1 ho).1 j hj
    have heq : o' = o := Option.some.inj (ho'.symm.trans ho)
    subst heq
    have hlt := edge ho e he hb
    have hl := hall e he hb
    rcases hon with hon | hon
    · rw [← hon]; exact hl
    · have hsz : e.on < ops.size := by have := (Array.getElem?_eq_some_iff.1 ho).1; omega
      exact ih (i := e.on) (by omega) (Array.getElem?_eq_getElem hsz) (closed hl (Array.getElem?_eq_getElem hsz)) j hon

variable (hk : DOk P rows ops is A ld)
include hk

/-- What is quiet may be looked at ahead. -/
theorem DI.advance {Γ : Con} {l : Array Bool} {a : Act} {w : World} {T r : List Nat} {m : Nat} {fr : List AV} {h : AH} (D : DI P w0 D0 ops is A ld Q Γ l a w T (m :: r) fr h) (hm : ld m = false) :
    ∃ fr', DI P w0 D0 ops is A ld Q Γ l a w (m :: T) r fr' h := by
  obtain ⟨h1, h2, h3, h4, h5⟩ := ordOk_cons D.ord
  have hms : m < is.length := by rw [hk.len]; exact h1
  have hom : is[m]? = some is[m] := List.getElem?_eq_getElem hms
  have hml : l.getD m false = false := by
    cases hb : l.getD m false with
    | false => rfl
    | true => exact absurd (D.sub hb) h2
  have hv := D.vc
  simp only [withChecks, hom, hm, Bool.false_eq_true, if_false, vcD] at hv
  have hq := hk.quiet hom hm
  -- what is common
  have core : ∀ v, (wantd is[m].guard fr = true → istep is[m].op (ev fr) h = some (v, h)) → (wantd is[m].guard fr = false → v = .v undef) → vcD P w0 (withChecks A ld is (m :: T) r) Q (put fr is[m].dst v) h →
      DI P w0 D0 ops is A ld Q Γ l a w (m :: T) r (put fr is[m].dst v) h := by
    intro v hv1 hv2 hvr
    have hself : ∀ d, is[m].dst = some d → d ∉ is[m].reads := fun d hd => hk.self hom hm hd
    have hag : Agree is[m] fr (put fr is[m].dst v) := .put hself
    refine ⟨D.size, fun hi => List.mem_cons_of_mem _ (D.sub hi), fun hi => ?_, fun hi hl => ?_, fun hj k hkA => ?_, h5, D.W, D.defers, by rw [put_len]; exact D.fsize, fun t ht ht' => ?_, fun {j oj} hj hjl hoj => ?_, hvr⟩
    · rcases List.mem_cons.1 hi with rfl | hi
      · exact h1
      · exact D.tlt hi
    · rcases List.mem_cons.1 hi with rfl | hi
      · rw [hm] at hl; cases hl
      · exact D.loudT hi hl
    · rcases List.mem_cons.1 hj with rfl | hj
      · exact List.mem_cons_of_mem _ (h3 k hkA)
      · exact List.mem_cons_of_mem _ (D.tA hj k hkA)
    · by_cases hd : is[m].dst = some t
      · exact .inl ⟨m, is[m], List.mem_cons_self, hml, hom, hd⟩
      · have ht2 : t < fr.length := by rwa [put_len] at ht
        rcases D.fat t ht2 ht' with ⟨j, oj, q1, q2, q3, q4⟩ | hr
        · exact .inl ⟨j, oj, List.mem_cons_of_mem _ q1, q2, q3, q4⟩
        · refine .inr ?_
          have := put_getD_ne (fr := fr) (v := v) hd
          rw [List.getD_eq_getElem?_getD, List.getD_eq_getElem?_getD, List.getElem?_eq_getElem ht, List.getElem?_eq_getElem ht2] at this
          simp only [Option.getD_some] at this
          rw [this]; exact hr
    · rcases List.mem_cons.1 hj with rfl | hjT
      · have : oj = is[j] := Option.some.inj (hoj.symm.trans hom)
        subst this
        refine ⟨fun hw => ?_, fun hw d hd hl => ?_⟩
        · rw [← hag.w] at hw
          refine ⟨v, by rw [← istep_congr hag.e]; exact hv1 hw, fun d hd hl => ?_⟩
          rw [hd]; rw [put_len] at hl
          exact put_getD_eq hl
        · rw [← hag.w] at hw
          rw [hd]; rw [put_len] at hl
          rw [put_getD_eq hl]; exact hv2 hw
      · have hjm : m ≠ j := fun e => h2 (e ▸ hjT)
        have hjq : ld j = false := by
          cases hb : ld j with
          | false => rfl
          | true => have := D.loudT hjT hb; rw [hjl] at this; cases this
        refine (D.pend hjT hjl hoj).put v (fun d hd hdr => ?_) (fun d hd hdj => ?_)
        · rcases hk.pairR hjm hom hoj hd hdr with hh | ⟨hh, _⟩
          · exact h2 (D.tA hjT m hh)
          · rw [hm] at hh; cases hh
        · rcases hk.pairW hjm hom hoj hd hdj with ⟨hh, _⟩ | ⟨hh | hh, _⟩
          · rw [hm] at hh; cases hh
          · rw [hm] at hh; cases hh
          · rw [hjq] at hh; cases hh
  cases hw : wantd is[m].guard fr with
  | true =>
    rw [hw] at hv
    simp only [if_true] at hv
    obtain ⟨v, hv1, hv2⟩ := (vcOp_quiet hq).1 hv
    exact ⟨_, core v (fun _ => hv1) (fun hh => by rw [hw] at hh; cases hh) hv2.2⟩
  | false =>
    rw [hw] at hv
    simp only [Bool.false_eq_true, if_false] at hv
    exact ⟨_, core _ (fun hh => by rw [hw] at hh; cases hh) (fun _ => rfl) hv⟩

/-- What was looked at ahead comes up. -/
theorem DI.comes {Γ : Con} {l : Array Bool} {a : Act} {w : World} {T rem : List Nat} {fr : List AV} {h : AH} (D : DI P w0 D0 ops is A ld Q Γ l a w T rem fr h) {i : Nat} {o : Oper} (hil : l.getD i false = false) (ho : ops[i]? = some o) (hah : ∀ j ∈ A i, l.getD j false = true) (hT : i ∈ T) {R : Exit → Act → World → Prop} :
    wpOpIn (fen ro) 0 P ops R i (fun a' w' => ∃ Γ' T' rem' fr' h', Γ.le Γ' ∧ DI P w0 D0 ops is A ld Q Γ' (l.setIfInBounds i true) a' w' T' rem' fr' h') a w := by
  have hisz : i < l.size := by rw [D.size]; exact (Array.getElem?_eq_some_iff.1 ho).1
  obtain ⟨oi, hoi, hco⟩ := hk.at_ ho
  obtain ⟨hdst, hg, _⟩ := compOper_inv hco
  have hq : ld i = false := by
    cases hb : ld i with
    | false => rfl
    | true => have := D.loudT hT hb; rw [hil] at this; cases this
  obtain ⟨frS, hfS, hsame⟩ := D.mask
  have hag : Agree oi fr frS := .of fun t ht => (hsame t fun j oj hj hjl hoj hjd => by
    by_cases hji : j = i
    · subst hji
      have : oj = oi := Option.some.inj (hoj.symm.trans hoi)
      subst this
      exact hk.self hoi hq hjd ht
    · rcases hk.pairR hji hoj hoi hjd ht with hh | ⟨hh, _⟩
      · have := hah j hh; rw [hjl] at this; cases this
      · have := D.loudT hj hh; rw [hjl] at this; cases this).symm
  have hp := D.pend hT hil hoi
  have fin : ∀ {v : AV} {Γ' : Con} {x : Value} {w' : World}, Γ.le Γ' → RV Γ' v x → WR w0 Γ' h w' → (∀ d, oi.dst = some d → d < fr.length → fr.getD d (.v undef) = v) →
      DI P w0 D0 ops is A ld Q Γ' (l.setIfInBounds i true) (a.put o.dst x) w' T rem fr h := by
    intro v Γ' x w' hle hvx HW hd
    refine ⟨by simp [D.size], fun hj => ?_, D.tlt, fun hj hjl => getD_set_true (D.loudT hj hjl), D.tA, D.ord, HW, ?_, ?_, fun t ht ht' => ?_, fun hj hjl hoj => D.pend hj (unlisted_set hisz hjl).2 hoj, D.vc⟩
    · rcases listed_set hj with rfl | hj
      · exact hT
      · exact D.sub hj
    · cases o.dst <;> exact D.defers
    · have := D.fsize
      cases o.dst <;> simpa [Act.put] using this
    · by_cases hdt : oi.dst = some t
      · refine .inr ?_
        have h1 := hd t hdt ht
        rw [List.getD_eq_getElem?_getD, List.getElem?_eq_getElem ht] at h1
        simp only [Option.getD_some] at h1
        have h2 : (a.put o.dst x).tmps[t] = x := by
          have : o.dst = some t := by rw [← hdst]; exact hdt
          simp [this, Act.put]
        rw [h1, h2]; exact hvx
      · have ht2 : t < a.tmps.size := by rw [D.fsize]; exact ht
        rcases D.fat t ht ht2 with ⟨j, oj, q1, q2, q3, q4⟩ | hr
        · have hji : i ≠ j := by
            intro e
            subst e
            have : oj = oi := Option.some.inj (q3.symm.trans hoi)
            subst this
            exact hdt q4
          exact .inl ⟨j, oj, q1, by rw [getD_set_ne false hji]; exact q2, q3, q4⟩
        · refine .inr ?_
          have h2 : (a.put o.dst x).tmps[t] = a.tmps[t] := by
            exact act_put_ne (by rw [← hdst]; exact hdt) _ _
          rw [h2]; exact hr.mono hle
  unfold wpOpIn
  simp only [ho]
  rw [wantd_eq hg hfS, ← hag.w]
  cases hw : wantd oi.guard fr with
  | true =>
    simp only [if_true]
    obtain ⟨v, hv1, hv2⟩ := hp.1 hw
    refine (vcOp_sound hco D.W hfS (K := fun v' h' => v' = v ∧ h' = h) ((vcOp_quiet (hk.quiet hoi hq)).2 ⟨v, by rw [← istep_congr hag.e]; exact hv1, rfl, rfl⟩) fun v' h' Γ' x w' hK hle hvx HW => ?_)
    obtain ⟨rfl, rfl⟩ := hK
    exact ⟨Γ', T, rem, fr, h', hle, fin hle hvx HW hv2⟩
  | false =>
    simp only [Bool.false_eq_true, if_false]
    exact ⟨fun _ _ => trivial, Γ, T, rem, fr, h, .refl _, fin (.refl _) (.v undef) D.W (hp.2 hw)⟩

/-- What is loud comes up. -/
theorem DI.loud {Γ : Con} {l : Array Bool} {a : Act} {w : World} {T r : List Nat} {fr : List AV} {h : AH} {i : Nat} {o : Oper} (D : DI P w0 D0 ops is A ld Q Γ l a w T (i :: r) fr h) (hil : l.getD i false = false) (ho : ops[i]? = some o) (hah : ∀ j ∈ A i, l.getD j false = true) (hld : ld i = true) {R : Exit → Act → World → Prop} :
    wpOpIn (fen ro) 0 P ops R i (fun a' w' => ∃ Γ' T' rem' fr' h', Γ.le Γ' ∧ DI P w0 D0 ops is A ld Q Γ' (l.setIfInBounds i true) a' w' T' rem' fr' h') a w := by
  have hisz : i < l.size := by rw [D.size]; exact (Array.getElem?_eq_some_iff.1 ho).1
  obtain ⟨oi, hoi, hco⟩ := hk.at_ ho
  obtain ⟨hdst, hg, _⟩ := compOper_inv hco
  obtain ⟨h1, h2, h3, h4, h5⟩ := ordOk_cons D.ord
  obtain ⟨frS, hfS, hsame⟩ := D.mask
  have hjq : ∀ j, j ∈ T → l.getD j false = false → ld j = false := fun j hj hjl => by
    cases hb : ld j with
    | false => rfl
    | true => have := D.loudT hj hb; rw [hjl] at this; cases this
  have hag : Agree oi fr frS := .of fun t ht => (hsame t fun j oj hj hjl hoj hjd => by
    have hji : j ≠ i := fun e => h2 (e ▸ hj)
    rcases hk.pairR hji hoj hoi hjd ht with hh | ⟨hh, _⟩
    · have := hah j hh; rw [hjl] at this; cases this
    · rw [hjq j hj hjl] at hh; cases hh).symm
  -- the slot of i is none that they read or write
  have hr1 : ∀ j oj, j ∈ T → l.getD j false = false → is[j]? = some oj → ∀ d, oi.dst = some d → d ∉ oj.reads := fun j oj hj hjl hoj d hd hdr => by
    have hji : i ≠ j := fun e => h2 (e ▸ hj)
    rcases hk.pairR hji hoi hoj hd hdr with hh | ⟨_, hh⟩
    · exact h2 (D.tA hj i hh)
    · have := hah j hh; rw [hjl] at this; cases this
  have hr2 : ∀ j oj, j ∈ T → l.getD j false = false → is[j]? = some oj → ∀ d, oi.dst = some d → oj.dst ≠ some d := fun j oj hj hjl hoj d hd hdj => by
    have hji : i ≠ j := fun e => h2 (e ▸ hj)
    rcases hk.pairW hji hoi hoj hd hdj with ⟨_, hh⟩ | ⟨_, hh | hh⟩
    · rw [hjq j hj hjl] at hh; cases hh
    · have := hah j hh; rw [hjl] at this; cases this
    · exact h2 (D.tA hj i hh)
  have fin : ∀ {v : AV} {Γ' : Con} {x : Value} {w' : World} {h' : AH}, Γ.le Γ' → RV Γ' v x → WR w0 Γ' h' w' → (∀ j oj, j ∈ T → l.getD j false = false → is[j]? = some oj → Pend oj (put fr oi.dst v) h') →
      vcD P w0 (withChecks A ld is (i :: T) r) Q (put fr oi.dst v) h' → DI P w0 D0 ops is A ld Q Γ' (l.setIfInBounds i true) (a.put o.dst x) w' (i :: T) r (put fr oi.dst v) h' := by
    intro v Γ' x w' h' hle hvx HW hpend hvr
    refine ⟨by simp [D.size], fun hj => ?_, fun hj => ?_, fun hj hjl => ?_, fun hj k hkA => ?_, h5, HW, ?_, ?_, fun t ht ht' => ?_, fun {j oj} hj hjl hoj => ?_, hvr⟩
    · rcases listed_set hj with rfl | hj
      · exact List.mem_cons_self
      · exact List.mem_cons_of_mem _ (D.sub hj)
    · rcases List.mem_cons.1 hj with rfl | hj
      · exact h1
      · exact D.tlt hj
    · rcases List.mem_cons.1 hj with rfl | hj
      · exact getD_set_eq hisz _
      · exact getD_set_true (D.loudT hj hjl)
    · rcases List.mem_cons.1 hj with rfl | hj
      · exact List.mem_cons_of_mem _ (h3 k hkA)
      · exact List.mem_cons_of_mem _ (D.tA hj k hkA)
    · cases o.dst <;> exact D.defers
    · have := D.fsize
      rw [put_len]
      cases o.dst <;> simpa [Act.put] using this
    · have ht0 : t < fr.length := by rwa [put_len] at ht
      have ht2 : t < a.tmps.size := by rw [D.fsize]; exact ht0
      by_cases hdt : oi.dst = some t
      · refine .inr ?_
        have h1 : (put fr oi.dst v)[t] = v := by
          have := put_getD_eq (v := v) ht0
          rw [← hdt, List.getD_eq_getElem?_getD, List.getElem?_eq_getElem ht] at this
          simpa using this
        have h2 : (a.put o.dst x).tmps[t] = x := by
          have : o.dst = some t := by rw [← hdst]; exact hdt
          simp [this, Act.put]
        rw [h1, h2]; exact hvx
      · rcases D.fat t ht0 ht2 with ⟨j, oj, q1, q2, q3, q4⟩ | hr
        · have hji : i ≠ j := fun e => h2 (e ▸ q1)
          exact .inl ⟨j, oj, List.mem_cons_of_mem _ q1, by rw [getD_set_ne false hji]; exact q2, q3, q4⟩
        · refine .inr ?_
          have h0 : (put fr oi.dst v)[t] = fr[t] := by
            have := put_getD_ne (fr := fr) (v := v) hdt
            rw [List.getD_eq_getElem?_getD, List.getD_eq_getElem?_getD, List.getElem?_eq_getElem ht, List.getElem?_eq_getElem ht0] at this
            simpa using this
          have h2 : (a.put o.dst x).tmps[t] = a.tmps[t] := by
            exact act_put_ne (by rw [← hdst]; exact hdt) _ _
          rw [h0, h2]; exact hr.mono hle
    · obtain ⟨hji, hjl'⟩ := unlisted_set hisz hjl
      exact hpend j oj ((List.mem_cons.1 hj).resolve_left hji) hjl' hoj
  have hv := D.vc
  simp only [withChecks, hoi, hld, if_true, vcD] at hv
  unfold wpOpIn
  simp only [ho]
  rw [wantd_eq hg hfS, ← hag.w]
  cases hw : wantd oi.guard fr with
  | true =>
    rw [hw] at hv
    simp only [if_true] at hv ⊢
    refine (vcOp_sound hco D.W hfS (vcOp_congr hag.e hv) fun v h' Γ' x w' hK hle hvx HW => ?_)
    refine ⟨Γ', _, _, _, h', hle, fin hle hvx HW (fun j oj hj hjl hoj => ?_) hK.2⟩
    have hp := (D.pend hj hjl hoj).put v (hr1 j oj hj hjl hoj) (hr2 j oj hj hjl hoj)
    by_cases hpu : oj.op.pure = true
    · refine ⟨fun hwj => ?_, hp.2⟩
      obtain ⟨u, hu1, hu2⟩ := hp.1 hwj
      exact ⟨u, pure_any hpu hu1 h', hu2⟩
    · have hst : stab oj (put fr oi.dst v) h' := by
        have hmem : ∀ {cs : List IOper} {f : List AV} {H : AH}, stabs cs f H → ∀ o ∈ cs, stab o f H := by
          intro cs
          induction cs with
          | nil => intro f H _ o ho; simp at ho
          | cons c cs ih =>
            intro f H hs o ho
            rcases List.mem_cons.1 ho with rfl | ho
            · exact hs.1
            · exact ih hs.2 o ho
        refine hmem hK.1 oj (List.mem_filterMap.2 ⟨j, List.mem_filter.2 ⟨hj, ?_⟩, ?_⟩)
        · have : j ∉ A i := fun hh => by have := hah j hh; rw [hjl] at this; cases this
          simp [hjq j hj hjl, this]
        · simp only [hoj, hpu, if_false, Bool.false_eq_true]
      refine ⟨fun hwj => ?_, hp.2⟩
      simp only [stab, hwj, if_true] at hst
      split at hst
      · rename_i u H2 hs
        have := quiet_same (hk.quiet hoj (hjq j hj hjl)) hs
        subst this
        refine ⟨u, hs, fun d hd _ => ?_⟩
        rw [hd] at hst
        exact hst
      · exact hst.elim
  | false =>
    rw [hw] at hv
    simp only [Bool.false_eq_true, if_false] at hv ⊢
    exact ⟨fun _ _ => trivial, Γ, _, _, _, h, .refl _, fin (.refl _) (.v undef) D.W (fun j oj hj hjl hoj => (D.pend hj hjl hoj).put _ (hr1 j oj hj hjl hoj) (hr2 j oj hj hjl hoj)) hv⟩

theorem DI.any {R : Exit → Act → World → Prop} {l : Array Bool} {a : Act} {w : World} {i : Nat} {o : Oper} (hil : l.getD i false = false) (ho : ops[i]? = some o) (hah : ∀ j ∈ A i, l.getD j false = true) : ∀ {rem T : List Nat} {Γ : Con} {fr : List AV} {h : AH}, DI P w0 D0 ops is A ld Q Γ l a w T rem fr h →
    wpOpIn (fen ro) 0 P ops R i (fun a' w' => ∃ Γ' T' rem' fr' h', Γ.le Γ' ∧ DI P w0 D0 ops is A ld Q Γ' (l.setIfInBounds i true) a' w' T' rem' fr' h') a w
  | rem, T, Γ, fr, h, D => by
    by_cases hT : i ∈ T
    · exact D.comes hk hil ho hah hT
    · have hin : i < ops.size := (Array.getElem?_eq_some_iff.1 ho).1
      cases rem with
      | nil =>
        have := D.ord
        simp only [ordOk, List.all_eq_true, List.mem_range, List.contains_iff_mem] at this
        exact absurd (this i hin) hT
      | cons m r =>
        cases hm : ld m with
        | false =>
          obtain ⟨fr', D'⟩ := D.advance hk hm
          exact DI.any hil ho hah D'
        | true =>
          by_cases hmi : m = i
          · subst hmi
            exact D.loud hk hil ho hah hm
          · obtain ⟨h1, h2, _, _, h5⟩ := ordOk_cons D.ord
            have := ord_later h5 hin (fun hh => by rcases List.mem_cons.1 hh with hh | hh; exact hmi hh.symm; exact hT hh) m List.mem_cons_self hm
            exact absurd (D.sub (hah m this)) h2
/-- Each when all ahead of it have come up; at the end all have. -/
def GoodL (A : Nat → List Nat) (n : Nat) : Array Bool → List Nat → Prop
  | l, [] => ∀ i, i < n → l.getD i false = true
  | l, i :: r => l.getD i false = false ∧ i < n ∧ (∀ j ∈ A i, l.getD j false = true) ∧ GoodL A n (l.setIfInBounds i true) r
theorem DI.order {Γ0 : Con} {Q : AExit → List AV → AH → Prop} : ∀ {L : List Nat} {l : Array Bool} {a : Act} {w : World} {Γ : Con} {T rem : List Nat} {fr : List AV} {h : AH}, Γ0.le Γ → DI P w0 D0 ops is A ld (Q .normal) Γ l a w T rem fr h →
    GoodL A ops.size l L → wpOpsIn (fen ro) 0 P ops (Post w0 D0 Γ0 Q) L a w
  | [], l, a, w, Γ, T, rem, fr, h, hl, D, hg => by
    have hrem : rem = [] := by
      cases rem with
      | nil => rfl
      | cons m r => obtain ⟨h1, h2, _⟩ := ordOk_cons D.ord; exact absurd (D.sub (hg m h1)) h2
    subst hrem
    have hv := D.vc
    simp only [withChecks, vcD] at hv
    unfold wpOpsIn
    refine ⟨D.defers, .normal, Γ, fr, h, trivial, hl, ⟨D.fsize, fun t ht ht' => ?_⟩, D.W, hv⟩
    rcases D.fat t ht ht' with ⟨j, oj, q1, q2, _⟩ | hr
    · rw [hg j (D.tlt q1)] at q2; cases q2
    · exact hr
  | i :: L, l, a, w, Γ, T, rem, fr, h, hl, D, hg => by
    obtain ⟨h1, h2, h3, h4⟩ := hg
    rw [wpOpsIn_cons]
    refine wpOpIn_mono (fun a' w' hh => ?_) (DI.any hk h1 (Array.getElem?_eq_getElem h2) h3 D)
    obtain ⟨Γ', T', rem', fr', h', hle, D'⟩ := hh
    exact DI.order (hl.trans hle) D' h4
end
/-- An order that the region may be given. -/
def GoodE (ops : Array Oper) : Array Bool → List Nat → Prop
  | l, [] => Region.ready .any ops l = []
  | l, i :: r => i ∈ Region.ready .any ops l ∧ GoodE ops (l.setIfInBounds i true) r
def unl (ops : Array Oper) (l : Array Bool) : Nat := ((List.range ops.size).filter fun i => !l.getD i false).length
theorem filter_lt {p q : Nat → Bool} {x : Nat} : ∀ {l : List Nat}, (∀ y, q y = true → p y = true) → x ∈ l → p x = true → q x = false → (l.filter q).length < (l.filter p).length
  | [], _, hx, _, _ => by simp at hx
  | z :: l, hqp, hx, hp, hq => by
    have hle : ∀ l : List Nat, (l.filter q).length ≤ (l.filter p).length := by
      intro l
      induction l with
      | nil => simp
      | cons y l ih =>
        simp only [List.filter_cons]
        cases hy : q y with
        | true => simp [hqp y hy]; exact ih
        | false =>
          cases p y <;> simp <;> omega
    simp only [List.filter_cons]
    rcases List.mem_cons.1 hx with rfl | hx
    · have := hle l
      simp [hp, hq]; omega
    · have := filter_lt hqp hx hp hq
      cases hz : q z with
      | true => simp [hqp z hz]; exact this
      | false => cases p z <;> simp <;> omega
theorem ready_inv {ops : Array Oper} {l : Array Bool} (hs : l.size = ops.size) {i : Nat} (hi : i ∈ Region.ready .any ops l) : l.getD i false = false ∧ ∃ o, ops[i]? = some o ∧ ∀ e ∈ o.after, Region.binds .any e = true → l.getD e.on false = true := by
  obtain ⟨hun, o, ho, hall⟩ := mem_ready.1 hi
  have hisz : i < l.size := by rw [hs]; exact (Array.getElem?_eq_some_iff.1 ho).1
  refine ⟨?_, o, ho, hall⟩
  rw [Array.getD_eq_getD_getElem?, Array.getElem?_eq_getElem hisz] at hun ⊢
  exact hun
theorem unl_lt {ops : Array Oper} {l : Array Bool} (hs : l.size = ops.size) {i : Nat} (hi : i ∈ Region.ready .any ops l) : unl ops (l.setIfInBounds i true) < unl ops l := by
  obtain ⟨h1, o, ho, _⟩ := ready_inv hs hi
  have h2 := (Array.getElem?_eq_some_iff.1 ho).1
  have hil : i < l.size := by rw [hs]; exact h2
  exact filter_lt (fun y hy => by
    have : (l.setIfInBounds i true).getD y false = false := by simpa using hy
    simp [(unlisted_set hil this).2]) (by simpa using h2) (by simp [h1]) (by rw [getD_set_eq hil]; rfl)
theorem goodE_lin {ops : Array Oper} : ∀ (fuel t : Nat) (l : Array Bool), l.size = ops.size → unl ops l ≤ fuel → GoodE ops l (Region.linearise.go .any ops fuel t l []) := by
  intro fuel
  induction fuel with
  | zero =>
    intro t l hs hf
    simp only [Region.linearise.go, List.reverse_nil, GoodE]
    cases hr : Region.ready .any ops l with
    | nil => rfl
    | cons i r =>
      have := unl_lt hs (i := i) (by rw [hr]; exact List.mem_cons_self)
      omega
  | succ fuel ih =>
    intro t l hs hf
    simp only [Region.linearise.go]
    change GoodE ops l (match (Region.ready .any ops l)[t % (Region.ready .any ops l).length]? with
      | some i => Region.linearise.go .any ops fuel (t / (Region.ready .any ops l).length) (l.setIfInBounds i true) [i]
      | none => [].reverse)
    cases hi : (Region.ready .any ops l)[t % (Region.ready .any ops l).length]? with
    | none =>
      show Region.ready .any ops l = []
      cases hr : Region.ready .any ops l with
      | nil => rfl
      | cons x xs =>
        rw [hr] at hi
        have hlt : t % (x :: xs).length < (x :: xs).length := Nat.mod_lt _ (by simp)
        simp at hi
        simp at hlt
        omega
    | some i =>
      have him := List.mem_of_getElem? hi
      simp only []
      rw [linearise_go_acc, List.reverse_singleton, List.singleton_append]
      exact ⟨him, ih _ _ (by simpa using hs) (by have := unl_lt hs him; omega)⟩
theorem goodL_of {ops : Array Oper} {A : Nat → List Nat} (edge : ∀ {i : Nat} {o : Oper}, ops[i]? = some o → ∀ e ∈ o.after, Region.binds .any e = true → e.on < i) (ha : AOk ops A) : ∀ {L : List Nat} {l : Array Bool}, l.size = ops.size → (∀ {i : Nat} {o : Oper}, l.getD i false = true → ops[i]? = some o → ∀ e ∈ o.after, Region.binds .any e = true → l.getD e.on false = true) →
    GoodE ops l L → GoodL A ops.size l L
  | [], l, hs, hc, hg => by
    have hr : Region.ready .any ops l = [] := hg
    have hall : ∀ n i, i < n → i < ops.size → l.getD i false = true := by
      intro n
      induction n with
      | zero => intro i hi; omega
      | succ n ihn =>
        intro i hi hsz
        cases hb : l.getD i false with
        | true => rfl
        | false =>
          have hmem : i ∈ Region.ready .any ops l := by
            refine mem_ready.2 ⟨?_, ops[i], Array.getElem?_eq_getElem hsz, fun e he hbind => ?_⟩
            · have h3 : i < l.size := by rw [hs]; exact hsz
              rw [Array.getD_eq_getD_getElem?, Array.getElem?_eq_getElem h3] at hb ⊢; exact hb
            · have := edge (Array.getElem?_eq_getElem hsz) e he hbind
              exact ihn e.on (by omega) (by omega)
          rw [hr] at hmem; cases hmem
    exact fun i hi => hall (i + 1) i (by omega) hi
  | i :: L, l, hs, hc, hg => by
    obtain ⟨h1, h2⟩ := hg
    obtain ⟨hil, o, ho, hall⟩ := ready_inv hs h1
    have hin := (Array.getElem?_eq_some_iff.1 ho).1
    refine ⟨hil, hin, aheadListed edge ha hc i (Nat.le_refl _) ho hall, goodL_of edge ha (by simpa using hs) (fun {j oj} hj hoj e he hb => ?_) h2⟩
    rcases listed_set hj with rfl | hj
    · have : oj = o := Option.some.inj (hoj.symm.trans ho)
      subst this
      exact getD_set_true (hall e he hb)
    · exact getD_set_true (hc hj hoj e he hb)
theorem DI.start {P : Program} {w0 : World} {ops : Array Oper} {is : List IOper} {A : Nat → List Nat} {ld : Nat → Bool} {Q : List AV → AH → Prop} {Γ : Con} {a : Act} {w : World} {ord : List Nat} {fr : List AV} {h : AH} (hord : ordOk ops.size A ld [] ord = true) (HW : WR w0 Γ h w) (hf : FR Γ fr a)
    (hv : vcD P w0 (withChecks A ld is [] ord) Q fr h) : DI P w0 a.defers ops is A ld Q Γ (Array.replicate ops.size false) a w [] ord fr h := by
  have hn : ∀ j, (Array.replicate ops.size false).getD j false = false := fun j => by
    rcases Nat.lt_or_ge j ops.size with hh | hh <;> simp [hh]
  refine ⟨by simp, fun hi => ?_, fun hi => ?_, fun hi => ?_, fun hi => ?_, hord, HW, rfl, hf.size, fun t ht ht' => .inr (hf.at_ t ht ht'), fun hi => ?_, hv⟩
  · rw [hn] at hi; cases hi
  all_goals simp at hi
/-- A region whose order is drawn. -/
theorem vcD_sound {P : Program} {w0 : World} {rows : List Nat} {ops : Array Oper} {is : List IOper} (hc : compOps P rows ops ops.toList = some is) {l : List (IOper × List IOper)} (hd : dcomp P ops is = some l)
    {Γ : Con} {h : AH} {w : World} {fr : List AV} {a : Act} (H : WR w0 Γ h w) (hf : FR Γ fr a) {Q : AExit → List AV → AH → Prop} (hv : vcD P w0 l (Q .normal) fr h) {id : Nat} {ro : Option Nat} : (Code.region id ops true).wpIn (fen ro) 0 P (Post w0 a.defers Γ Q) a w := by
  obtain ⟨hm, A, ld, ord, ha, hk, hord, rfl⟩ := dcomp_inv hc hd
  have hn : ∀ j, (Array.replicate ops.size false).getD j false = false := fun j => by
    rcases Nat.lt_or_ge j ops.size with hh | hh <;> simp [hh]
  refine wpIn_region_draw fun t => ?_
  simp only [Region.schedule, hm, Bool.true_or, if_true]
  refine DI.order hk (.refl Γ) (T := []) (rem := ord) (fr := fr) (h := h) ?_ (goodL_of hk.edge ha (by simp) (fun hi => by rw [hn] at hi; cases hi) (goodE_lin ops.size t _ (by simp) (Nat.le_trans (List.length_filter_le _ _) (by simp))))
  refine ⟨by simp, fun hi => ?_, fun hi => ?_, fun hi => ?_, fun hi => ?_, hord, H.drew, rfl, hf.size, fun t ht ht' => .inr (hf.at_ t ht ht'), fun hi => ?_, hv⟩
  · rw [hn] at hi; cases hi
  all_goals simp at hi
theorem goodL_past {A : Nat → List Nat} {m j n : Nat} {C : List Nat} : ∀ {L : List Nat} {l : Array Bool}, l.getD m false = true → GoodL A n l L → GoodL (altA A m C j) n l L
  | [], l, hm, hg => hg
  | i :: L, l, hm, hg => by
    obtain ⟨h1, h2, h3, h4⟩ := hg
    have hne : i ≠ m := by rintro rfl; rw [hm] at h1; cases h1
    refine ⟨h1, h2, fun x hx => ?_, goodL_past (getD_set_true hm) h4⟩
    unfold altA at hx
    rw [if_neg hne] at hx
    split at hx
    · rcases List.mem_append.1 hx with hx | hx
      · exact h3 x hx
      · rw [List.mem_singleton.1 hx]; exact hm
    · exact h3 x hx
theorem goodL_alt {A : Nat → List Nat} {m n : Nat} {C : List Nat} (hm : m < n) (hC : ∀ (a b : Nat) (ha : a < C.length) (hb : b < C.length), a < b → C[a] ∈ A C[b]) (hnd : ∀ (a b : Nat) (ha : a < C.length) (hb : b < C.length), C[a] = C[b] → a = b) :
    ∀ {L : List Nat} {l : Array Bool} {k : Nat}, l.size = n → k ≤ C.length → (∀ (a : Nat) (ha : a < C.length), l.getD C[a] false = true ↔ a < k) → l.getD m false = false → GoodL A n l L → ∃ j, k ≤ j ∧ j ≤ C.length ∧ GoodL (altA A m C j) n l L
  | [], l, k, hs, hk, hI, hu, hg => by have := hg m hm; rw [hu] at this; cases this
  | i :: L, l, k, hs, hk, hI, hu, hg => by
    obtain ⟨h1, h2, h3, h4⟩ := hg
    have hil : i < l.size := by omega
    by_cases him : i = m
    · subst him
      refine ⟨k, Nat.le_refl _, hk, h1, h2, fun x hx => ?_, goodL_past (getD_set_eq hil _) h4⟩
      unfold altA at hx
      rw [if_pos rfl] at hx
      rcases List.mem_append.1 hx with hx | hx
      · exact h3 x hx
      · obtain ⟨a, ha, rfl⟩ := List.getElem_of_mem hx
        rw [List.length_take] at ha
        rw [List.getElem_take]
        exact (hI a (by omega)).2 (by omega)
    · have hu' : (l.setIfInBounds i true).getD m false = false := by rw [getD_set_ne false him]; exact hu
      have hAk : ∀ (b : Nat) (hb : b < C.length), C[b] ∈ A i → b < k := fun b hb hx => (hI b hb).1 (h3 _ hx)
      have head : ∀ j, k ≤ j → (∀ (b : Nat) (hb : b < C.length), C[b] = i → b < j) → ∀ x ∈ altA A m C j i, l.getD x false = true := fun j hj hij x hx => by
        unfold altA at hx
        rw [if_neg him] at hx
        split at hx
        · rename_i hany
          exfalso
          obtain ⟨c, hc, hcc⟩ := List.any_eq_true.1 hany
          obtain ⟨b, hb, rfl⟩ := List.getElem_of_mem hc
          rw [List.length_drop] at hb
          rw [List.getElem_drop] at hcc
          simp only [Bool.or_eq_true, beq_iff_eq, List.contains_iff_mem] at hcc
          rcases hcc with hcc | hcc
          · have := hij (j + b) (by omega) hcc; omega
          · have := hAk (j + b) (by omega) hcc; omega
        · exact h3 x hx
      by_cases hiC : i ∈ C
      · obtain ⟨b, hb, hbi⟩ := List.getElem_of_mem hiC
        have hbk : b = k := by
          have h5 : ¬ b < k := fun h => by have := (hI b hb).2 h; rw [hbi, h1] at this; cases this
          rcases Nat.lt_or_ge k b with h6 | h6
          · have := hAk k (by omega) (hbi ▸ hC k b (by omega) hb h6); omega
          · omega
        subst hbk
        obtain ⟨j, q1, q2, q3⟩ := goodL_alt hm hC hnd (L := L) (l := l.setIfInBounds i true) (k := b + 1) (by simpa using hs) (by omega) (fun a ha => by
          by_cases hab : a = b
          · subst hab
            rw [hbi, getD_set_eq hil]
            simp
          · have hne : i ≠ C[a] := fun e => hab (hnd a b ha hb (by rw [hbi, e]))
            rw [getD_set_ne false hne, hI a ha]
            omega) hu' h4
        exact ⟨j, by omega, q2, h1, h2, head j (by omega) (fun c hc he => by have := hnd c b hc hb (by rw [hbi, he]); omega), q3⟩
      · obtain ⟨j, q1, q2, q3⟩ := goodL_alt hm hC hnd (L := L) (l := l.setIfInBounds i true) (k := k) (by simpa using hs) hk (fun a ha => by
          have hne : i ≠ C[a] := fun e => hiC (by rw [e]; exact List.getElem_mem ha)
          rw [getD_set_ne false hne, hI a ha]) hu' h4
        exact ⟨j, q1, q2, h1, h2, head j q1 (fun b hb e => absurd (e ▸ List.getElem_mem hb) hiC), q3⟩
theorem chain_at {A : Nat → List Nat} : ∀ {C : List Nat}, chainOk A C = true → ∀ (a b : Nat) (ha : a < C.length) (hb : b < C.length), a < b → C[a] ∈ A C[b] ∧ C[a] ≠ C[b]
  | [], _, a, b, ha, hb, hab => by simp at ha
  | c :: r, h, a, b, ha, hb, hab => by
    simp only [chainOk, Bool.and_eq_true, List.all_eq_true, List.contains_iff_mem, Bool.not_eq_true', beq_eq_false_iff_ne] at h
    obtain ⟨b, rfl⟩ : ∃ b', b = b' + 1 := ⟨b - 1, by omega⟩
    cases a with
    | zero =>
      have := h.1 _ (List.getElem_mem (show b < r.length by simpa using hb))
      simpa using this
    | succ a =>
      have := chain_at h.2 a b (by simpa using ha) (by simpa using hb) (by omega)
      simpa using this
theorem alts_mem {is : List IOper} {A : Nat → List Nat} {m : Nat} {C : List Nat} : ∀ {n : Nat} {ls : List (List (IOper × List IOper))}, altsOf is A m C n = some ls → ∀ j, j ≤ n → ∃ l ∈ ls, dcompJ is (altA A m C j) = some l
  | 0, ls, h, j, hj => by
    obtain rfl : j = 0 := by omega
    simp only [altsOf, Option.map_eq_some_iff] at h
    obtain ⟨l, h1, rfl⟩ := h
    exact ⟨l, by simp, h1⟩
  | n + 1, ls, h, j, hj => by
    simp only [altsOf] at h
    split at h
    · rename_i ls' l h1 h2
      injection h with h
      subst h
      rcases Nat.lt_or_ge n j with h3 | h3
      · obtain rfl : j = n + 1 := by omega
        exact ⟨l, by simp, h2⟩
      · obtain ⟨l', q1, q2⟩ := alts_mem h1 j h3
        exact ⟨l', by simp [q1], q2⟩
    · cases h
/-- A region whose order is drawn, and in which a variable may be made at any time. -/
theorem vcA_sound {P : Program} {w0 : World} {rows : List Nat} {ops : Array Oper} {is : List IOper} (hc : compOps P rows ops ops.toList = some is) {ls : List (List (IOper × List IOper))} (hd : dcompA P ops is = some ls)
    {Γ : Con} {h : AH} {w : World} {fr : List AV} {a : Act} (H : WR w0 Γ h w) (hf : FR Γ fr a) {Q : AExit → List AV → AH → Prop} (hv : ∀ l ∈ ls, vcD P w0 l (Q .normal) fr h) {id : Nat} {ro : Option Nat} : (Code.region id ops true).wpIn (fen ro) 0 P (Post w0 a.defers Γ Q) a w := by
  simp only [dcompA] at hd
  split at hd
  · rename_i m hfm
    split at hd
    · rename_i hk
      simp only [Bool.and_eq_true, beq_iff_eq, Nat.blt_eq] at hk
      obtain ⟨⟨⟨⟨⟨hm, hlen⟩, hah⟩, hml⟩, hmC⟩, hch⟩ := hk
      obtain ⟨edge, ha⟩ := edges_of hlen hah
      have hn : ∀ j, (Array.replicate ops.size false).getD j false = false := fun j => by
        rcases Nat.lt_or_ge j ops.size with hh | hh <;> simp [hh]
      refine wpIn_region_draw fun t => ?_
      simp only [Region.schedule, hm, Bool.true_or, if_true]
      have hg := goodL_of edge ha (l := Array.replicate ops.size false) (by simp) (fun hi => by rw [hn] at hi; cases hi) (goodE_lin ops.size t _ (by simp) (Nat.le_trans (List.length_filter_le _ _) (by simp)))
      obtain ⟨j, _, hj, hgj⟩ := goodL_alt (by omega) (fun a b ha hb hab => (chain_at hch a b ha hb hab).1) (fun a b ha hb e => by
        rcases Nat.lt_trichotomy a b with h | h | h
        · exact absurd e (chain_at hch a b ha hb h).2
        · exact h
        · exact absurd e.symm (chain_at hch b a hb ha h).2) (k := 0) (by simp) (Nat.zero_le _) (fun a ha => by rw [hn]; simp) (hn m) hg
      obtain ⟨l, hl, hdj⟩ := alts_mem hd j hj
      simp only [dcompJ] at hdj
      split at hdj
      · rename_i hkj
        injection hdj with hdj
        subst hdj
        simp only [Bool.and_eq_true] at hkj
        obtain ⟨⟨hord, hpair⟩, hquiet⟩ := hkj
        have hdok := dok_of hc hlen edge hpair hquiet
        exact DI.order hdok (.refl Γ) (DI.start (by rw [← hlen]; exact hord) H.drew hf (hv _ hl)) hgj
      · cases hdj
    · cases hd
  · cases hd
theorem plainD_vc {P : Program} {w0 : World} {Q : List AV → AH → Prop} : ∀ {l : List (IOper × List IOper)} {is : List IOper}, plainD l = some is → ∀ {fr : List AV} {h : AH}, vcOps P w0 is Q fr h → vcD P w0 l Q fr h
  | [], is, hp, fr, h, hv => by
    simp only [plainD, Option.some.injEq] at hp
    subst hp; exact hv
  | (o, []) :: r, is, hp, fr, h, hv => by
    simp only [plainD, Option.map_eq_some_iff] at hp
    obtain ⟨is', hp', rfl⟩ := hp
    simp only [vcOps] at hv
    simp only [vcD, stabs, true_and]
    split at hv
    · rename_i hw
      rw [if_pos hw]
      exact vcOp_mono (fun v h' hh => plainD_vc hp' hh) hv
    · rename_i hw
      rw [if_neg hw]
      exact plainD_vc hp' hv
  | (o, c :: cs) :: r, is, hp, fr, h, hv => by simp [plainD] at hp
end Go.Abs
/- A program logic over abstract states, 18: what is computed of code holds of it. -/
namespace Go.Abs
open Go Go.RowKit
set_option linter.unusedVariables false
set_option linter.unusedSimpArgs false
section
variable {P : Program} {w0 : World}

theorem steps_tail {I : Machine → Prop} {m m1 m' : Machine} (hs : step P m = .next m1) (h : StepsIn I P m m') (hne : m' ≠ m) : StepsIn I P m1 m' := by
  cases h with
  | refl => exact absurd rfl hne
  | head hI h1 rest =>
    rw [hs] at h1
    injection h1 with h1
    subst h1
    exact rest
theorem exitTo_len {id : Nat} : ∀ {k k' : List Item}, exitTo id k = some k' → k'.length < k.length
  | [], k', h => by simp [exitTo] at h
  | x :: k, k', h => by
    have rest : exitTo id k = some k' → k'.length < (x :: k).length := fun hh => by have := exitTo_len hh; simp; omega
    cases x with
    | inBlock j =>
      simp only [exitTo] at h
      split at h
      · injection h with h; subst h; simp
      · exact rest h
    | _ => exact rest h
/-- One more round of a loop (where the way out 'outgrown' is never taken). -/
theorem wp_loop_unroll {F : Fence} {n : Nat} {c : Code} {Q : Exit → Act → World → Prop} (hout : ∀ a w, ¬ Q .outgrown a w) (hgo : ∀ l a w, ¬ Q (.goto l) a w) {a : Act} {w : World} (h : c.wpIn F n P (Exit.then ((Code.loop c).wpIn F n P Q) Q) a w) : (Code.loop c).wpIn F n P Q a w := by
  intro b k cs hro hb hr
  obtain ⟨e, a₁, w₁, hq, harr⟩ := h b (.inLoop c :: k) cs hro hb hr
  have s0 : ∀ {a : Act} {w : World}, StepsIn (Machine.fenced P F) P (lone (b.atR a (.code (.loop c) :: k)) cs w) (lone (b.atR a (.code c :: .inLoop c :: k)) cs w) := .one (fenced_calm hb hr rfl) stepR_loop
  cases e with
  | normal =>
    obtain ⟨e₂, a₂, w₂, hq₂, harr₂⟩ := hq b k cs hro hb hr
    refine ⟨e₂, a₂, w₂, hq₂, .of_steps (StepsIn.trans s0 (StepsIn.trans harr (.one (fenced_calm hb hr rfl) stepR_inLoop))) ?_⟩
    have hs : step P (lone (b.atR a₁ (.code (.loop c) :: k)) cs w₁) = .next (lone (b.atR a₁ (.code c :: .inLoop c :: k)) cs w₁) := stepR_loop
    have hne : ∀ {a' : Act} {k' : List Item} {w' : World}, k'.length ≤ k.length → lone (b.atR a' k') cs w' ≠ lone (b.atR a₁ (.code (.loop c) :: k)) cs w₁ := by
      intro a' k' w' hl he
      simp only [lone, Frame.atR, Machine.mk.injEq, Array.mk.injEq, List.cons.injEq, Goroutine.mk.injEq, Frame.mk.injEq] at he
      have := he.2.1
      simp at this
      have h2 := congrArg List.length this.2.1
      simp at h2
      omega
    cases e₂ with
    | normal => exact steps_tail hs harr₂ (hne (Nat.le_refl _))
    | exit id =>
      refine ⟨fun k' hk => steps_tail hs (harr₂.1 k' hk) (hne (Nat.le_of_lt (exitTo_len hk))), fun h1 h2 => ?_⟩
      obtain ⟨k₁, h3, h4⟩ := harr₂.2 h1 h2
      refine ⟨k₁, h3, steps_tail hs h4 fun he => ?_⟩
      simp only [lone, Frame.atR, Machine.mk.injEq, Array.mk.injEq, List.cons.injEq, Goroutine.mk.injEq, Frame.mk.injEq] at he
      have := he.2.1
      simp at this
    | goto l => exact absurd hq₂ (hgo l _ _)
    | ret =>
      refine ⟨fun h1 => ?_, fun h1 => ?_⟩
      · obtain ⟨todo, hst⟩ := harr₂.1 h1
        refine ⟨todo, steps_tail hs hst ?_⟩
        intro he
        simp [lone, Frame.atR] at he
      · obtain ⟨k₁, hst⟩ := harr₂.2 h1
        refine ⟨k₁, steps_tail hs hst ?_⟩
        intro he
        simp [lone, Frame.atR] at he
    | panic ch =>
      obtain ⟨todo, hst⟩ := harr₂
      refine ⟨todo, steps_tail hs hst ?_⟩
      intro he
      simp [lone, Frame.atR] at he
    | outgrown => exact absurd hq₂ (hout _ _)
  | exit id => exact ⟨_, a₁, w₁, hq, .of_steps s0 (.pass (x := .inLoop c) rfl (fun _ _ => .inl (by simp)) harr)⟩
  | goto l => exact absurd hq (hgo l _ _)
  | ret => exact ⟨_, a₁, w₁, hq, .of_steps s0 (.pass (x := .inLoop c) rfl (fun _ _ => .inl (by simp)) harr)⟩
  | panic ch => exact ⟨_, a₁, w₁, hq, .of_steps s0 (.pass (x := .inLoop c) rfl (fun _ _ => .inl (by simp)) harr)⟩
  | outgrown => exact absurd hq (hout _ _)

theorem stepR_scope {P : Program} {b : Frame} {a : Act} {k : List Item} {cs : List Frame} {w : World} {c : Code} : step P (lone (b.atR a (.code (.scope c) :: k)) cs w) = .next (lone (b.atR a (.code c :: .inScope c :: k)) cs w) :=
  step_lone_go (by simp [stepG, stepG.exec, Frame.atR])
theorem stepR_inScope {P : Program} {b : Frame} {a : Act} {k : List Item} {cs : List Frame} {w : World} {c : Code} : step P (lone (b.atR a (.inScope c :: k)) cs w) = .next (lone (b.atR a k) cs w) :=
  step_lone_go (by simp [stepG, stepG.exec, Frame.atR])
/-- A scope in which nothing jumps to a label. -/
theorem wpIn_scope {F : Fence} {n : Nat} {P : Program} {c : Code} {Q : Exit → Act → World → Prop} {a : Act} {w : World} (hgo : ∀ l a w, ¬ Q (.goto l) a w) (h : c.wpIn F n P Q a w) : (Code.scope c).wpIn F n P Q a w := by
  intro b k cs hro hb hr
  have h0 : (lone (b.atR a (.code (.scope c) :: k)) cs w).fenced P F := fenced_calm hb hr rfl
  obtain ⟨e, a₁, w₁, hq, harr⟩ := h b (.inScope c :: k) cs hro hb hr
  cases e with
  | normal => exact ⟨.normal, a₁, w₁, hq, .head h0 stepR_scope (StepsIn.trans harr (.one (fenced_calm hb hr rfl) stepR_inScope))⟩
  | goto l => exact absurd hq (hgo l _ _)
  | exit id =>
    have hx : exitTo id (.inScope c :: k) = exitTo id k := by simp [exitTo]
    exact ⟨.exit id, a₁, w₁, hq, fun k' hk => .head h0 stepR_scope (harr.1 k' (by rw [hx]; exact hk)), fun hr' hk => let ⟨k₁, h1, h2⟩ := harr.2 hr' (by rw [hx]; exact hk); ⟨k₁, h1, .head h0 stepR_scope h2⟩⟩
  | ret => exact ⟨.ret, a₁, w₁, hq, .of_steps (.one h0 stepR_scope) harr⟩
  | panic ch => exact ⟨.panic ch, a₁, w₁, hq, .of_steps (.one h0 stepR_scope) harr⟩
  | outgrown => exact ⟨.outgrown, a₁, w₁, hq, .of_steps (.one h0 stepR_scope) harr⟩

/-- What is computed of compiled code holds of the code. -/
theorem vc_sound {rows : List Nat} : ∀ {c : Code} {ic : IC}, comp P rows c = some ic → ∀ {Q : AExit → List AV → AH → Prop} {fr : List AV} {h : AH}, vc P w0 ic Q fr h → W P w0 c Q fr h
  | .skip, ic, hc, Q, fr, h, hv => by
    simp only [comp, Option.some.injEq] at hc
    subst hc
    intro ro Γ w a H hf
    exact wpIn_skip ⟨rfl, .normal, Γ, fr, h, trivial, .refl _, hf, H, hv⟩
  | .label l, ic, hc, Q, fr, h, hv => by
    simp only [comp, Option.some.injEq] at hc
    subst hc
    intro ro Γ w a H hf
    exact wpIn_label ⟨rfl, .normal, Γ, fr, h, trivial, .refl _, hf, H, hv⟩
  | .region id ops d, ic, hc, Q, fr, h, hv => by
    cases d with
    | true =>
      simp only [comp] at hc
      split at hc
      · rename_i is his
        split at hc
        · rename_i l hd
          intro ro Γ w a H hf
          split at hc
          · rename_i is' hp
            injection hc with hc
            subst hc
            exact vcD_sound his hd H hf (plainD_vc hp hv)
          · injection hc with hc
            subst hc
            exact vcD_sound his hd H hf hv
        · split at hc
          · rename_i ls hA
            injection hc with hc
            subst hc
            intro ro Γ w a H hf
            exact vcA_sound his hA H hf hv
          · cases hc
      · cases hc
    | false =>
      simp only [comp, Option.map_eq_some_iff] at hc
      obtain ⟨is, his, rfl⟩ := hc
      intro ro Γ w a H hf
      exact wpIn_region_list (vcOps_sound his H hf (.refl _) rfl hv)
  | .seq x y, ic, hc, Q, fr, h, hv => by
    simp only [comp] at hc
    split at hc
    · rename_i ix iy hx hy
      injection hc with hc
      subst hc
      intro ro Γ w a H hf
      refine wpIn_seq (wpIn_mono (vc_sound hx hv ro Γ w a H hf) fun e a' w' hp => ?_)
      obtain ⟨hd, ae, Γ', fr', h', h1, h2, h3, h4, h5⟩ := hp
      cases e <;> cases ae <;> simp only [exitOf] at h1
      · exact wpIn_mono (vc_sound hy h5 ro Γ' w' a' h4 h3) fun e a w hp => by rw [hd] at hp; exact hp.weaken h2
      · exact ⟨hd, .exit _, Γ', fr', h', h1, h2, h3, h4, h5⟩
      · exact ⟨hd, .ret, Γ', fr', h', trivial, h2, h3, h4, h5⟩
    · cases hc
  | .cond X x y, ic, hc, Q, fr, h, hv => by
    simp only [comp] at hc
    split at hc
    · rename_i ox ix iy hX hx hy
      injection hc with hc
      subst hc
      intro ro Γ w a H hf
      have hxr := hf.eval hX
      simp only [vc] at hv
      split at hv
      · rename_i t ht
        rw [ht] at hxr
        refine wpIn_cond hxr.inv_v ?_
        cases t
        · exact vc_sound hy hv ro Γ w a H hf
        · exact vc_sound hx hv ro Γ w a H hf
      · exact hv.elim
    · cases hc
  | .block id b, ic, hc, Q, fr, h, hv => by
    simp only [comp, Option.map_eq_some_iff] at hc
    obtain ⟨ib, hb, rfl⟩ := hc
    intro ro Γ w a H hf
    refine wpIn_block (wpIn_mono (vc_sound hb hv ro Γ w a H hf) fun e a' w' hp => ?_)
    obtain ⟨hd, ae, Γ', fr', h', h1, h2, h3, h4, h5⟩ := hp
    cases e <;> cases ae <;> simp only [exitOf] at h1
    · exact ⟨hd, .normal, Γ', fr', h', trivial, h2, h3, h4, h5⟩
    · subst h1
      simp only [blkQ] at h5
      simp only [Exit.inBlock]
      split
      · rename_i hid
        rw [if_pos hid] at h5
        exact ⟨hd, .normal, Γ', fr', h', trivial, h2, h3, h4, h5⟩
      · rename_i hid
        rw [if_neg hid] at h5
        exact ⟨hd, .exit _, Γ', fr', h', rfl, h2, h3, h4, h5⟩
    · exact ⟨hd, .ret, Γ', fr', h', trivial, h2, h3, h4, h5⟩
  | .loop b, ic, hc, Q, fr, h, hv => by
    simp only [comp, Option.map_eq_some_iff] at hc
    obtain ⟨ib, hb, rfl⟩ := hc
    exact hv rows b hb
  | .exit id, ic, hc, Q, fr, h, hv => by
    simp only [comp, Option.some.injEq] at hc
    subst hc
    intro ro Γ w a H hf
    exact wpIn_exit ⟨rfl, .exit id, Γ, fr, h, rfl, .refl _, hf, H, hv⟩
  | .ret, ic, hc, Q, fr, h, hv => by
    simp only [comp, Option.some.injEq] at hc
    subst hc
    intro ro Γ w a H hf
    exact wpIn_ret ⟨rfl, .ret, Γ, fr, h, trivial, .refl _, hf, H, hv⟩
  | .rangeFunc _ _ _ _, ic, hc, Q, fr, h, hv => by simp [comp] at hc
  | .scope c, ic, hc, Q, fr, h, hv => by
    simp only [comp] at hc
    intro ro Γ w a H hf
    refine wpIn_scope (fun l a w hp => ?_) (vc_sound hc hv ro Γ w a H hf)
    obtain ⟨_, ae, Γ', fr', h', h1, _⟩ := hp
    cases ae <;> exact h1
  | .goto _, ic, hc, Q, fr, h, hv => by simp [comp] at hc
  | .refuse _, ic, hc, Q, fr, h, hv => by simp [comp] at hc

/-- One round, and the loop again. -/
theorem Lp.unfold {b : IC} {Q : AExit → List AV → AH → Prop} {fr : List AV} {h : AH} (hv : vc P w0 b (seqQ (Lp P w0 b Q) Q) fr h) : Lp P w0 b Q fr h := by
  intro rows c hc ro Γ w a H hf
  refine wp_loop_unroll (fun a w hp => ?_) (fun l a w hp => ?_) (wpIn_mono (vc_sound hc hv ro Γ w a H hf) fun e a' w' hp => ?_)
  · obtain ⟨_, ae, Γ', fr', h', h1, _⟩ := hp
    cases ae <;> exact h1
  · obtain ⟨_, ae, Γ', fr', h', h1, _⟩ := hp
    cases ae <;> exact h1
  · obtain ⟨hd, ae, Γ', fr', h', h1, h2, h3, h4, h5⟩ := hp
    cases e <;> cases ae <;> simp only [exitOf] at h1
    · exact wpIn_mono (h5 rows c hc ro Γ' w' a' h4 h3) fun e a w hp => by rw [hd] at hp; exact hp.weaken h2
    · exact ⟨hd, .exit _, Γ', fr', h', h1, h2, h3, h4, h5⟩
    · exact ⟨hd, .ret, Γ', fr', h', trivial, h2, h3, h4, h5⟩
/-- A loop by what holds at each round's head, and a number that goes down. -/
theorem Lp.ind {b : IC} {Q : AExit → List AV → AH → Prop} (I : List AV → AH → Prop) (μ : List AV → AH → Nat) (round : ∀ fr h, I fr h → vc P w0 b (seqQ (fun fr' h' => I fr' h' ∧ μ fr' h' < μ fr h) Q) fr h)
    (mono : ∀ {K K' : List AV → AH → Prop} {fr h}, (∀ fr h, K fr h → K' fr h) → vc P w0 b (seqQ K Q) fr h → vc P w0 b (seqQ K' Q) fr h) {fr : List AV} {h : AH} (hi : I fr h) : Lp P w0 b Q fr h := by
  have key : ∀ n fr h, μ fr h = n → I fr h → Lp P w0 b Q fr h := by
    intro n
    induction n using Nat.strongRecOn with
    | _ n ih =>
      intro fr h hn hi
      refine Lp.unfold (mono (fun fr' h' hh => ?_) (round fr h hi))
      exact ih (μ fr' h') (by omega) fr' h' rfl hh.1
  exact key _ fr h rfl hi

/-! a function's body -/
/-- What a function hands back: slots, or variables in memory. -/
inductive ARes where
  | tmp (t : Nat)
  | cell (t : Nat) (sz : Option Nat)
def aresOne (fr : List AV) (h : AH) : ARes → Option AV
  | .tmp t => some (fr.getD t (.v undef))
  | .cell t sz => match fr.getD t (.v undef) with
    | .ptr id off => match h.objs id with
      | some (.cells cs) => rd cs off sz
      | _ => none
    | _ => none
def aresAll (fr : List AV) (h : AH) : List ARes → Option (List AV)
  | [] => some []
  | r :: rs => match aresOne fr h r, aresAll fr h rs with
    | some v, some vs => some (v :: vs)
    | _, _ => none
def ares (fr : List AV) (h : AH) : List ARes → Option AV
  | [r] => aresOne fr h r
  | rs => (aresAll fr h rs).map .tup
def compRes (P : Program) : List ResultVar → Option (List ARes)
  | [] => some []
  | .tmp t :: rs => (compRes P rs).map (.tmp t :: ·)
  | .cell t ty :: rs => match aggSz P ty, compRes P rs with
    | some s, some rs => some (.cell t s :: rs)
    | _, _ => none
end
end Go.Abs
/- A program logic over abstract states, 17: a function's body; abstract heaps that grow. -/
namespace Go.Abs
open Go Go.RowKit
set_option linter.unusedVariables false
set_option linter.unusedSimpArgs false

section
variable {P : Program} {w0 : World}

theorem run_resOne {Γ : Con} {fr : List AV} {h : AH} {w : World} {a : Act} (H : WR w0 Γ h w) (hf : FR Γ fr a) {r : ResultVar} {q : ARes} (hq : compRes P [r] = some [q]) {v : AV} (hv : aresOne fr h q = some v) :
    ∃ x, ((match r with
      | .tmp t => pure (a.tmps.getD t undef)
      | .cell b t => do loadVar t (← asAddr (a.tmps.getD b undef)) : Sem Value)).run P w = .ok x w ∧ RV Γ v x := by
  have hev : ∀ t, RV Γ (fr.getD t (.v undef)) (a.tmps.getD t undef) := fun t => hf.eval (P := P) (t := 0) (X := .tmp t) rfl
  cases r with
  | tmp t =>
    simp only [compRes, Option.map_some, Option.some.injEq, List.cons.injEq, and_true] at hq
    subst hq
    simp only [aresOne, Option.some.injEq] at hv
    subst hv
    exact ⟨_, rfl, hev t⟩
  | cell b t =>
    simp only [compRes] at hq
    split at hq
    · rename_i s rs hs hrs
      simp only [Option.some.injEq, List.cons.injEq] at hq
      obtain ⟨rfl, rfl⟩ := hq
      simp only [aresOne] at hv
      split at hv
      · rename_i id off hk
        have hx := hev b
        rw [hk] at hx
        obtain ⟨bb, hb, hxv⟩ := hx.inv_ptr
        split at hv
        · rename_i cs ho
          obtain ⟨y, hy, hyv⟩ := run_rd (P := P) hs (H.here ho hb) hv
          rw [Nat.zero_add] at hy
          refine ⟨y, ?_, hyv⟩
          simp only [hxv, asAddr, Sem.run_bind, Sem.run_pure, Result.andThen_ok, hy]
        · cases hv
      · cases hv
    · cases hq
theorem run_results {Γ : Con} {fr : List AV} {h : AH} {w : World} {a : Act} (H : WR w0 Γ h w) (hf : FR Γ fr a) {fn : Func} {rs : List ARes} (hr : compRes P fn.results.toList = some rs) {v : AV} (hv : ares fr h rs = some v) : ∃ x, (results fn a.tmps).run P w = .ok x w ∧ RV Γ v x := by
  have all : ∀ (l : List ResultVar) (rs : List ARes) (vs : List AV), compRes P l = some rs → aresAll fr h rs = some vs →
      ∃ xs : List Value, (l.mapM (fun r => (match r with
        | .tmp t => pure (a.tmps.getD t undef)
        | .cell b t => do loadVar t (← asAddr (a.tmps.getD b undef)) : Sem Value))).run P w = .ok xs w ∧ RVs Γ vs xs := by
    intro l
    induction l with
    | nil =>
      intro rs vs hr hv
      simp only [compRes, Option.some.injEq] at hr
      subst hr
      simp only [aresAll, Option.some.injEq] at hv
      subst hv
      exact ⟨[], rfl, .nil⟩
    | cons r l ih =>
      intro rs vs hr hv
      obtain ⟨q, rs', hq, hrs', rfl⟩ : ∃ q rs', compRes P [r] = some [q] ∧ compRes P l = some rs' ∧ rs = q :: rs' := by
        cases r with
        | tmp t =>
          simp only [compRes, Option.map_eq_some_iff] at hr
          obtain ⟨rs', h1, rfl⟩ := hr
          exact ⟨.tmp t, rs', by simp [compRes], h1, rfl⟩
        | cell b t =>
          simp only [compRes] at hr
          split at hr
          · rename_i s rs' hs hrs'
            injection hr with hr
            subst hr
            exact ⟨.cell b s, rs', by simp [compRes, hs], hrs', rfl⟩
          · cases hr
      simp only [aresAll] at hv
      split at hv
      · rename_i v vs' hv1 hvs
        injection hv with hv
        subst hv
        obtain ⟨x, hx, hxv⟩ := run_resOne H hf hq hv1
        obtain ⟨xs, hxs, hxsv⟩ := ih rs' vs' hrs' hvs
        refine ⟨x :: xs, ?_, .cons hxv hxsv⟩
        rw [List.mapM_cons, Sem.run_bind, hx]
        simp only [Result.andThen_ok]
        rw [Sem.run_bind, hxs]; rfl
      · cases hv
  have one : ∀ q, rs = [q] → ∃ vs, aresAll fr h rs = some vs ∧ vs = [v] := by
    intro q hq
    subst hq
    simp only [ares] at hv
    exact ⟨[v], by simp [aresAll, hv], rfl⟩
  have hlen : ∀ (l : List ResultVar) (rs : List ARes), compRes P l = some rs → rs.length = l.length := by
    intro l
    induction l with
    | nil => intro rs hr; simp only [compRes, Option.some.injEq] at hr; subst hr; rfl
    | cons r l ih =>
      intro rs hr
      cases r with
      | tmp t =>
        simp only [compRes, Option.map_eq_some_iff] at hr
        obtain ⟨rs', h1, rfl⟩ := hr
        simp [ih rs' h1]
      | cell b t =>
        simp only [compRes] at hr
        split at hr
        · rename_i s rs' hs hrs'
          injection hr with hr
          subst hr
          simp [ih rs' hrs']
        · cases hr
  have hl := hlen _ _ hr
  by_cases h1 : ∃ q, rs = [q]
  · obtain ⟨q, hq⟩ := h1
    obtain ⟨vs, hvs, rfl⟩ := one q hq
    obtain ⟨xs, hxs, hxsv⟩ := all _ _ _ hr hvs
    have hxl : xs.length = 1 := by simpa using hxsv.len
    obtain ⟨x, rfl⟩ : ∃ x, xs = [x] := by
      cases xs with
      | nil => simp at hxl
      | cons x xs => cases xs with
        | nil => exact ⟨x, rfl⟩
        | cons y ys => simp at hxl
    refine ⟨x, ?_, hxsv.at_ 0 (by simp) (by simp)⟩
    unfold results
    rw [Sem.run_bind, Array.mapM_eq_mapM_toList, Sem.run_map]
    refine Eq.trans (congrArg (fun r => (Result.andThen (Result.andThen r fun a w' => .ok a.toArray w') fun vs w' => Sem.run P (pure (if h : vs.size = 1 then vs[0] else .tuple vs)) w')) hxs) ?_
    simp
  · have hv2 : (aresAll fr h rs).map .tup = some v := by
      unfold ares at hv
      split at hv
      · exact absurd ⟨_, rfl⟩ h1
      · exact hv
    simp only [Option.map_eq_some_iff] at hv2
    obtain ⟨vs, hvs, rfl⟩ := hv2
    obtain ⟨xs, hxs, hxsv⟩ := all _ _ _ hr hvs
    have hxl : xs.length ≠ 1 := by
      intro he
      have h2 := hxsv.len
      have h3 : ∀ (rs : List ARes) (vs : List AV), aresAll fr h rs = some vs → vs.length = rs.length := by
        intro rs
        induction rs with
        | nil => intro vs hh; simp only [aresAll, Option.some.injEq] at hh; subst hh; rfl
        | cons r rs ih =>
          intro vs hh
          simp only [aresAll] at hh
          split at hh
          · rename_i v' vs' _ hvs'
            injection hh with hh
            subst hh
            simp [ih vs' hvs']
          · cases hh
      have h4 := h3 _ _ hvs
      have h5 : rs.length = 1 := by omega
      cases rs with
      | nil => simp at h5
      | cons r rs => cases rs with
        | nil => exact h1 ⟨r, rfl⟩
        | cons y ys => simp at h5
    refine ⟨.tuple xs.toArray, ?_, .tup (by simpa using hxsv.len) (fun i hi hi' => by simpa using hxsv.at_ i hi (by simpa using hi'))⟩
    unfold results
    rw [Sem.run_bind, Array.mapM_eq_mapM_toList, Sem.run_map]
    refine Eq.trans (congrArg (fun r => (Result.andThen (Result.andThen r fun a w' => .ok a.toArray w') fun vs w' => Sem.run P (pure (if h : vs.size = 1 then vs[0] else .tuple vs)) w')) hxs) ?_
    simp [hxl]

/-- A function's compiled body. -/
structure HasBody (P : Program) (f : FuncId) (nt : Nat) (ic : IC) (rs : List ARes) : Prop where
  out : ∃ fn c rows, P.funcs[f]? = some fn ∧ fn.body = some c ∧ comp P rows c = some ic ∧ fn.ntmps = nt ∧ compRes P fn.results.toList = some rs ∧ (fn.name == "runtime.NumGoroutine") = false
def getBody (P : Program) (f : FuncId) (rows : List Nat) : Option (Nat × IC × List ARes) :=
  match P.funcs[f]? with
  | some fn => match fn.body with
    | some c => match comp P rows c, compRes P fn.results.toList with
      | some ic, some rs => if fn.name == "runtime.NumGoroutine" then none else some (fn.ntmps, ic, rs)
      | _, _ => none
    | none => none
  | none => none
theorem HasBody.of {P : Program} {f : FuncId} {nt : Nat} {ic : IC} {rs : List ARes} (rows : List Nat) (h : getBody P f rows = some (nt, ic, rs)) : HasBody P f nt ic rs := by
  unfold getBody at h
  split at h
  · rename_i fn hfn
    split at h
    · rename_i c hc
      split at h
      · rename_i ic' rs' h1 h2
        split at h
        · cases h
        · rename_i hn
          simp only [Option.some.injEq, Prod.mk.injEq] at h
          obtain ⟨rfl, rfl, rfl⟩ := h
          exact ⟨fn, c, rows, hfn, hc, h1, rfl, h2, by simpa using hn⟩
      · cases h
    · cases h
  · cases h
/-- Bytes. -/
def bs (l : List UInt8) : ByteArray := ⟨l.toArray⟩
def retQ (rs : List ARes) (Q : AV → AH → Prop) : AExit → List AV → AH → Prop
  | .exit _, _, _ => False
  | _, fr, h => match ares fr h rs with
    | some v => Q v h
    | none => False
theorem Call.body {f : FuncId} {nt : Nat} {ic : IC} {rs : List ARes} (hb : HasBody P f nt ic rs) {args : List AV} {h : AH} {Q : AV → AH → Prop} (hv : vc P w0 ic (retQ rs Q) (args ++ List.replicate (nt - args.length) (.v undef)) h) : Call P w0 f args h Q := by
  obtain ⟨fn, c, rows, hfn, hbody, hcomp, hnt, hres, hname⟩ := hb.out
  refine ⟨⟨fn, hfn, by rw [hbody]; rfl, hname⟩, fun Γ w vs H hvs => ?_⟩
  have hlen := hvs.len
  have hfr : FR Γ (args ++ List.replicate (nt - args.length) (.v undef)) { tmps := vs.toArray ++ Array.replicate (fn.ntmps - vs.toArray.size) undef, defers := [] } := by
    refine ⟨by simp [hlen, hnt], fun i hi hi' => ?_⟩
    simp only [List.length_append, List.length_replicate] at hi
    by_cases hlt : i < args.length
    · rw [List.getElem_append_left hlt]
      have : i < vs.toArray.size := by simp; omega
      rw [Array.getElem_append_left this]
      simpa using hvs.at_ i hlt (by omega)
    · rw [List.getElem_append_right (by omega), Array.getElem_append_right (by simp; omega)]
      simp only [List.getElem_replicate, Array.getElem_replicate]
      exact .v _
  refine fen_calls.1 (callsIn_of_wp (F := fen none) (n := 0) hfn hbody trivial (wpIn_mono (vc_sound hcomp hv none Γ w _ H hfr) fun e a' w' hp => ?_))
  obtain ⟨hd, ae, Γ', fr', h', h1, h2, h3, h4, h5⟩ := hp
  have fin : (match ares fr' h' rs with | some v => Q v h' | none => False) → a'.defers = [] ∧ ∃ v, (results fn a'.tmps).run P w' = .ok v w' ∧ ∃ x Γ' v' h', Ending.returned v = .returned x ∧ Γ.le Γ' ∧ RV Γ' v' x ∧ WR w0 Γ' h' w' ∧ Q v' h' := by
    intro hm
    split at hm
    · rename_i v hv'
      obtain ⟨x, hx, hxv⟩ := run_results (P := P) h4 h3 hres hv'
      exact ⟨hd, x, hx, x, Γ', v, h', rfl, h2, hxv, h4, hm⟩
    · exact hm.elim
  cases e <;> cases ae <;> simp only [exitOf] at h1
  · exact fin h5
  · exact h5.elim
  · exact fin h5
end

/-! heaps that grow -/
/-- All that was there is there, as it was. -/
structure Ext (h h' : AH) : Prop where
  n : h.n ≤ h'.n
  nt : h.nt ≤ h'.nt
  objs : ∀ i, i < h.n → h'.objs i = h.objs i
  ver : ∀ t, t < h.nt → h'.ver t = h.ver t
theorem Ext.refl (h : AH) : Ext h h := ⟨Nat.le_refl _, Nat.le_refl _, fun _ _ => rfl, fun _ _ => rfl⟩
theorem Ext.trans {a b c : AH} (h : Ext a b) (k : Ext b c) : Ext a c :=
  ⟨Nat.le_trans h.n k.n, Nat.le_trans h.nt k.nt, fun i hi => (k.objs i (Nat.lt_of_lt_of_le hi h.n)).trans (h.objs i hi), fun t ht => (k.ver t (Nat.lt_of_lt_of_le ht h.nt)).trans (h.ver t ht)⟩
theorem Ext.alloc (h : AH) (o : AObj) : Ext h (h.alloc o) := ⟨by simp [AH.alloc], Nat.le_refl _, fun i hi => by simp only [AH.alloc]; rw [if_neg (by omega)], fun _ _ => rfl⟩
theorem Ext.newTok (h : AH) : Ext h h.newTok := ⟨Nat.le_refl _, by simp [AH.newTok], fun _ _ => rfl, fun t ht => by simp only [AH.newTok]; rw [if_neg (by omega)]⟩
/-- A change at what is new is none to what was there. -/
theorem Ext.set {h h' : AH} (e : Ext h h') {i : Nat} (hi : h.n ≤ i) (o : AObj) : Ext h (h'.set i o) := ⟨e.n, e.nt, fun j hj => by simp only [AH.set]; rw [if_neg (by omega)]; exact e.objs j hj, e.ver⟩
theorem Ext.bump {h h' : AH} (e : Ext h h') {t : Nat} (ht : h.nt ≤ t) : Ext h (h'.bump t) := ⟨e.n, e.nt, e.objs, fun s hs => by simp only [AH.bump]; rw [if_neg (by omega)]; exact e.ver s hs⟩
end Go.Abs
/- A program logic over abstract states, 20: frames as functions; the form that is computed. -/
namespace Go.Abs
open Go Go.RowKit
set_option linter.unusedVariables false
set_option linter.unusedSimpArgs false

abbrev Fm := Nat → AV
def up (σ : Fm) (d : Option Nat) (v : AV) : Fm := match d with
  | some d => fun t => match Nat.beq t d with
    | true => v
    | false => σ t
  | none => σ
theorem up_none (σ : Fm) (v : AV) : up σ none v = σ := rfl
theorem up_at (σ : Fm) (d : Nat) (v : AV) (t : Nat) : up σ (some d) v t = if t = d then v else σ t := by
  simp only [up]
  by_cases h : t = d
  · subst h; simp
  · have : Nat.beq t d = false := by
      cases hb : Nat.beq t d with
      | false => rfl
      | true => exact absurd (Nat.eq_of_beq_eq_true hb) h
    rw [this, if_neg h]
def evF (σ : Fm) : Opd → AV
  | .tmp t => σ t
  | .cst a => a
theorem evF_tmp (σ : Fm) (t : Nat) : evF σ (.tmp t) = σ t := rfl
theorem evF_cst (σ : Fm) (a : AV) : evF σ (.cst a) = a := rfl
def wantF (g : Option (Nat × Bool)) (σ : Fm) : Bool :=
  match g with
  | none => true
  | some (d, b) => match σ d with
    | .v (.bool t) => t == b
    | _ => false
def opF (P : Program) (w0 : World) (op : IOp) (σ : Fm) (h : AH) (K : AV → AH → Prop) : Prop :=
  match op with
  | .app sz eb x y => match evF σ x with
    | .row id off len cap => AppR sz eb h id off len cap (srcRows sz h (evF σ y)) K
    | _ => match istep (.app sz eb x y) (evF σ) h with
      | some (v, h') => K v h'
      | none => False
  | .call f xs => Call P w0 f (xs.map (evF σ)) h K
  | .callv x xs => match evF σ x with
    | .func (.func f) first caps => Call P w0 f (first ++ xs.map (evF σ) ++ caps) h K
    | .func (.yield l) [] [] => Yld P w0 l (xs.map (evF σ)) h K
    | _ => False
  | op => match istep op (evF σ) h with
    | some (v, h') => K v h'
    | none => False
def opsF (P : Program) (w0 : World) : List IOper → (Fm → AH → Prop) → Fm → AH → Prop
  | [], Q, σ, h => Q σ h
  | o :: os, Q, σ, h => if wantF o.guard σ then opF P w0 o.op σ h fun v h' => opsF P w0 os Q (up σ o.dst v) h' else opsF P w0 os Q (up σ o.dst (.v undef)) h
def stabF (o : IOper) (σ : Fm) (h : AH) : Prop :=
  if wantF o.guard σ then match istep o.op (evF σ) h with
    | some (v, _) => match o.dst with
      | some d => σ d = v
      | none => True
    | none => False
  else True
def stabsF : List IOper → Fm → AH → Prop
  | [], _, _ => True
  | o :: os, σ, h => stabF o σ h ∧ stabsF os σ h
def dopsF (P : Program) (w0 : World) : List (IOper × List IOper) → (Fm → AH → Prop) → Fm → AH → Prop
  | [], Q, σ, h => Q σ h
  | (o, cs) :: os, Q, σ, h => if wantF o.guard σ then opF P w0 o.op σ h fun v h' => stabsF cs (up σ o.dst v) h' ∧ dopsF P w0 os Q (up σ o.dst v) h' else dopsF P w0 os Q (up σ o.dst (.v undef)) h
def seqF (K : Fm → AH → Prop) (Q : AExit → Fm → AH → Prop) : AExit → Fm → AH → Prop
  | .normal, σ, h => K σ h
  | .exit i, σ, h => Q (.exit i) σ h
  | .ret, σ, h => Q .ret σ h
def blkF (id : Nat) (Q : AExit → Fm → AH → Prop) : AExit → Fm → AH → Prop
  | .normal, σ, h => Q .normal σ h
  | .exit i, σ, h => if i = id then Q .normal σ h else Q (.exit i) σ h
  | .ret, σ, h => Q .ret σ h

def frF (fr : List AV) : Fm := fun t => fr.getD t (.v undef)
def liftQ (Q : AExit → Fm → AH → Prop) : AExit → List AV → AH → Prop := fun e fr h => Q e (frF fr) h
/-- A loop, by its frame. -/
def LpF (P : Program) (w0 : World) (n : Nat) (b : IC) (Q : AExit → Fm → AH → Prop) (σ : Fm) (h : AH) : Prop :=
  ∀ fr : List AV, fr.length = n → frF fr = σ → Lp P w0 b (fun e fr h => fr.length = n ∧ liftQ Q e fr h) fr h
def dallF (P : Program) (w0 : World) : List (List (IOper × List IOper)) → (Fm → AH → Prop) → Fm → AH → Prop
  | [], _, _, _ => True
  | l :: ls, Q, σ, h => dopsF P w0 l Q σ h ∧ dallF P w0 ls Q σ h
def vcF (P : Program) (w0 : World) (n : Nat) : IC → (AExit → Fm → AH → Prop) → Fm → AH → Prop
  | .skip, Q, σ, h => Q .normal σ h
  | .region ops, Q, σ, h => opsF P w0 ops (Q .normal) σ h
  | .dregion ops, Q, σ, h => dopsF P w0 ops (Q .normal) σ h
  | .dalts ls, Q, σ, h => dallF P w0 ls (Q .normal) σ h
  | .seq a b, Q, σ, h => vcF P w0 n a (seqF (vcF P w0 n b Q) Q) σ h
  | .cond x a b, Q, σ, h => match evF σ x with
    | .v (.bool t) => if t then vcF P w0 n a Q σ h else vcF P w0 n b Q σ h
    | _ => False
  | .block id b, Q, σ, h => vcF P w0 n b (blkF id Q) σ h
  | .loop b, Q, σ, h => LpF P w0 n b Q σ h
  | .exit id, Q, σ, h => Q (.exit id) σ h
  | .ret, Q, σ, h => Q .ret σ h

/-! every slot that is written is there -/
def opOk (n : Nat) (o : IOper) : Bool := match o.dst with
  | some d => Nat.blt d n
  | none => true
def icOk (n : Nat) : IC → Bool
  | .region ops => ops.all (opOk n)
  | .dregion ops => ops.all fun p => opOk n p.1
  | .dalts ls => ls.all fun l => l.all fun p => opOk n p.1
  | .seq a b => icOk n a && icOk n b
  | .cond _ a b => icOk n a && icOk n b
  | .block _ b => icOk n b
  | .loop b => icOk n b
  | _ => true

section
variable {P : Program} {w0 : World} {n : Nat}

theorem frF_put {fr : List AV} (hl : fr.length = n) {o : IOper} (ho : opOk n o = true) (v : AV) : (put fr o.dst v).length = n ∧ frF (put fr o.dst v) = up (frF fr) o.dst v := by
  unfold opOk at ho
  cases hd : o.dst with
  | none => exact ⟨hl, rfl⟩
  | some d =>
    rw [hd] at ho
    simp only [Nat.blt_eq] at ho
    refine ⟨by simp [put, hl], funext fun t => ?_⟩
    simp only [frF, up_at, put, List.getD_eq_getElem?_getD]
    by_cases h : t = d
    · subst h; simp [hl, ho]
    · rw [if_neg h, List.getElem?_set_ne (fun e => h e.symm)]
theorem evF_eq (fr : List AV) : ev fr = evF (frF fr) := funext fun x => by cases x <;> rfl
theorem wantF_eq (g : Option (Nat × Bool)) (fr : List AV) : wantd g fr = wantF g (frF fr) := by cases g <;> rfl
theorem opF_sound {op : IOp} {fr : List AV} {h : AH} {K K' : AV → AH → Prop} (hv : opF P w0 op (frF fr) h K) (hK : ∀ v h', K v h' → K' v h') : vcOp P w0 op fr h K' := by
  have : vcOp P w0 op fr h K := by
    cases op <;> simp only [opF, vcOp, ← evF_eq] at hv ⊢ <;> exact hv
  exact vcOp_mono hK this
theorem opsF_sound : ∀ {os : List IOper} {Q : Fm → AH → Prop} {fr : List AV} {h : AH}, fr.length = n → os.all (opOk n) = true → opsF P w0 os Q (frF fr) h → vcOps P w0 os (fun fr h => fr.length = n ∧ Q (frF fr) h) fr h
  | [], Q, fr, h, hl, _, hv => ⟨hl, hv⟩
  | o :: os, Q, fr, h, hl, hok, hv => by
    simp only [List.all_cons, Bool.and_eq_true] at hok
    simp only [opsF, ← wantF_eq] at hv
    simp only [vcOps]
    split at hv
    · rename_i hw
      rw [if_pos hw]
      refine opF_sound hv fun v h' hk => ?_
      obtain ⟨h1, h2⟩ := frF_put hl hok.1 v
      exact opsF_sound h1 hok.2 (by rw [h2]; exact hk)
    · rename_i hw
      rw [if_neg hw]
      obtain ⟨h1, h2⟩ := frF_put hl hok.1 (.v undef)
      exact opsF_sound h1 hok.2 (by rw [h2]; exact hv)
theorem stabsF_sound : ∀ {cs : List IOper} {fr : List AV} {h : AH}, stabsF cs (frF fr) h → stabs cs fr h
  | [], _, _, _ => trivial
  | o :: os, fr, h, hs => by
    refine ⟨?_, stabsF_sound hs.2⟩
    have := hs.1
    simp only [stabF, ← wantF_eq, ← evF_eq] at this
    exact this
theorem dopsF_sound : ∀ {os : List (IOper × List IOper)} {Q : Fm → AH → Prop} {fr : List AV} {h : AH}, fr.length = n → os.all (fun p => opOk n p.1) = true → dopsF P w0 os Q (frF fr) h → vcD P w0 os (fun fr h => fr.length = n ∧ Q (frF fr) h) fr h
  | [], Q, fr, h, hl, _, hv => ⟨hl, hv⟩
  | (o, cs) :: os, Q, fr, h, hl, hok, hv => by
    simp only [List.all_cons, Bool.and_eq_true] at hok
    simp only [dopsF, ← wantF_eq] at hv
    simp only [vcD]
    split at hv
    · rename_i hw
      rw [if_pos hw]
      refine opF_sound hv fun v h' hk => ?_
      obtain ⟨h1, h2⟩ := frF_put hl hok.1 v
      exact ⟨stabsF_sound (by rw [h2]; exact hk.1), dopsF_sound h1 hok.2 (by rw [h2]; exact hk.2)⟩
    · rename_i hw
      rw [if_neg hw]
      obtain ⟨h1, h2⟩ := frF_put hl hok.1 (.v undef)
      exact dopsF_sound h1 hok.2 (by rw [h2]; exact hv)

theorem vcOps_mono : ∀ {os : List IOper} {Q Q' : List AV → AH → Prop} {fr : List AV} {h : AH}, (∀ fr h, Q fr h → Q' fr h) → vcOps P w0 os Q fr h → vcOps P w0 os Q' fr h
  | [], Q, Q', fr, h, hQ, hv => hQ _ _ hv
  | o :: os, Q, Q', fr, h, hQ, hv => by
    simp only [vcOps] at hv ⊢
    split at hv
    · rename_i hw; rw [if_pos hw]; exact vcOp_mono (fun v h' hk => vcOps_mono hQ hk) hv
    · rename_i hw; rw [if_neg hw]; exact vcOps_mono hQ hv
theorem vcD_mono : ∀ {os : List (IOper × List IOper)} {Q Q' : List AV → AH → Prop} {fr : List AV} {h : AH}, (∀ fr h, Q fr h → Q' fr h) → vcD P w0 os Q fr h → vcD P w0 os Q' fr h
  | [], Q, Q', fr, h, hQ, hv => hQ _ _ hv
  | (o, cs) :: os, Q, Q', fr, h, hQ, hv => by
    simp only [vcD] at hv ⊢
    split at hv
    · rename_i hw; rw [if_pos hw]; exact vcOp_mono (fun v h' hk => ⟨hk.1, vcD_mono hQ hk.2⟩) hv
    · rename_i hw; rw [if_neg hw]; exact vcD_mono hQ hv
theorem Lp.mono {b : IC} {Q Q' : AExit → List AV → AH → Prop} (hQ : ∀ e fr h, Q e fr h → Q' e fr h) {fr : List AV} {h : AH} (hl : Lp P w0 b Q fr h) : Lp P w0 b Q' fr h := fun rows c hc ro Γ w a H hf =>
  wpIn_mono (hl rows c hc ro Γ w a H hf) fun e a w hp => by
    obtain ⟨hd, ae, Γ', fr', h', h1, h2, h3, h4, h5⟩ := hp
    exact ⟨hd, ae, Γ', fr', h', h1, h2, h3, h4, hQ _ _ _ h5⟩
theorem vc_mono : ∀ {ic : IC} {Q Q' : AExit → List AV → AH → Prop}, (∀ e fr h, Q e fr h → Q' e fr h) → ∀ {fr : List AV} {h : AH}, vc P w0 ic Q fr h → vc P w0 ic Q' fr h
  | .skip, Q, Q', hQ, fr, h, hv => hQ _ _ _ hv
  | .region ops, Q, Q', hQ, fr, h, hv => vcOps_mono (fun fr h hh => hQ _ _ _ hh) hv
  | .dregion ops, Q, Q', hQ, fr, h, hv => vcD_mono (fun fr h hh => hQ _ _ _ hh) hv
  | .dalts ls, Q, Q', hQ, fr, h, hv => fun l hl => vcD_mono (fun fr h hh => hQ _ _ _ hh) (hv l hl)
  | .seq a b, Q, Q', hQ, fr, h, hv => vc_mono (ic := a) (fun e fr h hh => by
      cases e with
      | normal => exact vc_mono (ic := b) hQ hh
      | exit i => exact hQ _ _ _ hh
      | ret => exact hQ _ _ _ hh) hv
  | .cond x a b, Q, Q', hQ, fr, h, hv => by
    simp only [vc] at hv ⊢
    split at hv
    · split at hv
      · rename_i ht; rw [if_pos ht]; exact vc_mono hQ hv
      · rename_i ht; rw [if_neg ht]; exact vc_mono hQ hv
    · exact hv.elim
  | .block id b, Q, Q', hQ, fr, h, hv => vc_mono (ic := b) (fun e fr h hh => by
      cases e with
      | normal => exact hQ _ _ _ hh
      | exit i =>
        simp only [blkQ] at hh ⊢
        split at hh
        · rename_i hi; rw [if_pos hi]; exact hQ _ _ _ hh
        · rename_i hi; rw [if_neg hi]; exact hQ _ _ _ hh
      | ret => exact hQ _ _ _ hh) hv
  | .loop b, Q, Q', hQ, fr, h, hv => Lp.mono hQ hv
  | .exit id, Q, Q', hQ, fr, h, hv => hQ _ _ _ hv
  | .ret, Q, Q', hQ, fr, h, hv => hQ _ _ _ hv

theorem dallF_sound : ∀ {ls : List (List (IOper × List IOper))} {Q : Fm → AH → Prop} {fr : List AV} {h : AH}, fr.length = n → (ls.all fun l => l.all fun p => opOk n p.1) = true → dallF P w0 ls Q (frF fr) h → ∀ l ∈ ls, vcD P w0 l (fun fr h => fr.length = n ∧ Q (frF fr) h) fr h
  | [], Q, fr, h, hl, _, hv => fun l hm => by cases hm
  | l :: ls, Q, fr, h, hl, hok, hv => fun l' hm => by
    simp only [List.all_cons, Bool.and_eq_true] at hok
    rcases List.mem_cons.1 hm with rfl | hm
    · exact dopsF_sound hl hok.1 hv.1
    · exact dallF_sound hl hok.2 hv.2 l' hm
theorem vcF_sound : ∀ {ic : IC} {Q : AExit → Fm → AH → Prop} {fr : List AV} {h : AH}, fr.length = n → icOk n ic = true → vcF P w0 n ic Q (frF fr) h → vc P w0 ic (fun e fr h => fr.length = n ∧ liftQ Q e fr h) fr h
  | .skip, Q, fr, h, hl, _, hv => ⟨hl, hv⟩
  | .region ops, Q, fr, h, hl, hok, hv => opsF_sound hl hok hv
  | .dregion ops, Q, fr, h, hl, hok, hv => dopsF_sound hl hok hv
  | .dalts ls, Q, fr, h, hl, hok, hv => dallF_sound hl hok hv
  | .seq a b, Q, fr, h, hl, hok, hv => by
    simp only [icOk, Bool.and_eq_true] at hok
    refine vc_mono (ic := a) (fun e fr h hh => ?_) (vcF_sound hl hok.1 hv)
    cases e with
    | normal => exact vcF_sound hh.1 hok.2 hh.2
    | exit i => exact hh
    | ret => exact hh
  | .cond x a b, Q, fr, h, hl, hok, hv => by
    simp only [icOk, Bool.and_eq_true] at hok
    simp only [vcF, ← evF_eq] at hv
    simp only [vc]
    split at hv
    · rename_i t he
      rw [he]
      split at hv
      · rename_i ht; simp only [if_pos ht]; exact vcF_sound hl hok.1 hv
      · rename_i ht; simp only [if_neg ht]; exact vcF_sound hl hok.2 hv
    · exact hv.elim
  | .block id b, Q, fr, h, hl, hok, hv => by
    refine vc_mono (ic := b) (fun e fr h hh => ?_) (vcF_sound hl hok hv)
    cases e with
    | normal => exact hh
    | exit i =>
      have h2 := hh.2
      simp only [liftQ, blkF] at h2
      simp only [blkQ]
      split at h2
      · rename_i hi; rw [if_pos hi]; exact ⟨hh.1, h2⟩
      · rename_i hi; rw [if_neg hi]; exact ⟨hh.1, h2⟩
    | ret => exact hh
  | .loop b, Q, fr, h, hl, hok, hv => hv fr hl rfl
  | .exit id, Q, fr, h, hl, _, hv => ⟨hl, hv⟩
  | .ret, Q, fr, h, hl, _, hv => ⟨hl, hv⟩

/-- One round, and the loop again. -/
theorem LpF.unfold {b : IC} (hok : icOk n b = true) {Q : AExit → Fm → AH → Prop} {σ : Fm} {h : AH} (hv : vcF P w0 n b (seqF (LpF P w0 n b Q) Q) σ h) : LpF P w0 n b Q σ h := by
  rintro fr hl rfl
  refine Lp.unfold (vc_mono (fun e fr h hh => ?_) (vcF_sound hl hok hv))
  cases e with
  | normal => exact hh.2 fr hh.1 rfl
  | exit i => exact hh
  | ret => exact hh
/-- A loop by what holds at each round's head, and a number that goes down. -/
theorem LpF.ind {b : IC} (hok : icOk n b = true) {Q : AExit → Fm → AH → Prop} {ι : Type} (μ : ι → Nat) (I : ι → Fm → AH → Prop)
    (round : ∀ i σ h, I i σ h → vcF P w0 n b (seqF (fun σ' h' => ∃ j, μ j < μ i ∧ I j σ' h') Q) σ h) {i : ι} {σ : Fm} {h : AH} (hi : I i σ h) : LpF P w0 n b Q σ h := by
  have key : ∀ k i σ h, μ i = k → I i σ h → LpF P w0 n b Q σ h := by
    intro k
    induction k using Nat.strongRecOn with
    | _ k ih =>
      intro i σ h hk hi
      rintro fr hl rfl
      refine Lp.unfold (vc_mono (fun e fr h hh => ?_) (vcF_sound hl hok (round i _ h hi)))
      cases e with
      | normal =>
        obtain ⟨j, hj, hI⟩ := hh.2
        exact ih (μ j) (by omega) j _ _ rfl hI fr hh.1 rfl
      | exit i => exact hh
      | ret => exact hh
  exact key _ i σ h rfl hi

/-! a function's body -/
def resF (σ : Fm) (h : AH) : ARes → Option AV
  | .tmp t => some (σ t)
  | .cell t sz => match σ t with
    | .ptr id off => match h.objs id with
      | some (.cells cs) => rd cs off sz
      | _ => none
    | _ => none
def ressF (σ : Fm) (h : AH) : List ARes → Option (List AV)
  | [] => some []
  | r :: rs => match resF σ h r, ressF σ h rs with
    | some v, some vs => some (v :: vs)
    | _, _ => none
def aresF (σ : Fm) (h : AH) : List ARes → Option AV
  | [r] => resF σ h r
  | rs => (ressF σ h rs).map .tup
def retF (rs : List ARes) (Q : AV → AH → Prop) : AExit → Fm → AH → Prop
  | .exit _, _, _ => False
  | .normal, σ, h => match aresF σ h rs with
    | some v => Q v h
    | none => False
  | .ret, σ, h => match aresF σ h rs with
    | some v => Q v h
    | none => False
theorem resF_eq (fr : List AV) (h : AH) (r : ARes) : aresOne fr h r = resF (frF fr) h r := by cases r <;> rfl
theorem ressF_eq (fr : List AV) (h : AH) : ∀ rs, aresAll fr h rs = ressF (frF fr) h rs
  | [] => rfl
  | r :: rs => by simp only [aresAll, ressF, resF_eq, ressF_eq fr h rs] <;> rfl
theorem aresF_eq (fr : List AV) (h : AH) (rs : List ARes) : ares fr h rs = aresF (frF fr) h rs := by
  unfold ares aresF
  split <;> simp only [resF_eq, ressF_eq]
def argF : List AV → Fm
  | [] => fun _ => .v undef
  | a :: as => fun t => match t with
    | 0 => a
    | t + 1 => argF as t
theorem argF_nil (t : Nat) : argF [] t = .v undef := rfl
theorem argF_zero (a : AV) (as : List AV) : argF (a :: as) 0 = a := rfl
theorem argF_succ (a : AV) (as : List AV) (t : Nat) : argF (a :: as) (t + 1) = argF as t := rfl
theorem argF_eq : ∀ (as : List AV) (k : Nat), frF (as ++ List.replicate k (.v undef)) = argF as
  | [], k => funext fun t => by
    simp only [frF, List.nil_append, List.getD_eq_getElem?_getD, List.getElem?_replicate]
    split <;> rfl
  | a :: as, k => funext fun t => by
    cases t with
    | zero => rfl
    | succ t => exact congrFun (argF_eq as k) t
theorem Call.bodyF {f : FuncId} {nt : Nat} {ic : IC} {rs : List ARes} (hb : HasBody P f nt ic rs) {args : List AV} {h : AH} {Q : AV → AH → Prop} (hl : Nat.ble args.length nt = true) (hok : icOk nt ic = true) (hv : vcF P w0 nt ic (retF rs Q) (argF args) h) : Call P w0 f args h Q := by
  refine Call.body hb ?_
  have hl' : args.length ≤ nt := Nat.le_of_ble_eq_true hl
  rw [← argF_eq args (nt - args.length)] at hv
  refine vc_mono (fun e fr h hh => ?_) (vcF_sound (by simp; omega) hok hv)
  have h2 := hh.2
  cases e with
  | exit i => exact h2
  | _ =>
    simp only [liftQ, retF, ← aresF_eq] at h2
    exact h2
end
end Go.Abs
