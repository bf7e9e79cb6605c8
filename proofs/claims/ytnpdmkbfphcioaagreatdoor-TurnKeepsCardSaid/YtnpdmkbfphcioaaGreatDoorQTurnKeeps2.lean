/- What the proof needs, part 2: A program logic over abstract states, 7: append; A program logic over abstract states, 10: bytes of strings, rows made, maps, letters of strings; A program logic over abstract states, 11: the compact operation that an operation of the model comes to; A program logic over abstract states, 12: the compact operation tells what the model's does; A program logic over abstract states, 13: more operations; A program logic over abstract states, 14: builtin calls; every operation; A program logic over abstract states, 15: every operation that has a compact form. -/
import Derived.Test.YtnpdmkbfphcioaaGreatDoorQTurnKeeps1
/- A program logic over abstract states, 7: append. -/
namespace Go.Abs
open Go Go.RowKit
set_option linter.unusedVariables false
set_option linter.unusedSimpArgs false

section
variable {P : Program} {w0 : World} {Γ : Con} {h : AH} {w : World}

/-- The token's new version. -/
theorem le_withTok {t v : Nat} (hv : Γ.tau t v = none) (T : TokAt) : Γ.le (Γ.withTok t v T) := by
  refine ⟨fun x => x, fun x => x, fun {t' v' T'} hT => ?_⟩
  simp only [Con.withTok]
  split
  · rename_i e; rw [e.1, e.2, hv] at hT; cases hT
  · exact hT
theorem tau_none (H : WR w0 Γ h w) {t v : Nat} (hv : h.nt ≤ t ∨ h.ver t < v) : Γ.tau t v = none := by
  cases hx : Γ.tau t v with
  | none => rfl
  | some T => have := H.tnew hx; omega

/-- A token takes a new row (fresh: no object's, no token's). -/
theorem WR.retok (H : WR w0 Γ h w) {h' : AH} {t : Nat} {T : TokAt} (ho : h'.objs = h.objs) (hsh : h'.sh = h.sh) (hn : h'.n = h.n) (hnt : h.nt ≤ h'.nt) (htn : t < h'.nt) (hver : ∀ s, s ≠ t → s < h.nt → h'.ver s = h.ver s)
    (hv : h.nt ≤ t ∨ h.ver t < h'.ver t) (hge : w0.heap.size ≤ T.blk) (hblk : TokBlk Γ w T) (hobj : ∀ i, (h.objs i).isSome → Γ.rho i ≠ some T.blk)
    (hfresh : ∀ {s S}, Γ.tau s (h.ver s) = some S → s ≠ t → S.blk ≠ T.blk) : WR w0 (Γ.withTok t (h'.ver t) T) h' w := by
  have hle := le_withTok (tau_none H hv) T
  have hcur : ∀ {s S}, (Γ.withTok t (h'.ver t) T).tau s (h'.ver s) = some S → (s = t ∧ S = T) ∨ (s ≠ t ∧ Γ.tau s (h.ver s) = some S) := by
    intro s S hS
    simp only [Con.withTok] at hS
    split at hS
    · rename_i e; injection hS with hS; exact .inl ⟨e.1, hS.symm⟩
    · rename_i e
      by_cases hs : s = t
      · subst hs; exact absurd ⟨rfl, rfl⟩ e
      · have := H.tnew hS
        rw [hver s hs this.1] at hS
        exact .inr ⟨hs, hS⟩
  refine ⟨H.below, H.fcell, ?_, ?_, ?_, ?_, ?_, ?_⟩
  · intro i o hi
    rw [ho] at hi
    obtain ⟨b, h1, h2, h3, h4⟩ := H.obj hi
    exact ⟨b, h1, h2, h3.mono hle, h4⟩
  · intro i j b hi hj
    rw [ho] at hi hj
    exact H.inj hi hj
  · intro i b hi
    rw [hn]; exact H.rlt hi
  · intro s S hS
    rcases hcur hS with ⟨rfl, rfl⟩ | ⟨hs, hS'⟩
    · exact ⟨hge, hblk, fun i hi => by rw [ho] at hi; exact hobj i hi⟩
    · obtain ⟨h1, h2, h3⟩ := H.tok hS'
      exact ⟨h1, h2, fun i hi => by rw [ho] at hi; exact h3 i hi⟩
  · intro s s' S S' hS hS' he
    rcases hcur hS with ⟨rfl, rfl⟩ | ⟨hs, hS1⟩ <;> rcases hcur hS' with ⟨rfl, rfl⟩ | ⟨hs', hS1'⟩
    · rfl
    · exact absurd he.symm (hfresh hS1' hs')
    · exact absurd he (hfresh hS1 hs)
    · exact H.tinj hS1 hS1' he
  · intro s v S hS
    simp only [Con.withTok] at hS
    split at hS
    · rename_i e
      rw [e.1, e.2]
      exact ⟨htn, Nat.le_refl _⟩
    · have hh := H.tnew hS
      refine ⟨by omega, ?_⟩
      by_cases hs : s = t
      · subst hs
        rcases hv with hv | hv <;> omega
      · rw [hver s hs hh.1]; exact hh.2

def Con.grow (Γ : Con) (b e : Nat) (us : List Value) : Con := { Γ with F := fun k o => if k = b ∧ e ≤ o ∧ o < e + us.length then us[o - e]? else Γ.F k o }
/-- Cells are written behind the end of a token's row. -/
theorem WR.grow (H : WR w0 Γ h w) {t : Nat} {T : TokAt} (hT : Γ.tau t (h.ver t) = some T) {us : List Value} (h1 : ∀ x ∈ us, x.oneCell' = true) (hle : T.endc + us.length ≤ T.size) :
    ∃ w', (storeCells ⟨T.blk, T.endc, none⟩ us).run P w = .ok () w' ∧ Γ.le ((Γ.grow T.blk T.endc us).withTok t (h.ver t + 1) { T with endc := T.endc + us.length }) ∧
      WR w0 ((Γ.grow T.blk T.endc us).withTok t (h.ver t + 1) { T with endc := T.endc + us.length }) (h.bump t) w' := by
  obtain ⟨hge, ⟨he, vs, el, fr, hh, hsz, hfree⟩, hobj⟩ := H.tok hT
  have hr := run_storeCells P (off := T.endc) us 0 vs w hh h1 (by omega) (fun k a c => (hfree k (by omega) (by omega)).2)
  simp only [Nat.add_zero] at hr
  have hchg := putBlk_chg w T.blk (.cells (wrA vs T.endc us) el fr)
  have hat := putBlk_at hh (.cells (wrA vs T.endc us) el fr)
  generalize putBlk w T.blk (.cells (wrA vs T.endc us) el fr) = w' at hr hchg hat
  have hFend : ∀ {o x}, Γ.F T.blk o = some x → o < T.endc := by
    intro o x hx
    refine Nat.lt_of_not_le fun hc => ?_
    by_cases ho : o < T.size
    · rw [(hfree o hc ho).1] at hx; cases hx
    · have := H.fcell hx
      simp [World.cell?, hh, show vs.size ≤ o by omega] at this
  have hle1 : Γ.le (Γ.grow T.blk T.endc us) := by
    refine ⟨fun {b o x} hx => ?_, fun x => x, fun x => x⟩
    simp only [Con.grow]
    split
    · rename_i hc
      obtain ⟨rfl, h2, _⟩ := hc
      have := hFend hx; omega
    · exact hx
  have hvn : Γ.tau t (h.ver t + 1) = none := tau_none H (.inr (by omega))
  have hle2 : Γ.le ((Γ.grow T.blk T.endc us).withTok t (h.ver t + 1) { T with endc := T.endc + us.length }) := hle1.trans (le_withTok (show (Γ.grow T.blk T.endc us).tau t (h.ver t + 1) = none from hvn) _)
  have hcur : ∀ {s S}, ((Γ.grow T.blk T.endc us).withTok t (h.ver t + 1) { T with endc := T.endc + us.length }).tau s ((h.bump t).ver s) = some S →
      (s = t ∧ S = { T with endc := T.endc + us.length }) ∨ (s ≠ t ∧ Γ.tau s (h.ver s) = some S) := by
    intro s S hS
    simp only [Con.withTok, Con.grow, AH.bump] at hS
    by_cases hs : s = t
    · subst hs
      simp only [if_true, and_self, Option.some.injEq] at hS
      exact .inl ⟨rfl, hS.symm⟩
    · simp only [hs, if_false, false_and] at hS
      exact .inr ⟨hs, hS⟩
  refine ⟨w', hr, hle2, hchg.below hge H.below, ?_, ?_, H.inj, fun hi => by rw [hchg.size]; exact H.rlt hi, ?_, ?_, ?_⟩
  · intro b o x hx
    simp only [Con.grow, Con.withTok] at hx
    split at hx
    · rename_i hc
      obtain ⟨rfl, h2, h3⟩ := hc
      simp only [World.cell?, hat]
      rw [show (none : Option Nat).isSome = false from rfl]
      simp only [Bool.false_eq_true, if_false]
      rw [wrA_at, if_pos (by omega)]
      exact hx
    · rename_i hc
      by_cases hb : b = T.blk
      · subst hb
        have hlt := hFend hx
        have hc0 := H.fcell hx
        simp only [World.cell?, hh] at hc0
        simp only [World.cell?, hat]
        rw [show (none : Option Nat).isSome = false from rfl] at hc0 ⊢
        simp only [Bool.false_eq_true, if_false] at hc0 ⊢
        rw [wrA_at, if_neg (by omega)]
        exact hc0
      · exact (hchg.cell (a := ⟨b, o, none⟩) hb).trans (H.fcell hx)
  · intro i o hi
    obtain ⟨b, g1, g2, g3, g4⟩ := H.obj hi
    have hbne : b ≠ T.blk := by rintro rfl; exact hobj i (by rw [show h.objs i = some o from hi]; rfl) g1
    refine ⟨b, g1, g2, (g3.at_ (hchg.other b hbne)).mono hle2, fun off => ?_⟩
    simp only [Con.grow, Con.withTok]
    rw [if_neg (by intro hc; exact hbne hc.1)]
    exact g4 off
  · intro s S hS
    rcases hcur hS with ⟨rfl, rfl⟩ | ⟨hs, hS'⟩
    · refine ⟨hge, ⟨hle, _, el, fr, hat, by rw [wrA_size]; exact hsz, fun off a b => ⟨?_, (hfree off (by simp only at a; omega) b).2⟩⟩, hobj⟩
      simp only [Con.grow, Con.withTok]
      simp only at a b
      rw [if_neg (by omega)]
      exact (hfree off (by omega) b).1
    · have hne : S.blk ≠ T.blk := fun he' => hs (H.tinj hS' hT he')
      obtain ⟨g1, ⟨g2, vs', e', fr', g3, g4, g5⟩, g6⟩ := H.tok hS'
      refine ⟨g1, ⟨g2, vs', e', fr', (hchg.other _ hne).trans g3, g4, fun off a b => ⟨?_, (g5 off a b).2⟩⟩, g6⟩
      simp only [Con.grow, Con.withTok]
      rw [if_neg (by intro hc; exact hne hc.1)]
      exact (g5 off a b).1
  · intro s s' S S' hS hS' he'
    rcases hcur hS with ⟨rfl, rfl⟩ | ⟨hs, hS1⟩ <;> rcases hcur hS' with ⟨rfl, rfl⟩ | ⟨hs', hS1'⟩
    · rfl
    · exact absurd (H.tinj hS1' hT he'.symm) hs'
    · exact absurd (H.tinj hS1 hT he') hs
    · exact H.tinj hS1 hS1' he'
  · intro s v S hS
    simp only [Con.withTok, Con.grow] at hS
    split at hS
    · rename_i e
      rw [e.1, e.2]
      exact ⟨(H.tnew hT).1, by simp [AH.bump]⟩
    · have hh2 := H.tnew hS
      refine ⟨hh2.1, ?_⟩
      simp only [AH.bump]
      split
      · rename_i e; subst e; omega
      · exact hh2.2

/-- The slice's element type, as append looks at it. -/
structure ElemAt (P : Program) (t : TypeId) (sz eb : Nat) : Prop where
  out : ∃ e i z, P.underlying t = some (.slice e) ∧ P.info? e = some i ∧ i.zero = some z ∧ i.size = sz ∧ z.cells.size = sz ∧ i.bytes = eb
def slOrStr (P : Program) (t : TypeId) : Prop := (∃ e, P.underlying t = some (.slice e)) ∨ P.underlying t = some .string

theorem append_grow {t tx ty : TypeId} {e : TypeId} {i : TypeInfo} {z : Value} (ht : P.underlying t = some (.slice e)) (hi : P.info? e = some i) (hz : i.zero = some z) (hxt : slOrStr P tx) {base : Option Addr} {n c k : Nat} {x : Value}
    {us new : List Value} (hlx : (Builtin.lenOf x).run P w = .ok k w) (hold : (Builtin.firstCells i.size n (.slice base n c)).run P w.drew = .ok us.toArray w.drew) (hnew : (Builtin.firstCells i.size k x).run P w.drew = .ok new.toArray w.drew)
    (hroom : c < n + k) (hb : (n + k) * i.bytes ≤ 140737488355328) (h63 : 0 < i.bytes) :
    (Builtin.append_ #[t, tx] ty #[.slice base n c, x]).run P w = .ok (.slice (some ⟨w.heap.size, 0, none⟩) (n + k) (grownCap w (n + k) c e)) (w.drew.alloc (.cells ((us ++ new).toArray ++ Builtin.zeroCells z.cells (grownCap w (n + k) c e - (n + k))) e)) := by
  have hcap := growslice_fits hroom hb
  have hfit : ¬ n + k ≤ c := by omega
  have h64 : n + k ≤ (n + k) * i.bytes := Nat.le_mul_of_pos_right _ h63
  have h63' : ¬ (9223372036854775807 < ((n : Int) + (k : Int))) := by omega
  have h48' : ¬ (281474976710656 < Builtin.nextslicecap (n + k) c * i.bytes) := by omega
  rcases hxt with ⟨e', hd⟩ | hd <;>
    simp [Builtin.append_, run_underlying ht, run_underlying hd, sizeOf, typeInfo, zeroValue, hi, hz, hlx, hfit, h63', h48', Question.forced, hold, hnew, newRow, grownCap] <;> rw [← List.append_toArray, Array.append_assoc]
theorem append_room {t tx ty : TypeId} {e : TypeId} {i : TypeInfo} (ht : P.underlying t = some (.slice e)) (hi : P.info? e = some i) (hxt : slOrStr P tx) {b o n c k : Nat} {x : Value} {new : List Value} {w' : World}
    (hlx : (Builtin.lenOf x).run P w = .ok k w) (hnew : (Builtin.firstCells i.size k x).run P w = .ok new.toArray w) (hroom : n + k ≤ c) (hst : (storeCells ⟨b, o + n * i.size, none⟩ new).run P w = .ok () w') :
    (Builtin.append_ #[t, tx] ty #[.slice (some ⟨b, o, none⟩) n c, x]).run P w = .ok (.slice (some ⟨b, o, none⟩) (n + k) c) w' := by
  rcases hxt with ⟨e', hd⟩ | hd <;>
    simp [Builtin.append_, run_underlying ht, run_underlying hd, sizeOf, typeInfo, hi, hlx, hroom, hnew, addr_add, hst]
theorem append_none {t tx ty : TypeId} {e : TypeId} {i : TypeInfo} (ht : P.underlying t = some (.slice e)) (hi : P.info? e = some i) (hxt : slOrStr P tx) {base : Option Addr} {n c : Nat} {x : Value}
    (hlx : (Builtin.lenOf x).run P w = .ok 0 w) (hnew : (Builtin.firstCells i.size 0 x).run P w = .ok #[] w) (hroom : n ≤ c) :
    (Builtin.append_ #[t, tx] ty #[.slice base n c, x]).run P w = .ok (.slice base n c) w := by
  cases base with
  | none =>
    rcases hxt with ⟨e', hd⟩ | hd <;>
      simp [Builtin.append_, run_underlying ht, run_underlying hd, sizeOf, typeInfo, hi, hlx, hroom, hnew]
  | some a =>
    rcases hxt with ⟨e', hd⟩ | hd <;>
      simp [Builtin.append_, run_underlying ht, run_underlying hd, sizeOf, typeInfo, hi, hlx, hroom, hnew, storeCells]

/-- What append comes to. -/
theorem run_app {t tx ty : TypeId} {sz eb : Nat} (ht : ElemAt P t sz eb) (hxt : slOrStr P tx) (heb : 0 < eb) (H : WR w0 Γ h w) {rows new : List (List AV)} {tok : Tok} {A : AV} {x y : Value} (hx : RV Γ (.list sz rows tok) x) (hy : RV Γ A y)
    (hs : srcRows sz h A = some new) {tok' : Tok} {h' : AH} (hr : if new = [] then tok' = tok ∧ h' = h else appTok h tok = some (tok', h') ∧ (rows.length + new.length) * eb ≤ 140737488355328) :
    ∃ Γ' v w', (Builtin.append_ #[t, tx] ty #[x, y]).run P w = .ok v w' ∧ Γ.le Γ' ∧ RV Γ' (.list sz (rows ++ new) tok') v ∧ WR w0 Γ' h' w' := by
  obtain ⟨e, i, z, hte, hi, hz, rfl, hzs, rfl⟩ := ht.out
  obtain ⟨ns, hly, hfn, hcn, hnl, hnsz, _⟩ := srcRows_sound (P := P) H hs hy
  by_cases hne : new = []
  · subst hne
    rw [if_pos rfl] at hr
    obtain ⟨rfl, rfl⟩ := hr
    have hn0 : ns = [] := List.eq_nil_of_length_eq_zero (by simpa using hnl)
    subst hn0
    have hfn' := hfn w (fun a v hv => hv)
    refine ⟨Γ, x, w, ?_, .refl Γ, by simpa using hx, H⟩
    rcases hx.inv_list with ⟨base, rfl, _, _⟩ | ⟨b, o, c, us, rfl, hc, _⟩
    · exact append_none hte hi hxt hly hfn' (Nat.le_refl _)
    · exact append_none hte hi hxt hly hfn' hc
  · rw [if_neg hne] at hr
    obtain ⟨htok, hbd⟩ := hr
    have hpos : 0 < new.length := List.length_pos_iff.2 hne
    -- a new row is made
    have grows : ∀ (base : Option Addr) (n c : Nat) (us : List Value) (t' : Nat) (h' : AH), n = rows.length → x = .slice base n c → c < n + new.length → Cells Γ rows.flatten us → us.length = rows.length * i.size → (∀ r ∈ rows, r.length = i.size) →
        (Builtin.firstCells i.size n (.slice base n c)).run P w.drew = .ok us.toArray w.drew → h'.objs = h.objs → h'.sh = h.sh → h'.n = h.n → h.nt ≤ h'.nt → t' < h'.nt → (∀ s, s ≠ t' → s < h.nt → h'.ver s = h.ver s) → (h.nt ≤ t' ∨ h.ver t' < h'.ver t') →
        ∃ Γ' v w', (Builtin.append_ #[t, tx] ty #[x, y]).run P w = .ok v w' ∧ Γ.le Γ' ∧ RV Γ' (.list i.size (rows ++ new) (.own t' (h'.ver t'))) v ∧ WR w0 Γ' h' w' := by
      intro base n c us t' h' hn hxv hroom hcs hul hrsz hfo ho hsh' hn' hnt htn hver hv
      subst hn; subst hxv
      have hfn' := hfn w.drew (fun a v hv => hv)
      have hrun := append_grow (ty := ty) hte hi hz hxt hly hfo hfn' hroom hbd heb
      have hcap := grownCap_ge w (rows.length + new.length) c e
      generalize hcapv : grownCap w (rows.length + new.length) c e = cap at hrun hcap
      have hcells := hcs.append hcn
      have hall : ∀ r ∈ rows ++ new, r.length = i.size := fun r hr => by rcases List.mem_append.1 hr with hr | hr; exact hrsz r hr; exact hnsz r hr
      have hlen2 : (us ++ ns).length = (rows ++ new).length * i.size := by rw [List.length_append, List.length_append, hul, hnl, Nat.add_mul]
      obtain ⟨HW, hle⟩ := H.drew.row ((us ++ ns).toArray ++ Builtin.zeroCells z.cells (cap - (rows.length + new.length))) e (0, 0) ((us ++ ns).length)
      generalize hΓ1 : (Γ.withRow w.drew.heap.size fun o => if o < (us ++ ns).length then ((us ++ ns).toArray ++ Builtin.zeroCells z.cells (cap - (rows.length + new.length)))[o]? else none) = Γ1 at HW hle
      have hsize : ((us ++ ns).toArray ++ Builtin.zeroCells z.cells (cap - (rows.length + new.length))).size = cap * i.size := by
        simp only [Array.size_append, List.size_toArray, List.length_append, size_zeroCells, hzs, hul, hnl, ← Nat.add_mul]
        congr 1
        omega
      have hF : ∀ k (hk : k < (us ++ ns).length), Γ1.F w.heap.size (0 + k) = some (us ++ ns)[k] := by
        intro k hk
        subst hΓ1
        simp only [Con.withRow, World.size_drew, if_true, Nat.zero_add]
        rw [if_pos hk]
        have hk' : k < (us ++ ns).toArray.size := by simpa using hk
        rw [Array.getElem?_append_left hk']
        simp
      have hFn : ∀ off, (us ++ ns).length ≤ off → Γ1.F w.heap.size off = none := by
        intro off hoff
        subst hΓ1
        simp only [Con.withRow, World.size_drew, if_true]
        rw [if_neg (by omega)]
      have hΓobj : ∀ j, Γ1.rho j = Γ.rho j := by intro j; subst hΓ1; rfl
      have hΓtau : ∀ s v, Γ1.tau s v = Γ.tau s v := by intro s v; subst hΓ1; rfl
      have hT : TokBlk Γ1 (w.drew.alloc (.cells ((us ++ ns).toArray ++ Builtin.zeroCells z.cells (cap - (rows.length + new.length))) e)) { blk := w.heap.size, endc := (us ++ ns).length, size := cap * i.size, sz := i.size, elem := e } := by
        refine ⟨?_, _, e, (0, 0), heap_alloc_new w.drew _, hsize, fun off a b => ⟨hFn off a, by simp [free]⟩⟩
        simp only
        rw [hlen2, List.length_append]
        exact Nat.mul_le_mul_right _ hcap
      have HW2 := WR.retok (t := t') (h' := h') HW ho hsh' hn' hnt htn hver hv (by simpa using H.below.size) hT (fun j hj => by rw [hΓobj]; intro hb; have := (H.rlt hb).2; simp only at this; omega)
        (fun {s S} hS hs => by
          rw [hΓtau] at hS
          obtain ⟨_, ⟨_, vs', _, _, h3', _⟩, _⟩ := H.tok hS
          have := size_pos_of h3'
          simp only; omega)
      have hle2 := le_withTok (tau_none HW hv) { blk := w.heap.size, endc := (us ++ ns).length, size := cap * i.size, sz := i.size, elem := e }
      refine ⟨_, _, _, hrun, hle.trans hle2, ?_, HW2⟩
      have hlist : RV (Γ1.withTok t' (h'.ver t') { blk := w.heap.size, endc := (us ++ ns).length, size := cap * i.size, sz := i.size, elem := e }) (.list i.size (rows ++ new) (.own t' (h'.ver t'))) (.slice (some ⟨w.heap.size, 0, none⟩) (rows ++ new).length cap) := by
        refine RV.mk_list (us := us ++ ns) (by simpa using hcap) hall (by rw [List.flatten_append]; exact hcells.mono (hle.trans hle2)) (fun k hk => hle2.F (hF k hk)) ⟨{ blk := w.heap.size, endc := (us ++ ns).length, size := cap * i.size, sz := i.size, elem := e }, by simp only [Con.withTok, and_self, if_true], rfl, .inr ⟨?_, ?_, rfl⟩⟩
        · simp only [Nat.zero_add]; exact hlen2
        · simp
      simpa using hlist
    rcases hx.inv_list with ⟨base, rfl, rfl, ht'⟩ | ⟨b, o, c, us, rfl, hc, hrsz, hcs, hul, hF, hto⟩
    · -- nil
      have hfull : tok = .full := by
        rcases ht' with rfl | rfl
        · rfl
        · simp [appTok] at htok
      subst hfull
      simp only [appTok, Option.some.injEq, Prod.mk.injEq] at htok
      obtain ⟨rfl, rfl⟩ := htok
      have := grows base 0 0 [] h.nt h.newTok rfl rfl (by simpa using hpos) ⟨rfl, fun i hi => by simp at hi, fun x hx => by cases hx⟩ (by simp) (by simp) (run_firstCells_zero (P := P) w.drew _ _ _ _) rfl rfl rfl (by simp [AH.newTok]) (by simp [AH.newTok])
        (fun s hs _ => by simp [AH.newTok, hs]) (.inl (Nat.le_refl _))
      simpa [AH.newTok] using this
    · have hfo : ∀ (W : World), (∀ a v, w.cell? a = some v → W.cell? a = some v) → (Builtin.firstCells i.size rows.length (.slice (some ⟨b, o, none⟩) rows.length c)).run P W = .ok us.toArray W := by
        intro W hW
        refine run_firstCells_some (P := P) W _ _ ⟨b, o, none⟩ _ c us hul (fun j v hv => ?_)
        obtain ⟨hj, rfl⟩ := List.getElem?_eq_some_iff.1 hv
        rw [addr_add]; exact hW _ _ (H.fcell (hF j hj))
      cases tok with
      | no => simp [appTok] at htok
      | full =>
        simp only [appTok, Option.some.injEq, Prod.mk.injEq] at htok
        obtain ⟨rfl, rfl⟩ := htok
        have hce : rows.length = c := hto
        have := grows (some ⟨b, o, none⟩) rows.length c us h.nt h.newTok rfl rfl (by omega) hcs hul hrsz (hfo w.drew (fun a v hv => hv)) rfl rfl rfl (by simp [AH.newTok]) (by simp [AH.newTok]) (fun s hs _ => by simp [AH.newTok, hs]) (.inl (Nat.le_refl _))
        simpa [AH.newTok] using this
      | own tt v =>
        simp only [appTok] at htok
        split at htok
        · rename_i hvv
          simp only [Option.some.injEq, Prod.mk.injEq] at htok
          obtain ⟨rfl, rfl⟩ := htok
          subst hvv
          obtain ⟨T, hT, hTb, hTc⟩ := hto
          by_cases hroom : rows.length + new.length ≤ c
          · rcases hTc with hce | ⟨hTe, hTs, hTz⟩
            · omega
            subst hTb
            have hfit : T.endc + ns.length ≤ T.size := by
              rw [hTe, hnl]
              have : (rows.length + new.length) * i.size ≤ c * i.size := Nat.mul_le_mul_right _ hroom
              rw [Nat.add_mul] at this
              omega
            obtain ⟨w', hst, hle, HW⟩ := H.grow (P := P) hT hcn.one hfit
            rw [hTe] at hst
            have hrun := append_room (ty := ty) hte hi hxt hly (hfn w (fun a v hv => hv)) hroom hst
            refine ⟨_, _, w', hrun, hle, ?_, HW⟩
            have hall : ∀ r ∈ rows ++ new, r.length = i.size := fun r hr => by rcases List.mem_append.1 hr with hr | hr; exact hrsz r hr; exact hnsz r hr
            have hlist : RV ((Γ.grow T.blk T.endc ns).withTok tt (h.ver tt + 1) { T with endc := T.endc + ns.length }) (.list i.size (rows ++ new) (.own tt (h.ver tt + 1))) (.slice (some ⟨T.blk, o, none⟩) (rows ++ new).length c) := by
              refine RV.mk_list (us := us ++ ns) (by simpa using hroom) hall (by rw [List.flatten_append]; exact (hcs.append hcn).mono hle) (fun k hk => ?_) ⟨{ T with endc := T.endc + ns.length }, by simp only [Con.withTok, and_self, if_true], rfl, .inr ⟨?_, hTs, hTz⟩⟩
              · by_cases hku : k < us.length
                · rw [List.getElem_append_left hku]
                  exact hle.F (hF k hku)
                · have hk2 : k - us.length < ns.length := by simp at hk; omega
                  rw [List.getElem_append_right (by omega)]
                  simp only [Con.withTok, Con.grow]
                  have hTe2 : T.endc = o + us.length := by rw [hTe, hul]
                  rw [if_pos ⟨trivial, by omega, by omega⟩, show o + k - T.endc = k - us.length by omega, List.getElem?_eq_getElem hk2]
              · simp only
                rw [hTe, hnl, List.length_append, Nat.add_mul]; omega
            simpa using hlist
          · have := grows (some ⟨b, o, none⟩) rows.length c us tt (h.bump tt) rfl rfl (by omega) hcs hul hrsz (hfo w.drew (fun a v hv => hv)) rfl rfl rfl (Nat.le_refl _) (H.tnew hT).1 (fun s hs _ => by simp [AH.bump, hs]) (.inr (by simp [AH.bump]))
            simpa [AH.bump] using this
        · cases htok
end
end Go.Abs
/- A program logic over abstract states, 10: bytes of strings, rows made, maps, letters of strings. -/
namespace Go.Abs
open Go Go.RowKit
set_option linter.unusedVariables false
set_option linter.unusedSimpArgs false

section
variable {P : Program} {w0 : World} {Γ : Con} {h : AH} {w : World}

/-! '[]byte(s)' -/
theorem bytesWorld_eq (w : World) (e : TypeId) (s : ByteArray) : Lib.bytesWorld w e s = w.drew.alloc (.cells (Lib.bytesCells w e s) e ((Lib.bytesCells w e s).size, (Lib.bytesCells w e s).size + 1)) := by
  have hh : (Lib.bytesWorld w e s).heap = (w.drew.alloc (.cells (Lib.bytesCells w e s) e ((Lib.bytesCells w e s).size, (Lib.bytesCells w e s).size + 1))).heap := by
    apply Array.ext_getElem?
    intro k
    by_cases hk : k < w.heap.size
    · rw [Lib.bytesWorld_at_old w e s k hk, heap_alloc_old _ _ k (by simpa using hk)]; rfl
    · by_cases hk2 : k = w.heap.size
      · subst hk2
        rw [Lib.bytesWorld_at_new]
        exact (heap_alloc_new w.drew _).symm
      · rw [Array.getElem?_eq_none (by rw [Lib.bytesWorld_size]; omega), Array.getElem?_eq_none (by simp; omega)]
  have : ∀ a b : World, a.heap = b.heap → a.tape = b.tape → a.drawn = b.drawn → a.os = b.os → a.output = b.output → a = b := by
    intro a b h1 h2 h3 h4 h5; cases a; cases b; simp_all
  refine this _ _ hh ?_ ?_ ?_ ?_ <;> (simp only [Lib.bytesWorld, World.freeze]; split <;> rfl)
theorem bytesCells_at (w : World) (e : TypeId) (s : ByteArray) (i : Nat) (hi : i < s.size) : (Lib.bytesCells w e s)[i]? = some (.int .u8 (s.data.toList[i]'(by simpa using hi)).toNat) := by
  unfold Lib.bytesCells
  rw [Array.getElem?_append_left (by simpa using hi)]
  simp [hi]
theorem bytesCells_size (w : World) (e : TypeId) (s : ByteArray) : s.size ≤ (Lib.bytesCells w e s).size := by
  simp [Lib.bytesCells]
theorem run_s2b {src dst e : TypeId} {u : TypeDesc} (hs : P.underlying src = some u) (hd : P.underlying dst = some (.slice e)) (he : P.underlying e = some (.int .u8)) (H : WR w0 Γ h w) (s : ByteArray) :
    ∃ v w', (convert src dst (.string s)).run P w = .ok v w' ∧
      (∃ Γ', Γ.le Γ' ∧ RV Γ' (.row h.n 0 s.size none) v ∧ WR w0 Γ' (h.alloc (.cells (s.data.toList.map fun b => .v (.int .u8 b.toNat)))) w') ∧
      (∃ Γ', Γ.le Γ' ∧ RV Γ' (.list 1 (byteRows s) .no) v ∧ WR w0 Γ' h w') := by
  refine ⟨_, _, Lib.run_convert_string_bytes w src dst e s hs hd he, ?_, ?_⟩
  · rw [bytesWorld_eq]
    refine ⟨_, H.drew.le_obj _, .row (by simp [Con.withObj]) (grownCap_ge w _ _ _) (fun k hk => by cases hk), H.drew.new _ _ (fun w' hw' => ⟨_, _, _, hw', by simpa using bytesCells_size w e s, fun i hi hi' => ?_⟩)⟩
    have hi2 : i < s.size := by simpa using hi
    have := bytesCells_at w e s i hi2
    rw [Array.getElem?_eq_getElem hi'] at this
    injection this with this
    rw [this]
    exact ⟨by simp only [List.getElem_map]; exact .v _, rfl, by simp only [free]; omega⟩
  · rw [bytesWorld_eq]
    obtain ⟨HW, hle⟩ := H.drew.row (Lib.bytesCells w e s) e ((Lib.bytesCells w e s).size, (Lib.bytesCells w e s).size + 1) s.size
    refine ⟨_, hle, ?_, HW⟩
    have := RV.mk_list (Γ := Γ.withRow w.drew.heap.size fun o => if o < s.size then (Lib.bytesCells w e s)[o]? else none) (sz := 1) (rows := byteRows s) (tok := .no) (b := w.heap.size) (o := 0) (c := grownCap w s.size 0 e)
      (us := s.data.toList.map fun b => .int .u8 b.toNat) (by rw [byteRows_len]; exact grownCap_ge w _ _ _) (byteRows_row s) (by rw [byteRows_flat]; exact Cells_bytes _) (fun k hk => by
        have hk2 : k < s.size := by simpa using hk
        simp only [Con.withRow, World.size_drew, if_true, Nat.zero_add]
        rw [if_pos hk2, bytesCells_at w e s k hk2]
        simp) trivial
    rwa [byteRows_len] at this

/-! 'string(b)' -/
theorem bytes_nums : ∀ {cs : List AV} {l : List UInt8} {us : List Value}, bytesOfCells cs = some l → Cells Γ cs us → ∃ ns : List Int, us = ns.map (Value.int .u8) ∧ ns.map (fun n => UInt8.ofNat n.toNat) = l
  | [], l, us, hb, hc => by
    simp only [bytesOfCells, Option.some.injEq] at hb
    have : us = [] := List.eq_nil_of_length_eq_zero (by simpa using hc.len)
    exact ⟨[], by simp [this], by simp [hb]⟩
  | a :: cs, l, us, hb, hc => by
    unfold bytesOfCells at hb
    split at hb
    · cases ‹_ :: _ = []›
    · rename_i n r e
      injection e with e1 e2
      subst e1; subst e2
      simp only [Option.map_eq_some_iff] at hb
      obtain ⟨l', hl', rfl⟩ := hb
      cases us with
      | nil => have := hc.len; simp at this
      | cons u us =>
        have h0 := (hc.at_ 0 (by simp) (by simp)).inv_v
        simp only [List.getElem_cons_zero] at h0
        have hc' : Cells Γ cs us := ⟨by have := hc.len; simpa using this, fun i hi hi' => hc.at_ (i + 1) (by simpa using hi) (by simpa using hi'), fun x hx => hc.one x (by simp [hx])⟩
        obtain ⟨ns, h1, h2⟩ := bytes_nums hl' hc'
        exact ⟨n :: ns, by simp [h0, h1], by simp [h2]⟩
    · cases hb
theorem fold_push : ∀ (ns : List Int) (s : ByteArray), ns.foldl (fun r n => r.push (UInt8.ofNat n.toNat)) s = ⟨s.data ++ (ns.map fun n => UInt8.ofNat n.toNat).toArray⟩
  | [], s => by apply ByteArray.ext; simp
  | n :: ns, s => by
    rw [List.foldl_cons, fold_push ns]
    apply ByteArray.ext
    simp [ByteArray.push]
theorem run_b2s {src dst e : TypeId} (hs : P.underlying src = some (.slice e)) (he : P.underlying e = some (.int .u8)) (hd : P.underlying dst = some .string) (H : WR w0 Γ h w) {A : AV} {x : Value} (hx : RV Γ A x) {rows : List (List AV)} (hr : srcRows 1 h A = some rows)
    (hsl : ∃ b n c, x = .slice b n c) {l : List UInt8} (hl : bytesOfCells rows.flatten = some l) : (convert src dst x).run P w = .ok (.string ⟨l.toArray⟩) w := by
  obtain ⟨us, hly, hfn, hcs, hul, hrsz, _⟩ := srcRows_sound (P := P) H hr hx
  obtain ⟨ns, rfl, rfl⟩ := bytes_nums hl hcs
  obtain ⟨b, n, c, rfl⟩ := hsl
  rw [run_convert_bytes_string w src dst e b n c hs he hd]
  simp only [Builtin.lenOf, Sem.run_pure, Result.ok.injEq, and_true] at hly
  subst hly
  have hf := hfn w (fun a v hv => hv)
  cases b with
  | none =>
    simp only [Builtin.firstCells, Sem.run_pure, Result.ok.injEq, and_true] at hf
    have : ns = [] := by
      have := congrArg Array.size hf
      simp at this
      exact List.eq_nil_of_length_eq_zero this.symm
    subst this
    simp [Conv.bytesToString]; rfl
  | some a =>
    simp only [Builtin.firstCells, Nat.mul_one] at hf
    rw [run_bytesToString w a rows.length c ns hf, fold_push]
    simp

/-! 'make([]T, n)' -/
theorem run_mks {t e : TypeId} {i : TypeInfo} {z : Value} (ht : P.underlying t = some (.slice e)) (hi : P.info? e = some i) (hz : i.zero = some z) (hzs : z.cells.size = i.size) (hz1 : z.cells.toList.all (·.oneCell') = true) (szs : List Nat) (H : WR w0 Γ h w) {l c : Int}
    (h0 : 0 ≤ l) (hlc : l ≤ c) (hb : c * i.bytes ≤ 140737488355328) (h63 : c ≤ 9223372036854775807) :
    ∃ v w' Γ', (Instr.makeSlice t (.int .i64 l) (.int .i64 c)).run P w = .ok v w' ∧ Γ.le Γ' ∧ RV Γ' (.row h.n 0 l.toNat (some c.toNat)) v ∧ WR w0 Γ' (h.alloc (.cells ((List.replicate c.toNat (zeroA szs z.cells.toList)).flatten))) w' := by
  have hrun := run_make (P := P) w t e i z ht hi hz .i64 .i64 l c h0 hlc (by rw [Int.mul_comm]; omega) h63
  refine ⟨_, _, _, hrun, H.le_obj _, .row (by simp [Con.withObj]) (by omega) (fun k hk => by injection hk with hk; exact hk.symm), H.new _ _ (fun w' hw' => objAt_cells hw' ?_)⟩
  have hzc := zeroA_sound (Γ := Γ.withObj h.n w.heap.size) szs z.cells.toList hz1
  have := litCells hzc c.toNat
  unfold madeCells
  rw [← hzs]
  exact this

/-! maps -/
theorem checkKey_plain {t : TypeId} {ck : CK} (ht : ckOf P t = some ck) (b : Bool) (d : Nat) (x : Value) (w : World) : (Instr.checkKey b (d + 1) t x).run P w = .ok () w := by
  unfold ckOf at ht
  unfold Instr.checkKey
  split at ht <;> simp at ht <;> (rename_i hu; rw [Sem.run_bind, run_underlying hu]; simp only [Result.andThen_ok]; cases x <;> rfl)
def descOk : TypeDesc → CK → Prop
  | .int _, .int => True
  | .string, .str => True
  | .bool, .bool => True
  | _, _ => False
theorem sameNow_key {d : TypeDesc} {ck : CK} (hd : descOk d ck) {k k' : Value} {b : Bool} (hs : sameKey ck k k' = some b) : Instr.sameNow d k k' = some b := by
  unfold sameKey at hs
  split at hs
  · cases d <;> simp only [descOk] at hd
    simp only [Instr.sameNow]; exact hs
  · cases d <;> simp only [descOk] at hd
    simp only [Instr.sameNow]; exact hs
  · cases d <;> simp only [descOk] at hd
    simp only [Instr.sameNow]; exact hs
  · cases hs
structure MapAt (Γ : Con) (es : List (Value × AV)) (ms : List MapEntry) : Prop where
  len : ms.length = es.length
  at_ : ∀ (i : Nat) (h : i < es.length) (h' : i < ms.length), ms[i].key = es[i].1 ∧ RV Γ es[i].2 ms[i].val
theorem findNow_sound {d : TypeDesc} {ck : CK} (hd : descOk d ck) {k : Value} :
    ∀ (es : List (Value × AV)) (ms : List MapEntry) (i : Nat) (r : Option (Nat × AV)), MapAt Γ es ms → findK ck k es i = some r →
      match r with
      | none => Instr.findNow d k ms i = some none
      | some (j, a) => ∃ v, Instr.findNow d k ms i = some (some (j, v)) ∧ RV Γ a v ∧ i ≤ j ∧ j - i < es.length ∧ ∃ h : j - i < ms.length, sameKey ck k ms[j - i].key = some true
  | [], ms, i, r, hm, hf => by
    simp only [findK, Option.some.injEq] at hf
    subst hf
    have : ms = [] := List.eq_nil_of_length_eq_zero (by simpa using hm.len)
    subst this; rfl
  | e :: es, ms, i, r, hm, hf => by
    cases ms with
    | nil => have := hm.len; simp at this
    | cons m ms =>
      have h0 := hm.at_ 0 (by simp) (by simp)
      simp only [List.getElem_cons_zero] at h0
      have hm' : MapAt Γ es ms := ⟨by have := hm.len; simpa using this, fun i hi hi' => hm.at_ (i + 1) (by simpa using hi) (by simpa using hi')⟩
      simp only [findK] at hf
      split at hf
      · rename_i hs
        injection hf with hf
        subst hf
        have hsn := sameNow_key hd hs
        refine ⟨m.val, ?_, h0.2, Nat.le_refl _, by simp, by simp, ?_⟩
        · simp only [Instr.findNow, h0.1, hsn]
        · simp only [Nat.sub_self, List.getElem_cons_zero, h0.1]; exact hs
      · rename_i hs
        have hsn := sameNow_key hd hs
        have ih := findNow_sound hd es ms (i + 1) r hm' hf
        have e1 : Instr.findNow d k (m :: ms) i = Instr.findNow d k ms (i + 1) := by simp only [Instr.findNow, h0.1, hsn]
        cases r with
        | none => simp only at ih ⊢; rw [e1]; exact ih
        | some ja =>
          obtain ⟨j, a⟩ := ja
          simp only at ih ⊢
          obtain ⟨v, g1, g2, g3, g4, g5, g6⟩ := ih
          refine ⟨v, by rw [e1]; exact g1, g2, by omega, by simp; omega, by simp; omega, ?_⟩
          have e2 : j - i = j - (i + 1) + 1 := by omega
          simp only [e2, List.getElem_cons_succ]
          exact g6
      · cases hf
theorem ckOf_desc {t : TypeId} {ck : CK} (ht : ckOf P t = some ck) : ∃ d, P.underlying t = some d ∧ descOk d ck := by
  unfold ckOf at ht
  split at ht <;> simp at ht <;> (subst ht; rename_i hu; exact ⟨_, hu, trivial⟩)
theorem run_findKey' {t : TypeId} {ck : CK} (ht : ckOf P t = some ck) {k : Value} {es : List (Value × AV)} {ms : List MapEntry} (hm : MapAt Γ es ms) {r : Option (Nat × AV)} (hf : findK ck k es 0 = some r) (w : World) :
    match r with
    | none => (Instr.findKey t k ms).run P w = .ok none w
    | some (j, a) => ∃ v, (Instr.findKey t k ms).run P w = .ok (some (j, v)) w ∧ RV Γ a v ∧ j < es.length ∧ ∃ h : j < ms.length, sameKey ck k ms[j].key = some true := by
  obtain ⟨d, hd, hm'⟩ := ckOf_desc ht
  have := findNow_sound hm' es ms 0 r hm hf
  cases r with
  | none => simp only at this ⊢; simp only [Instr.findKey, Sem.run_bind, run_underlying hd, Result.andThen_ok, this, Sem.run_pure]
  | some ja =>
    obtain ⟨j, a⟩ := ja
    simp only at this ⊢
    obtain ⟨v, g1, g2, _, g4, g5, g6⟩ := this
    exact ⟨v, by simp only [Instr.findKey, Sem.run_bind, run_underlying hd, Result.andThen_ok, g1, Sem.run_pure], g2, by simpa using g4, by simpa using g5, by simpa using g6⟩
theorem WR.mapAt (H : WR w0 Γ h w) {id b : Nat} {es : List (Value × AV)} (ho : h.objs id = some (.map es)) (hb : Γ.rho id = some b) : ∃ ms clock, w.heap[b]? = some (.map ms clock) ∧ MapAt Γ es ms.toList := by
  obtain ⟨b', hb', _, ⟨ms, clock, hh, hl, hc⟩, _⟩ := H.obj ho
  obtain rfl : b = b' := by rw [hb] at hb'; injection hb'
  exact ⟨ms, clock, hh, by simpa using hl, fun i hi hi' => by rw [Array.getElem_toList]; exact hc i hi (by simpa using hi')⟩
theorem run_getMap {b : Nat} {ms : Array MapEntry} {clock : Nat} (hb : w.heap[b]? = some (.map ms clock)) : (getObj b).run P w = .ok (.map ms clock) w := by
  simp [getObj, Sem.run, hb]
theorem run_setMap {b : Nat} {ms : Array MapEntry} {clock : Nat} (hb : w.heap[b]? = some (.map ms clock)) (o : Obj) : (setObj b o).run P w = .ok () (putBlk w b o) := by
  simp [setObj, Sem.run, hb]; rfl
theorem objAt_map {es : List (Value × AV)} {ms : Array MapEntry} {clock : Nat} {w' : World} {b : Nat} (hb : w'.heap[b]? = some (.map ms clock)) (hm : MapAt Γ es ms.toList) : ObjAt Γ w' b (.map es) :=
  ⟨ms, clock, hb, by simpa using hm.len, fun i hi hi' => by have := hm.at_ i hi (by simpa using hi'); rwa [Array.getElem_toList] at this⟩

theorem run_look {mt kt et : TypeId} {ck : CK} {inf : TypeInfo} {zv : Value} (ht : P.underlying mt = some (.map kt et)) (hk : ckOf P kt = some ck) (hi : P.info? et = some inf) (hz : inf.zero = some zv) {z : AV} (hzv : ∀ Γ : Con, RV Γ z zv) (ok : Bool) (H : WR w0 Γ h w) {x : AV} {X k : Value}
    (hx : RV Γ x X) {a : AV} (hs : lookA h ck z ok k x = some a) : ∃ v, (Instr.lookup mt X k ok).run P w = .ok v w ∧ RV Γ a v := by
  have hzr : (zeroValue et).run P w = .ok zv w := by simp [zeroValue, typeInfo, hi, hz]
  have fin : ∀ {v' : Value} {a' : AV} (b : Bool), RV Γ a' v' → a = (if ok then .tup [a', .v (.bool b)] else a') → RV Γ a (if ok then .tuple #[v', .bool b] else v') := by
    intro v' a' b hv ha
    subst ha
    cases ok
    · exact hv
    · refine .tup rfl (fun i hi hi' => ?_)
      match i, hi with
      | 0, _ => exact hv
      | 1, _ => exact .v _
  unfold lookA at hs
  split at hs
  · rename_i id
    obtain ⟨b, hb, rfl⟩ := hx.inv_mapr
    split at hs
    · rename_i es ho
      obtain ⟨ms, clock, hh, hm⟩ := H.mapAt ho hb
      have hck := checkKey_plain hk ms.isEmpty 9999 k w
      split at hs
      · rename_i j a' hf
        have := run_findKey' hk hm hf w
        simp only at this
        obtain ⟨v, g1, g2, _⟩ := this
        injection hs with hs
        refine ⟨_, ?_, fin true g2 hs.symm⟩
        simp only [Instr.lookup, Sem.run_bind, run_underlying ht, Result.andThen_ok, run_getMap hh, Sem.run_pure, show (Instr.checkKey ms.isEmpty 10000 kt k).run P w = .ok () w from hck, g1]
      · rename_i hf
        have := run_findKey' hk hm hf w
        simp only at this
        injection hs with hs
        refine ⟨_, ?_, fin false (hzv Γ) hs.symm⟩
        simp only [Instr.lookup, Sem.run_bind, run_underlying ht, Result.andThen_ok, run_getMap hh, Sem.run_pure, show (Instr.checkKey ms.isEmpty 10000 kt k).run P w = .ok () w from hck, this, hzr]
      · cases hs
    · cases hs
  · injection hs with hs
    rw [hx.inv_v]
    have hck := checkKey_plain hk true 9999 k w
    have hfk : (Instr.findKey kt k []).run P w = .ok none w := by
      obtain ⟨d, hd, _⟩ := ckOf_desc hk
      simp [Instr.findKey, run_underlying hd, Instr.findNow]
    refine ⟨_, ?_, fin false (hzv Γ) hs.symm⟩
    simp only [Instr.lookup, Sem.run_bind, run_underlying ht, Result.andThen_ok, Sem.run_pure, show (#[] : Array MapEntry).isEmpty = true from rfl, show (Instr.checkKey true 10000 kt k).run P w = .ok () w from hck, hfk, hzr]
  · cases hs
theorem sameKey_bits {ck : CK} {k k' : Value} (hs : sameKey ck k k' = some true) (d : Nat) : Instr.sameBits (d + 1) k' k = true := by
  unfold sameKey at hs
  split at hs
  · split at hs
    · rename_i hkk
      injection hs with hs
      simp only [beq_iff_eq] at hs
      subst hs; subst hkk
      simp [Instr.sameBits]
    · cases hs
  · injection hs with hs
    rw [beq_toListBytes] at hs
    simp only [beq_iff_eq] at hs
    simp [Instr.sameBits, beq_toListBytes, hs]
  · injection hs with hs
    simp only [beq_iff_eq] at hs
    subst hs
    simp [Instr.sameBits]
  · cases hs
theorem run_upd {mt kt et : TypeId} {ck : CK} (ht : P.underlying mt = some (.map kt et)) (hk : ckOf P kt = some ck) (H : WR w0 Γ h w) {id : Nat} {X k V : Value} {a : AV} (hx : RV Γ (.mapr id) X) (hv : RV Γ a V) {es : List (Value × AV)} (ho : h.objs id = some (.map es)) {h' : AH}
    (hs : updA h ck id es k a = some h') : ∃ w', (Instr.mapUpdate mt X k V).run P w = .ok () w' ∧ WR w0 Γ h' w' := by
  obtain ⟨b, hb, rfl⟩ := hx.inv_mapr
  obtain ⟨ms, clock, hh, hm⟩ := H.mapAt ho hb
  have hck := checkKey_plain hk false 9999 k w
  have hml := hm.len
  simp only [Array.length_toList] at hml
  first | unfold updA at hs | unfold delA at hs
  split at hs
  · rename_i i a' hf
    injection hs with hs
    subst hs
    have := run_findKey' hk hm hf w
    simp only at this
    obtain ⟨v, g1, _, g3, g4, g5⟩ := this
    have g4' : i < ms.size := by simpa using g4
    rw [Array.getElem_toList] at g5
    have hbits : Instr.sameBits 10000 ms[i].key k = true := sameKey_bits g5 9999
    refine ⟨_, ?_, H.turn ho hb (putBlk_chg w b (.map (ms.modify i fun e => { e with key := k, val := V }) clock)) (objAt_map (putBlk_at hh _) ?_) (fun _ _ _ h' => by rw [hh] at h'; cases h')⟩
    · simp only [Instr.mapUpdate, Sem.run_bind, run_underlying ht, Result.andThen_ok, run_getMap hh, show (Instr.checkKey false 10000 kt k).run P w = .ok () w from hck, g1, Array.getElem?_eq_getElem g4', Option.map_some, Option.getD_some, Instr.keyThatStays, hbits, if_true, Sem.run_pure, run_setMap hh]
    · refine ⟨by simp [hml], fun j hj hj' => ?_⟩
      simp only [List.length_set] at hj
      have hj2 : j < ms.size := by omega
      have hh2 := hm.at_ j hj (by simpa using hj2)
      simp only [Array.getElem_toList, Array.getElem_modify, List.getElem_set]
      rw [Array.getElem_toList] at hh2
      by_cases e : i = j
      · simp only [e, if_true]; exact ⟨trivial, hv⟩
      · simp only [e, if_false]; exact hh2
  · rename_i hf
    injection hs with hs
    subst hs
    have := run_findKey' hk hm hf w
    simp only at this
    refine ⟨_, ?_, H.turn ho hb (putBlk_chg w b (.map (ms.push { key := k, val := V, born := clock }) (clock + 1))) (objAt_map (putBlk_at hh _) ?_) (fun _ _ _ h' => by rw [hh] at h'; cases h')⟩
    · simp only [Instr.mapUpdate, Sem.run_bind, run_underlying ht, Result.andThen_ok, run_getMap hh, show (Instr.checkKey false 10000 kt k).run P w = .ok () w from hck, this, run_setMap hh]
    · refine ⟨by simp [hml], fun j hj hj' => ?_⟩
      simp only [List.length_append, List.length_singleton] at hj
      simp only [Array.toList_push]
      by_cases e : j < es.length
      · rw [List.getElem_append_left (by simpa [hml] using e), List.getElem_append_left e]
        exact hm.at_ j e (by simpa [hml] using e)
      · obtain rfl : j = es.length := by omega
        rw [List.getElem_append_right (by simp [hml]), List.getElem_append_right (by omega)]
        simp only [Array.length_toList, hml, Nat.sub_self, List.getElem_cons_zero]
        exact ⟨trivial, hv⟩
  · cases hs
theorem run_del {mt kt et ty tk : TypeId} {ck : CK} (ht : P.underlying mt = some (.map kt et)) (hk : ckOf P kt = some ck) (H : WR w0 Γ h w) {id : Nat} {X k : Value} (hx : RV Γ (.mapr id) X) {es : List (Value × AV)} (ho : h.objs id = some (.map es)) {h' : AH}
    (hs : delA h ck id es k = some h') : ∃ w', (Builtin.delete_ #[mt, tk] ty #[X, k]).run P w = .ok (.tuple #[]) w' ∧ WR w0 Γ h' w' := by
  obtain ⟨b, hb, rfl⟩ := hx.inv_mapr
  obtain ⟨ms, clock, hh, hm⟩ := H.mapAt ho hb
  have hck := checkKey_plain hk ms.isEmpty 9999 k w
  have hml := hm.len
  simp only [Array.length_toList] at hml
  first | unfold updA at hs | unfold delA at hs
  split at hs
  · rename_i i a' hf
    injection hs with hs
    subst hs
    have := run_findKey' hk hm hf w
    simp only at this
    obtain ⟨v, g1, _, g3, g4, g5⟩ := this
    have g4' : i < ms.size := by simpa using g4
    refine ⟨_, ?_, H.turn ho hb (putBlk_chg w b (.map (ms.eraseIdxIfInBounds i) clock)) (objAt_map (putBlk_at hh _) ?_) (fun _ _ _ h' => by rw [hh] at h'; cases h')⟩
    · simp only [Builtin.delete_, List.getElem?_toArray, List.getElem?_cons_zero, List.getElem?_cons_succ, Sem.run_bind, run_underlying ht, Result.andThen_ok, run_getMap hh, show (Instr.checkKey ms.isEmpty 10000 kt k).run P w = .ok () w from hck, g1, run_setMap hh, Sem.run_pure]
    · have e1 : (ms.eraseIdxIfInBounds i).toList = ms.toList.eraseIdx i := by simp [Array.eraseIdxIfInBounds, g4']
      rw [e1]
      refine ⟨by simp [List.length_eraseIdx, hml], fun j hj hj' => ?_⟩
      simp only [List.getElem_eraseIdx]
      rw [List.length_eraseIdx, if_pos g3] at hj
      by_cases e : j < i
      · simp only [e, dite_true]
        exact hm.at_ j (by omega) (by simp; omega)
      · simp only [e, dite_false]
        exact hm.at_ (j + 1) (by omega) (by simp; omega)
  · rename_i hf
    injection hs with hs
    subst hs
    have := run_findKey' hk hm hf w
    simp only at this
    have e2 : AH.set h id (.map es) = h := by
      cases h
      simp only [AH.set, AH.mk.injEq, and_true]
      funext i
      split
      · rename_i e; subst e; exact ho.symm
      · rfl
    refine ⟨_, ?_, e2 ▸ H.turn ho hb (putBlk_chg w b (.map ms clock)) (objAt_map (putBlk_at hh _) hm) (fun _ _ _ h' => by rw [hh] at h'; cases h')⟩
    simp only [Builtin.delete_, List.getElem?_toArray, List.getElem?_cons_zero, List.getElem?_cons_succ, Sem.run_bind, run_underlying ht, Result.andThen_ok, run_getMap hh, show (Instr.checkKey ms.isEmpty 10000 kt k).run P w = .ok () w from hck, this, run_setMap hh, Sem.run_pure]
  · cases hs

/-! letters of a string -/
theorem run_nxt {id : Nat} {X : Value} (H : WR w0 Γ h w) (hx : RV Γ (.ptr id 0) X) {s : ByteArray} {pos : Nat} (ho : h.objs id = some (.siter s pos)) (ty : TypeId) :
    ∃ w', (Instr.next X true ty).run P w = .ok (if pos < s.size then .tuple #[.bool true, .int .i64 pos, .int .i32 (Utf8.decode s pos).1] else .tuple #[.bool false]) w' ∧
      WR w0 Γ (if pos < s.size then h.set id (.siter s (pos + (Utf8.decode s pos).2)) else h) w' := by
  obtain ⟨b, hb, rfl⟩ := hx.inv_ptr
  obtain ⟨b', hb', _, hh, _⟩ := H.obj ho
  obtain rfl : b = b' := by rw [hb] at hb'; injection hb'
  have hg : (getObj b).run P w = .ok (.stringIter s pos) w := by
    have hh' : w.heap[b]? = some (.stringIter s pos) := hh
    simp [getObj, Sem.run, hh']
  by_cases hp : pos < s.size
  · rw [if_pos hp, if_pos hp]
    refine ⟨putBlk w b (.stringIter s (pos + (Utf8.decode s pos).2)), ?_, H.turn ho hb (putBlk_chg w b _) (putBlk_at hh _) (fun _ _ _ h' => by rw [hh] at h'; cases h')⟩
    have hset : (setObj b (.stringIter s (pos + (Utf8.decode s pos).2))).run P w = .ok () (putBlk w b (.stringIter s (pos + (Utf8.decode s pos).2))) := by
      have hh' : w.heap[b]? = some (.stringIter s pos) := hh
      simp [setObj, Sem.run, hh']; rfl
    simp only [Instr.next, Sem.run_bind, hg, Result.andThen_ok, hp, if_true, hset, Sem.run_pure]
    rfl
  · rw [if_neg hp, if_neg hp]
    refine ⟨w, ?_, H⟩
    simp only [Instr.next, Sem.run_bind, hg, Result.andThen_ok, hp, if_false, Sem.run_pure]
end
end Go.Abs
/- A program logic over abstract states, 11: the compact operation that an operation of the model comes to. -/
namespace Go.Abs
open Go Go.RowKit
set_option linter.unusedVariables false
set_option linter.unusedSimpArgs false

def c1 (P : Program) (t : TypeId) (X : Operand) (f : Opd → IOp) : Option IOp := (copd P t X).map f
def c2 (P : Program) (t : TypeId) (X : Operand) (u : TypeId) (Y : Operand) (f : Opd → Opd → IOp) : Option IOp :=
  match copd P t X, copd P u Y with
  | some x, some y => some (f x y)
  | _, _ => none
def c3 (P : Program) (t : TypeId) (X : Operand) (u : TypeId) (Y : Operand) (s : TypeId) (Z : Operand) (f : Opd → Opd → Opd → IOp) : Option IOp :=
  match copd P t X, copd P u Y, copd P s Z with
  | some x, some y, some z => some (f x y z)
  | _, _, _ => none
def copt (P : Program) : Option Operand → Option (Option Opd)
  | none => some none
  | some X => (copd P 0 X).map some
def clist (P : Program) : List Operand → Option (List Opd)
  | [] => some []
  | X :: Xs => match copd P 0 X, clist P Xs with
    | some x, some xs => some (x :: xs)
    | _, _ => none
/-- arguments, each at its type -/
def cargs (P : Program) : List TypeId → List Operand → Option (List Opd)
  | _, [] => some []
  | ts, X :: Xs => match copd P (ts.headD 0) X, cargs P ts.tail Xs with
    | some x, some xs => some (x :: xs)
    | _, _ => none
def szsOf (P : Program) : Nat → TypeId → List Nat
  | 0, _ => []
  | d + 1, t => match P.underlying t with
    | some (.struct fs) => (fs.toList.map fun f => szsOf P d f.type).flatten
    | some (.array n e) => (List.replicate n (szsOf P d e)).flatten
    | some (.slice e) => [P.cellsOf e]
    | _ => [0]
def zeroOf (P : Program) (t : TypeId) : Option (List AV) :=
  match P.info? t with
  | some i => match i.zero with
    | some z => if z.cells.toList.all (·.oneCell') then some (zeroA (szsOf P 20 t) z.cells.toList) else none
    | none => none
  | none => none
/-- The zero value of a type, whole. -/
def zeroV (P : Program) (t : TypeId) : Option AV :=
  match P.info? t with
  | some i => match i.zero with
    | some (.agg cs) => if cs.toList.all (·.oneCell') then some (.agg (zeroA (szsOf P 20 t) cs.toList)) else none
    | some (.slice none 0 0) => some (.list (elSz P t) [] .full)
    | some z => some (.v z)
    | none => none
  | none => none
def cpartsS (P : Program) (fs : Array Field) : List (Nat × Operand) → Option (List (Nat × Nat × Opd))
  | [] => some []
  | (i, X) :: r => match fs[i]? with
    | some f => match P.info? f.type, copd P f.type X, cpartsS P fs r with
      | some inf, some x, some ps => some ((f.offset, inf.size, x) :: ps)
      | _, _, _ => none
    | none => none
def cpartsA (P : Program) (e : TypeId) (sz : Nat) : List (Nat × Operand) → Option (List (Nat × Nat × Opd))
  | [] => some []
  | (i, X) :: r => match copd P e X, cpartsA P e sz r with
    | some x, some ps => some ((i * sz, sz, x) :: ps)
    | _, _ => none
def cpartsL (P : Program) (e : TypeId) : List (Nat × Operand) → Option (List (Nat × Opd))
  | [] => some []
  | (i, X) :: r => match copd P e X, cpartsL P e r with
    | some x, some ps => some ((i, x) :: ps)
    | _, _ => none
def isU8 (P : Program) (t : TypeId) : Bool := match P.underlying t with | some (.int .u8) => true | _ => false

def compCall (P : Program) (c : Call) : Option IOp :=
  match c.callee with
  | .builtin .len => match c.args.toList, c.argTypes.toList with
    | [X], [t] => match P.underlying t with
      | some .string => c1 P t X (.len .str)
      | some (.slice _) => c1 P t X (.len .sl)
      | some (.map _ _) => c1 P t X (.len .map)
      | _ => none
    | _, _ => none
  | .builtin .cap => match c.args.toList, c.argTypes.toList with
    | [X], [t] => match P.underlying t with
      | some (.slice _) => c1 P t X .cap
      | _ => none
    | _, _ => none
  | .builtin .append => match c.args.toList, c.argTypes.toList with
    | [X, Y], [t, u] => match P.underlying t, P.underlying u with
      | some (.slice e), some (.slice _) | some (.slice e), some .string => match P.info? e with
        | some i => match i.zero with
          | some z => if z.cells.size == i.size && i.bytes != 0 && z.cells.toList.all (·.oneCell') then c2 P t X u Y (.app i.size i.bytes) else none
          | none => none
        | none => none
      | _, _ => none
    | _, _ => none
  | .builtin .copy => match c.args.toList, c.argTypes.toList with
    | [X, Y], [t, u] => match P.underlying t with
      | some (.slice e) => match P.info? e with
        | some i => c2 P t X u Y (.cpy i.size)
        | none => none
      | _ => none
    | _, _ => none
  | .builtin .min => (clist P c.args.toList).map (.mnx false)
  | .builtin .max => (clist P c.args.toList).map (.mnx true)
  | .builtin .delete => match c.args.toList, c.argTypes.toList with
    | [X, Y], [t, u] => match P.underlying t with
      | some (.map k _) => match ckOf P k with
        | some ck => c2 P t X u Y (.del ck)
        | none => none
      | _ => none
    | _, _ => none
  | .value (.func f) => (cargs P c.argTypes.toList c.args.toList).map (.call f)
  | .value X => match copd P 0 X, cargs P c.argTypes.toList c.args.toList with
    | some x, some xs => some (.callv x xs)
    | _, _ => none
  | _ => none

/-- A type of which the new objects' type is kept in mind: strings.Builder. -/
def keptT (P : Program) (t : TypeId) : Bool := match P.underlying t with
  | some (.struct fs) => match fs[0]? with
    | some f => f.name == "addr" && f.pkgPath == "strings"
    | none => false
  | _ => false
def bldZ : List AV → Bool
  | [.v (.pointer none), .list 1 [] .full] => true
  | _ => false
theorem bldZ_out {z : List AV} (h : bldZ z = true) : z = [.v (.pointer none), .list 1 [] .full] := by
  unfold bldZ at h
  split at h
  · rfl
  · cases h
def compOp (P : Program) (rows : List Nat) (o : Oper) : Option IOp :=
  match o.op with
  | .move X | .assign X => c1 P o.type X .mv
  | .pick C A B => c3 P 0 C o.type A o.type B .pick
  | .alloc e => (zeroOf P e).map fun z => if keptT P e && bldZ z then .newT e z else .new z
  | .box e X => c1 P e X .box
  | .build t ps => match P.underlying t, zeroOf P t with
    | some (.struct fs), some z => if fs.toList.all (fun f => (P.info? f.type).isSome) then (cpartsS P fs ps.toList).map (.build z) else none
    | some (.array _ e), some z => match P.info? e with
      | some i => (cpartsA P e i.size ps.toList).map (.build z)
      | none => none
    | _, _ => none
  | .buildSlice t n ps => match P.underlying t with
    | some (.slice e) => match P.info? e, zeroOf P e, cpartsL P e ps.toList with
      | some i, some z, some qs => if z.length == i.size && i.size != 0 && decide (n * i.size ≤ 2 ^ 24) then
          some (if (o.dst.map fun d => rows.contains d).getD false then .litRow i.size n z qs else .lit i.size n z qs) else none
      | _, _, _ => none
    | _ => none
  | .load t X => match aggSz P t with
    | some s => c1 P 0 X fun x => .load x s
    | none => none
  | .store t X Y => match P.info? t with
    | some i => c2 P 0 X t Y fun x y => .store x y i.size
    | none => none
  | .nilCheck X => c1 P 0 X .nilc
  | .binOp op t X Y _ => match eqOf P t X Y with
    | some k => c2 P t X t Y (.bin op k)
    | none => none
  | .unOp op _ X => c1 P 0 X (.un op)
  | .convert s d X => match P.underlying s, P.underlying d with
    | some (.int _), some (.int k) => c1 P s X (.convI k)
    | some .string, some .string => c1 P s X .convS
    | some .string, some (.slice e) => if isU8 P e then c1 P s X (.s2b ((o.dst.map fun d => rows.contains d).getD false)) else none
    | some (.slice e), some .string => if isU8 P e then c1 P s X .b2s else none
    | _, _ => none
  | .makeInterface t X => match P.underlying t with
    | some (.interface _) => none
    | some _ => c1 P t X (.mki t)
    | none => none
  | .makeFunc fn fs cs => match clist P fs.toList, clist P cs.toList with
    | some fs, some cs => some (.mkf fn fs cs)
    | _, _ => none
  | .makeMap _ none => some .mkm
  | .makeSlice t L C => match P.underlying t with
    | some (.slice e) => match P.info? e, zeroOf P e with
      | some i, some z => if z.length == i.size then c2 P 0 L 0 C (.mks i.size i.bytes z) else none
      | _, _ => none
    | _ => none
  | .slice t X lo hi mx => match P.underlying t with
    | some .string => match copd P t X, copt P lo, copt P hi, mx with
      | some x, some lo, some hi, none => some (.slS x lo hi)
      | _, _, _, _ => none
    | some (.slice e) => match P.info? e with
      | some i => match copd P t X, copt P lo, copt P hi, copt P mx with
        | some x, some lo, some hi, some mx => if mx.isNone || hi.isSome then some (.slL i.size x lo hi mx) else none
        | _, _, _, _ => none
      | none => none
    | some (.array n e) => match P.info? e with
      | some i => match copd P t X, copt P lo, copt P hi, mx with
        | some x, some lo, some hi, none => some (.slA n i.size x lo hi)
        | _, _, _, _ => none
      | none => none
    | _ => none
  | .fieldAddr s X f => match P.underlying s with
    | some (.struct fs) => match fs[f]? with
      | some fd => match P.info? fd.type with
        | some i => if i.size != 0 then c1 P 0 X fun x => .fad x fd.offset else none
        | none => none
      | none => none
    | _ => none
  | .field s X f => match P.underlying s with
    | some (.struct fs) => match fs[f]? with
      | some fd => match aggSz P fd.type with
        | some z => c1 P s X fun x => .fld x fd.offset z
        | none => none
      | none => none
    | _ => none
  | .indexAddr t X I => match P.underlying t with
    | some (.slice e) => match P.info? e with
      | some i => c2 P t X 0 I (.iaL i.size)
      | none => none
    | some (.array n e) => match P.info? e with
      | some i => c2 P 0 X 0 I (.iaA n i.size)
      | none => none
    | _ => none
  | .index t X I => match P.underlying t with
    | some .string => c2 P t X 0 I .ixS
    | some (.array n e) => match P.info? e, aggSz P e with
      | some i, some s => c2 P t X 0 I (.ixA n i.size s.isSome)
      | _, _ => none
    | _ => none
  | .lookup t X K ok => match P.underlying t with
    | some (.map k e) => match ckOf P k, zeroV P e with
      | some ck, some z => c2 P 0 X k K (.look ck z ok)
      | _, _ => none
    | _ => none
  | .mapUpdate t M K X | .insert t M K X => match P.underlying t with
    | some (.map k e) => match ckOf P k with
      | some ck => c3 P 0 M k K e X (.upd ck)
      | none => none
    | _ => none
  | .extract X i => c1 P 0 X fun x => .ext x i
  | .range t X => match P.underlying t with
    | some .string => c1 P t X .rng
    | _ => none
  | .next X true => c1 P 0 X .nxt
  | .call c => compCall P c
  | _ => none

section
variable {P : Program} {w0 : World} {Γ : Con} {h : AH} {w : World} {fr : List AV} {a : Act}

theorem c1_inv {t : TypeId} {X : Operand} {f : Opd → IOp} {i : IOp} (hc : c1 P t X f = some i) (hf : FR Γ fr a) : ∃ x, i = f x ∧ RV Γ (ev fr x) (a.eval X) := by
  simp only [c1, Option.map_eq_some_iff] at hc
  obtain ⟨x, hx, rfl⟩ := hc
  exact ⟨x, rfl, hf.eval hx⟩
theorem c2_inv {t u : TypeId} {X Y : Operand} {f : Opd → Opd → IOp} {i : IOp} (hc : c2 P t X u Y f = some i) (hf : FR Γ fr a) : ∃ x y, i = f x y ∧ RV Γ (ev fr x) (a.eval X) ∧ RV Γ (ev fr y) (a.eval Y) := by
  unfold c2 at hc
  split at hc
  · rename_i x y hx hy
    injection hc with hc
    exact ⟨x, y, hc.symm, hf.eval hx, hf.eval hy⟩
  · cases hc
theorem c3_inv {t u s : TypeId} {X Y Z : Operand} {f : Opd → Opd → Opd → IOp} {i : IOp} (hc : c3 P t X u Y s Z f = some i) (hf : FR Γ fr a) :
    ∃ x y z, i = f x y z ∧ RV Γ (ev fr x) (a.eval X) ∧ RV Γ (ev fr y) (a.eval Y) ∧ RV Γ (ev fr z) (a.eval Z) := by
  unfold c3 at hc
  split at hc
  · rename_i x y z hx hy hz
    injection hc with hc
    exact ⟨x, y, z, hc.symm, hf.eval hx, hf.eval hy, hf.eval hz⟩
  · cases hc
theorem copt_inv {X : Option Operand} {x : Option Opd} (hc : copt P X = some x) (hf : FR Γ fr a) : BndOk Γ (ev fr) x (X.map a.eval) := by
  cases X with
  | none => simp only [copt, Option.some.injEq] at hc; subst hc; exact ⟨trivial⟩
  | some X =>
    simp only [copt, Option.map_eq_some_iff] at hc
    obtain ⟨y, hy, rfl⟩ := hc
    exact ⟨hf.eval hy⟩
/-- Values side by side. -/
structure RVs (Γ : Con) (xs : List AV) (vs : List Value) : Prop where
  len : vs.length = xs.length
  at_ : ∀ (i : Nat) (h : i < xs.length) (h' : i < vs.length), RV Γ xs[i] vs[i]
theorem RVs.nil : RVs Γ [] [] := ⟨rfl, fun i hi => by simp at hi⟩
theorem RVs.cons {x : AV} {v : Value} {xs : List AV} {vs : List Value} (hx : RV Γ x v) (h : RVs Γ xs vs) : RVs Γ (x :: xs) (v :: vs) :=
  ⟨by simp [h.len], fun i hi hi' => by cases i with | zero => exact hx | succ i => exact h.at_ i (by simpa using hi) (by simpa using hi')⟩
theorem RVs.append {xs ys : List AV} {vs us : List Value} (h : RVs Γ xs vs) (h' : RVs Γ ys us) : RVs Γ (xs ++ ys) (vs ++ us) := by
  have hl := h.len; have hl' := h'.len
  refine ⟨by simp [hl, hl'], fun i hi hi' => ?_⟩
  by_cases hlt : i < xs.length
  · rw [List.getElem_append_left hlt, List.getElem_append_left (by omega)]
    exact h.at_ i hlt (by omega)
  · rw [List.getElem_append_right (by omega), List.getElem_append_right (by omega)]
    have := h'.at_ (i - xs.length) (by simp at hi; omega) (by simp at hi'; omega)
    simpa only [hl] using this
theorem RVs.mono {Γ' : Con} (hl : Γ.le Γ') {xs : List AV} {vs : List Value} (h : RVs Γ xs vs) : RVs Γ' xs vs := ⟨h.len, fun i a b => (h.at_ i a b).mono hl⟩
theorem clist_inv (hf : FR Γ fr a) : ∀ {Xs : List Operand} {xs : List Opd}, clist P Xs = some xs → RVs Γ (xs.map (ev fr)) (Xs.map a.eval)
  | [], xs, hc => by simp only [clist, Option.some.injEq] at hc; subst hc; exact .nil
  | X :: Xs, xs, hc => by
    simp only [clist] at hc
    split at hc
    · rename_i x xs' hx hxs
      injection hc with hc
      subst hc
      exact .cons (hf.eval hx) (clist_inv hf hxs)
    · cases hc
theorem cargs_inv (hf : FR Γ fr a) : ∀ {Xs : List Operand} {ts : List TypeId} {xs : List Opd}, cargs P ts Xs = some xs → RVs Γ (xs.map (ev fr)) (Xs.map a.eval)
  | [], ts, xs, hc => by cases ts <;> (simp only [cargs, Option.some.injEq] at hc; subst hc; exact .nil)
  | X :: Xs, ts, xs, hc => by
    simp only [cargs] at hc
    split at hc
    · rename_i x xs' hx hxs
      injection hc with hc
      subst hc
      exact .cons (hf.eval hx) (cargs_inv hf hxs)
    · cases hc
theorem zeroOf_inv {t : TypeId} {z : List AV} (hz : zeroOf P t = some z) : ∃ i v, P.info? t = some i ∧ i.zero = some v ∧ v.cells.toList.all (·.oneCell') = true ∧ z = zeroA (szsOf P 20 t) v.cells.toList ∧ ∀ Γ : Con, Cells Γ z v.cells.toList := by
  unfold zeroOf at hz
  split at hz
  · rename_i i hi
    split at hz
    · rename_i v hv
      split at hz
      · rename_i hall
        injection hz with hz
        subst hz
        exact ⟨i, v, hi, hv, hall, rfl, fun Γ => zeroA_sound _ _ hall⟩
      · cases hz
    · cases hz
  · cases hz
theorem zeroV_inv {t : TypeId} {z : AV} (hz : zeroV P t = some z) : ∃ i v, P.info? t = some i ∧ i.zero = some v ∧ ∀ Γ : Con, RV Γ z v := by
  unfold zeroV at hz
  split at hz
  · rename_i i hi
    split at hz
    · rename_i cs hv
      split at hz
      · rename_i hall
        injection hz with hz
        subst hz
        refine ⟨i, _, hi, hv, fun Γ => ?_⟩
        have hc := zeroA_sound (Γ := Γ) (szsOf P 20 t) _ hall
        have hl := hc.len
        refine .agg (by simpa using hl) (fun j hj => hc.one _ (by simp)) (fun j hj hj' => ?_)
        have := hc.at_ j hj (by simpa using hj')
        rwa [Array.getElem_toList] at this
      · cases hz
    · rename_i hv
      injection hz with hz
      subst hz
      exact ⟨i, _, hi, hv, fun Γ => .nilf⟩
    · rename_i v _ _ hv
      injection hz with hz
      subst hz
      exact ⟨i, _, hi, hv, fun Γ => .v _⟩
    · cases hz
  · cases hz
theorem cpartsS_inv {fs : Array Field} {places : List (Nat × Nat)} (hp : fs.toList.mapM (fun f => (P.info? f.type).map fun i => (f.offset, i.size)) = some places) (hf : FR Γ fr a) :
    ∀ {ps : List (Nat × Operand)} {qs : List (Nat × Nat × Opd)}, cpartsS P fs ps = some qs → Parts Γ (places.toArray[·]?) (qs.map fun p => (p.1, p.2.1, ev fr p.2.2)) (ps.map fun p => (p.1, a.eval p.2))
  | [], qs, hc => by simp only [cpartsS, Option.some.injEq] at hc; subst hc; exact .nil
  | (i, X) :: ps, qs, hc => by
    simp only [cpartsS] at hc
    split at hc
    · rename_i f hfi
      split at hc
      · rename_i inf x ps' hi hx hps
        injection hc with hc
        subst hc
        have hpl : ∀ (l : List Field) (pl : List (Nat × Nat)) (i : Nat), l.mapM (fun f => (P.info? f.type).map fun i => (f.offset, i.size)) = some pl → l[i]? = some f → pl[i]? = some (f.offset, inf.size) := by
          intro l
          induction l with
          | nil => intro pl i _ h2; simp at h2
          | cons g l ih =>
            intro pl i h1 h2
            simp only [List.mapM_cons, Option.bind_eq_bind, Option.pure_def] at h1
            cases hg : P.info? g.type with
            | none => simp [hg] at h1
            | some ig =>
              cases hl : l.mapM (fun f => (P.info? f.type).map fun i => (f.offset, i.size)) with
              | none => simp [hg, hl] at h1
              | some rest =>
                simp [hg, hl] at h1
                subst h1
                cases i with
                | zero =>
                  simp only [List.getElem?_cons_zero, Option.some.injEq] at h2 ⊢
                  subst h2
                  rw [hi] at hg
                  injection hg with hg
                  rw [hg]
                | succ i => exact ih rest i hl (by simpa using h2)
        refine .cons ?_ (hf.eval hx) (cpartsS_inv hp hf hps)
        simp only [List.getElem?_toArray]
        exact hpl _ _ i hp (by simpa using hfi)
      · cases hc
    · cases hc
theorem cpartsA_inv {e : TypeId} {sz : Nat} (hf : FR Γ fr a) : ∀ {ps : List (Nat × Operand)} {qs : List (Nat × Nat × Opd)}, cpartsA P e sz ps = some qs → Parts Γ (fun i => some (i * sz, sz)) (qs.map fun p => (p.1, p.2.1, ev fr p.2.2)) (ps.map fun p => (p.1, a.eval p.2))
  | [], qs, hc => by simp only [cpartsA, Option.some.injEq] at hc; subst hc; exact .nil
  | (i, X) :: ps, qs, hc => by
    simp only [cpartsA] at hc
    split at hc
    · rename_i x ps' hx hps
      injection hc with hc
      subst hc
      exact .cons rfl (hf.eval hx) (cpartsA_inv hf hps)
    · cases hc
theorem cpartsL_inv {e : TypeId} {sz : Nat} (hf : FR Γ fr a) : ∀ {ps : List (Nat × Operand)} {qs : List (Nat × Opd)}, cpartsL P e ps = some qs → Parts Γ (fun i => some (i * sz, sz)) (qs.map fun p => (p.1 * sz, sz, ev fr p.2)) (ps.map fun p => (p.1, a.eval p.2))
  | [], qs, hc => by simp only [cpartsL, Option.some.injEq] at hc; subst hc; exact .nil
  | (i, X) :: ps, qs, hc => by
    simp only [cpartsL] at hc
    split at hc
    · rename_i x ps' hx hps
      injection hc with hc
      subst hc
      exact .cons rfl (hf.eval hx) (cpartsL_inv hf hps)
    · cases hc
end
end Go.Abs
/- A program logic over abstract states, 12: the compact operation tells what the model's does. -/
namespace Go.Abs
open Go Go.RowKit
set_option linter.unusedVariables false
set_option linter.unusedSimpArgs false

section
variable {P : Program} {w0 : World} {Γ : Con} {h : AH} {w : World} {fr : List AV} {a : Act}

theorem Res.val {r : Result Next} {s : Sem Value} {x : Value} {v : AV} (hr : r = (do pure (Next.value (← s)) : Sem Next).run P w) (hs : s.run P w = .ok x w) (hv : RV Γ v x) (H : WR w0 Γ h w) : Res P w0 Γ r v h := by
  refine ⟨Γ, x, w, .inl ?_, .refl Γ, hv, H⟩
  rw [hr, Sem.run_bind, hs]; rfl
theorem Res.valw {r : Result Next} {s : Sem Value} {x : Value} {v : AV} {w' : World} {Γ' : Con} {h' : AH} (hr : r = (do pure (Next.value (← s)) : Sem Next).run P w) (hs : s.run P w = .ok x w') (hl : Γ.le Γ') (hv : RV Γ' v x) (H : WR w0 Γ' h' w') : Res P w0 Γ r v h' := by
  refine ⟨Γ', x, w', .inl ?_, hl, hv, H⟩
  rw [hr, Sem.run_bind, hs]; rfl
theorem Res.unit {r : Result Next} {s : Sem Unit} {w' : World} {h' : AH} (hr : r = (do s; pure Next.skip : Sem Next).run P w) (hs : s.run P w = .ok () w') (H : WR w0 Γ h' w') : Res P w0 Γ r (.v undef) h' := by
  refine ⟨Γ, undef, w', .inr ⟨?_, rfl⟩, .refl Γ, .v _, H⟩
  rw [hr, Sem.run_bind, hs]; rfl

variable {e : Opd → AV}

theorem snd_load {o : Oper} {t : TypeId} {X : Operand} (hop : o.op = .load t X) {s : Option Nat} (ht : aggSz P t = some s) {x : Opd} (hx : RV Γ (e x) (a.eval X)) (H : WR w0 Γ h w) {v : AV} {h' : AH} (hs : istep (.load x s) e h = some (v, h')) :
    Res P w0 Γ ((execOp a.eval o).run P w) v h' := by
  have he : execOp a.eval o = (do pure (Next.value (← Instr.loadAt t (a.eval X))) : Sem Next) := by unfold execOp; simp only [hop]
  rw [he]; clear he
  generalize a.eval X = xv at hx
  have go : ∀ (b o' : Nat) (off : Nat) (cs : List AV), Here Γ w b o' cs → xv = .pointer (some ⟨b, o' + off, none⟩) → ((rd cs off s).map fun a => (a, h)) = some (v, h') → Res P w0 Γ ((do pure (Next.value (← Instr.loadAt t xv)) : Sem Next).run P w) v h' := by
    intro b o' off cs hh hxv hrd
    simp only [Option.map_eq_some_iff, Prod.mk.injEq] at hrd
    obtain ⟨v', hv', rfl, rfl⟩ := hrd
    obtain ⟨y, hy, hyv⟩ := run_rd (P := P) ht hh hv'
    subst hxv
    exact Res.val rfl (by simpa [Instr.loadAt, Instr.sureAddr] using hy) hyv H
  simp only [istep] at hs
  split at hs
  · rename_i id off hk
    rw [hk] at hx
    obtain ⟨b, hb, hxv⟩ := hx.inv_ptr
    split at hs
    · rename_i cs ho
      exact go b 0 off cs (H.here ho hb) (by rw [hxv, Nat.zero_add]) hs
    · cases hs
  · rename_i cs off hk
    rw [hk] at hx
    obtain ⟨b, o', u, hxv, hF, h1, hr⟩ := hx.inv_lptr
    exact go b o' off cs ⟨u, fun j hj => H.fcell (hF j hj), h1, hr⟩ hxv hs
  · cases hs
theorem snd_store {o : Oper} {t : TypeId} {X Y : Operand} (hop : o.op = .store t X Y) {i : TypeInfo} (hi : P.info? t = some i) {x y : Opd} (hx : RV Γ (e x) (a.eval X)) (hy : RV Γ (e y) (a.eval Y)) (H : WR w0 Γ h w) {v : AV} {h' : AH}
    (hs : istep (.store x y i.size) e h = some (v, h')) : Res P w0 Γ ((execOp a.eval o).run P w) v h' := by
  have he : execOp a.eval o = (do Instr.storeAt t (a.eval X) (a.eval Y); pure Next.skip : Sem Next) := by unfold execOp; simp only [hop]
  rw [he]; clear he
  generalize a.eval X = xv at hx
  generalize a.eval Y = yv at hy
  simp only [istep] at hs
  split at hs
  · rename_i id off as hk hsc
    rw [hk] at hx
    obtain ⟨b, hb, rfl⟩ := hx.inv_ptr
    have hcl := scells_sound hsc hy
    split at hs
    · rename_i cs ho
      split at hs
      · rename_i hc
        simp only [Option.some.injEq, Prod.mk.injEq] at hs
        obtain ⟨rfl, rfl⟩ := hs
        obtain ⟨w', hst, HW⟩ := H.store P ho hb hcl (off := off) (by omega)
        refine Res.unit rfl (w' := w') ?_ HW
        have hsz : yv.cells.size = i.size := by have := hcl.len; rw [Array.length_toList] at this; omega
        simp only [Instr.storeAt, Sem.run_bind, Instr.sureAddr, Sem.run_pure, Result.andThen_ok, storeVar, run_sizeOf' hi, hsz, ne_eq, not_true, if_false, hst]
      · cases hs
    · cases hs
  · cases hs
theorem snd_nilc {o : Oper} {X : Operand} (hop : o.op = .nilCheck X) {x : Opd} (hx : RV Γ (e x) (a.eval X)) (H : WR w0 Γ h w) {v : AV} {h' : AH} (hs : istep (.nilc x) e h = some (v, h')) : Res P w0 Γ ((execOp a.eval o).run P w) v h' := by
  simp only [istep] at hs
  split at hs
  · rename_i id off hk
    rw [hk] at hx
    obtain ⟨b, hb, hxv⟩ := hx.inv_ptr
    simp only [Option.some.injEq, Prod.mk.injEq] at hs
    obtain ⟨rfl, rfl⟩ := hs
    exact Res.same (by unfold execOp; simp only [hop, hxv]; rfl) hx H
  · rename_i cs off hk
    rw [hk] at hx
    obtain ⟨b, o', u, hxv, _⟩ := hx.inv_lptr
    simp only [Option.some.injEq, Prod.mk.injEq] at hs
    obtain ⟨rfl, rfl⟩ := hs
    exact Res.same (by unfold execOp; simp only [hop, hxv]; rfl) hx H
  · rename_i fn fs cs hk
    rw [hk] at hx
    obtain ⟨vf, vc, hxv, _⟩ := hx.inv_func
    split at hs
    · simp only [Option.some.injEq, Prod.mk.injEq] at hs
      obtain ⟨rfl, rfl⟩ := hs
      exact Res.same (by unfold execOp; simp only [hop, hxv]; rfl) hx H
    · cases hs
  · cases hs
theorem snd_box {o : Oper} {t : TypeId} {X : Operand} (hop : o.op = .box t X) {x : Opd} (hx : RV Γ (e x) (a.eval X)) (H : WR w0 Γ h w) {v : AV} {h' : AH} (hs : istep (.box x) e h = some (v, h')) : Res P w0 Γ ((execOp a.eval o).run P w) v h' := by
  have he : execOp a.eval o = (do pure (Next.value (← Instr.box t (a.eval X))) : Sem Next) := by unfold execOp; simp only [hop]
  rw [he]; clear he
  generalize a.eval X = xv at hx
  simp only [istep] at hs
  split at hs
  · rename_i cs hsc
    simp only [Option.some.injEq, Prod.mk.injEq] at hs
    obtain ⟨rfl, rfl⟩ := hs
    have hcl := scells_sound hsc hx
    refine Res.valw rfl (s := Instr.box t xv) (x := .pointer (some ⟨w.heap.size, 0, none⟩)) (w' := w.alloc (.cells xv.cells t)) (by simp [Instr.box, newVar, newRow]) (H.le_obj _) (.ptr (by simp [Con.withObj])) (H.new _ _ (fun w' hw' => objAt_cells hw' (hcl.mono (H.le_obj _))))
  · cases hs
theorem snd_new {o : Oper} {t : TypeId} (hop : o.op = .alloc t) {z : List AV} (hz : zeroOf P t = some z) (H : WR w0 Γ h w) {v : AV} {h' : AH} (hs : istep (.new z) e h = some (v, h')) : Res P w0 Γ ((execOp a.eval o).run P w) v h' := by
  have he : execOp a.eval o = (do pure (Next.value (← Instr.alloc t true (.tuple #[]))) : Sem Next) := by unfold execOp; simp only [hop]
  rw [he]; clear he
  simp only [istep, Option.some.injEq, Prod.mk.injEq] at hs
  obtain ⟨rfl, rfl⟩ := hs
  obtain ⟨i, zv, hi, hzv, _, _, hc⟩ := zeroOf_inv hz
  refine Res.valw rfl (s := Instr.alloc t true (.tuple #[])) (x := .pointer (some ⟨w.heap.size, 0, none⟩)) (w' := w.alloc (.cells zv.cells t)) (by simp [Instr.alloc, zeroValue, typeInfo, hi, hzv, newVar, newRow]) (H.le_obj _) (.ptr (by simp [Con.withObj])) (H.new _ _ (fun w' hw' => objAt_cells hw' (hc _)))
theorem snd_newT {o : Oper} {t : TypeId} (hop : o.op = .alloc t) {z : List AV} (hz : zeroOf P t = some z) (hb : bldZ z = true) (H : WR w0 Γ h w) {v : AV} {h' : AH} (hs : istep (.newT t z) e h = some (v, h')) : Res P w0 Γ ((execOp a.eval o).run P w) v h' := by
  have he : execOp a.eval o = (do pure (Next.value (← Instr.alloc t true (.tuple #[]))) : Sem Next) := by unfold execOp; simp only [hop]
  rw [he]; clear he
  simp only [istep, Option.some.injEq, Prod.mk.injEq] at hs
  obtain ⟨rfl, rfl⟩ := hs
  obtain ⟨i, zv, hi, hzv, _, _, hc⟩ := zeroOf_inv hz
  obtain rfl := bldZ_out hb
  refine Res.valw rfl (s := Instr.alloc t true (.tuple #[])) (x := .pointer (some ⟨w.heap.size, 0, none⟩)) (w' := w.alloc (.cells zv.cells t)) (by simp [Instr.alloc, zeroValue, typeInfo, hi, hzv, newVar, newRow]) (H.le_obj _) (.ptr (by simp [Con.withObj])) (H.new _ _ (fun w' hw' => ?_))
  have hcc := hc Γ
  have hl : zv.cells.size = 2 := by simpa using hcc.len
  have h0 : RV Γ (.v (.pointer none)) (zv.cells[0]'(by omega)) := by
    have := hcc.at_ 0 (by simp) (by simp; omega)
    simpa using this
  have h1 : RV Γ (.list 1 [] .full) (zv.cells[1]'(by omega)) := by
    have := hcc.at_ 1 (by simp) (by simp; omega)
    simpa using this
  obtain ⟨base, hbase⟩ : ∃ base, zv.cells[1]'(by omega) = .slice base 0 0 := by
    rcases h1.inv_list with ⟨base, hb', _, _⟩ | ⟨b, o', c, us, hb', hc', _, _, _, _, hto⟩
    · exact ⟨base, hb'⟩
    · have hto' : (0 : Nat) = c := hto
      subst hto'
      exact ⟨_, hb'⟩
  have harr : zv.cells = #[.pointer none, .slice base 0 0] := by
    apply Array.ext
    · simpa using hl
    · intro k hk hk'
      have hk2 : k < 2 := by omega
      rcases (show k = 0 ∨ k = 1 by omega) with rfl | rfl
      · simpa using h0.inv_v
      · simpa using hbase
  rw [harr] at hw'
  exact ⟨_, _, _, hw', by simp [free], by simp [free], .inl rfl, .inl ⟨rfl, rfl, rfl, base, rfl⟩⟩
theorem snd_bin {o : Oper} {op : BinOp} {t u : TypeId} {X Y : Operand} (hop : o.op = .binOp op t X Y u) {k : EqK} (hk : eqOf P t X Y = some k) {x y : Opd} (hx : RV Γ (e x) (a.eval X)) (hy : RV Γ (e y) (a.eval Y)) (H : WR w0 Γ h w) {v : AV} {h' : AH}
    (hs : istep (.bin op k x y) e h = some (v, h')) : Res P w0 Γ ((execOp a.eval o).run P w) v h' := by
  simp only [istep, Option.map_eq_some_iff, Prod.mk.injEq] at hs
  obtain ⟨c, hc, rfl, rfl⟩ := hs
  obtain ⟨z, hz, hzv⟩ := run_abin (w := w) hk hx hy (fun v hv => by subst hv; rfl) hc
  exact Res.val (by unfold execOp; simp only [hop]) hz hzv H
theorem snd_un {o : Oper} {op : UnOp} {t : TypeId} {X : Operand} (hop : o.op = .unOp op t X) {x : Opd} (hx : RV Γ (e x) (a.eval X)) (H : WR w0 Γ h w) {v : AV} {h' : AH} (hs : istep (.un op x) e h = some (v, h')) : Res P w0 Γ ((execOp a.eval o).run P w) v h' := by
  simp only [istep, Option.map_eq_some_iff, Prod.mk.injEq] at hs
  obtain ⟨c, hc, rfl, rfl⟩ := hs
  obtain ⟨z, hz, hzv⟩ := run_aun (P := P) (w := w) hx hc
  exact Res.val (by unfold execOp; simp only [hop]) hz hzv H
theorem snd_convI {o : Oper} {s d : TypeId} {X : Operand} (hop : o.op = .convert s d X) {ks k : IntKind} (hss : P.underlying s = some (.int ks)) (hd : P.underlying d = some (.int k)) {x : Opd} (hx : RV Γ (e x) (a.eval X)) (H : WR w0 Γ h w) {v : AV} {h' : AH}
    (hs : istep (.convI k x) e h = some (v, h')) : Res P w0 Γ ((execOp a.eval o).run P w) v h' := by
  simp only [istep] at hs
  split at hs
  · rename_i n hk
    rw [hk] at hx
    simp only [Option.some.injEq, Prod.mk.injEq] at hs
    obtain ⟨rfl, rfl⟩ := hs
    refine Res.val (s := convert s d (a.eval X)) (by unfold execOp; simp only [hop]) ?_ (.v _) H
    rw [hx.inv_v]
    simp [convert, run_underlying hss, run_underlying hd, Conv.intToInt]
  · cases hs
theorem snd_convS {o : Oper} {s d : TypeId} {X : Operand} (hop : o.op = .convert s d X) (hss : P.underlying s = some .string) (hd : P.underlying d = some .string) {x : Opd} (hx : RV Γ (e x) (a.eval X)) (H : WR w0 Γ h w) {v : AV} {h' : AH}
    (hs : istep (.convS x) e h = some (v, h')) : Res P w0 Γ ((execOp a.eval o).run P w) v h' := by
  simp only [istep] at hs
  split at hs
  · rename_i n hk
    rw [hk] at hx
    simp only [Option.some.injEq, Prod.mk.injEq] at hs
    obtain ⟨rfl, rfl⟩ := hs
    refine Res.val (s := convert s d (a.eval X)) (by unfold execOp; simp only [hop]) ?_ (.v _) H
    rw [hx.inv_v]
    simp [convert, run_underlying hss, run_underlying hd]
  · cases hs
theorem snd_s2b {o : Oper} {s d el : TypeId} {X : Operand} (hop : o.op = .convert s d X) (hss : P.underlying s = some .string) (hd : P.underlying d = some (.slice el)) (hel : isU8 P el = true) {x : Opd} (hx : RV Γ (e x) (a.eval X)) (H : WR w0 Γ h w) {row : Bool} {v : AV} {h' : AH}
    (hs : istep (.s2b row x) e h = some (v, h')) : Res P w0 Γ ((execOp a.eval o).run P w) v h' := by
  have hu : P.underlying el = some (.int .u8) := by
    unfold isU8 at hel
    split at hel
    · assumption
    · cases hel
  simp only [istep] at hs
  split at hs
  · rename_i n hk
    rw [hk] at hx
    obtain ⟨z, w', hrun, ⟨Γ1, hl1, hv1, HW1⟩, Γ2, hl2, hv2, HW2⟩ := run_s2b (P := P) hss hd hu H n
    have hr : (execOp a.eval o).run P w = (do pure (Next.value (← convert s d (.string n))) : Sem Next).run P w := by
      unfold execOp; simp only [hop, hx.inv_v]
    cases row
    · simp only [Bool.false_eq_true, if_false, Option.some.injEq, Prod.mk.injEq] at hs
      obtain ⟨rfl, rfl⟩ := hs
      exact Res.valw hr hrun hl2 hv2 HW2
    · simp only [if_true, Option.some.injEq, Prod.mk.injEq] at hs
      obtain ⟨rfl, rfl⟩ := hs
      exact Res.valw hr hrun hl1 hv1 HW1
  · cases hs
theorem srcRows_slice {sz : Nat} {A : AV} {rows : List (List AV)} (hr : srcRows sz h A = some rows) {x : Value} (hx : RV Γ A x) (hn : ∀ s, x ≠ .string s) : ∃ b n c, x = .slice b n c := by
  unfold srcRows at hr
  split at hr
  · rcases hx.inv_list with ⟨base, rfl, _⟩ | ⟨b, o, c, us, rfl, _⟩
    · exact ⟨_, _, _, rfl⟩
    · exact ⟨_, _, _, rfl⟩
  · exact absurd hx.inv_v (hn _)
  · obtain ⟨b, c, _, rfl, _⟩ := hx.inv_row
    exact ⟨_, _, _, rfl⟩
  · cases hr
theorem snd_b2s {o : Oper} {s d el : TypeId} {X : Operand} (hop : o.op = .convert s d X) (hss : P.underlying s = some (.slice el)) (hd : P.underlying d = some .string) (hel : isU8 P el = true) {x : Opd} (hx : RV Γ (e x) (a.eval X)) (H : WR w0 Γ h w) {v : AV} {h' : AH}
    (hs : istep (.b2s x) e h = some (v, h')) : Res P w0 Γ ((execOp a.eval o).run P w) v h' := by
  have hu : P.underlying el = some (.int .u8) := by
    unfold isU8 at hel
    split at hel
    · assumption
    · cases hel
  have hr : (execOp a.eval o).run P w = (do pure (Next.value (← convert s d (a.eval X))) : Sem Next).run P w := by unfold execOp; simp only [hop]
  simp only [istep] at hs
  split at hs
  · rename_i rows hrows
    split at hs
    · rename_i l hl
      simp only [Option.some.injEq, Prod.mk.injEq] at hs
      obtain ⟨rfl, rfl⟩ := hs
      by_cases hstr : ∃ q, a.eval X = .string q
      · -- a string's bytes, told as bytes: no such conversion is compiled, but it is the same string
        obtain ⟨q, hq⟩ := hstr
        rw [hq] at hx
        have hAv : ∃ y, e x = .v y := by
          unfold srcRows at hrows
          split at hrows
          · rename_i hk; rw [hk] at hx; rcases hx.inv_list with ⟨_, hh, _⟩ | ⟨_, _, _, _, hh, _⟩ <;> cases hh
          · exact ⟨_, by assumption⟩
          · rename_i hk; rw [hk] at hx; obtain ⟨_, _, _, hh, _⟩ := hx.inv_row; cases hh
          · cases hrows
        obtain ⟨y, hy⟩ := hAv
        rw [hy] at hx hrows
        have hyq := hx.inv_v
        subst hyq
        simp only [srcRows] at hrows
        simp only [if_true, Option.some.injEq] at hrows
        subst hrows
        refine Res.val (s := convert s d (a.eval X)) hr (x := .string q) ?_ ?_ H
        · rw [hq]; simp [convert, run_underlying hss, run_underlying hd]
        · rw [byteRows_flat] at hl
          have : ∀ (l : List UInt8), bytesOfCells (l.map fun b => .v (.int .u8 b.toNat)) = some l := by
            intro l
            induction l with
            | nil => rfl
            | cons b l ih => simp [bytesOfCells, ih]
          rw [this] at hl
          injection hl with hl
          subst hl
          have e2 : (⟨q.data.toList.toArray⟩ : ByteArray) = q := by apply ByteArray.ext; simp
          rw [e2]; exact .v _
      · exact Res.val hr (run_b2s (P := P) hss hu hd H hx hrows (srcRows_slice hrows hx (fun s hs => hstr ⟨s, hs⟩)) hl) (.v _) H
    · cases hs
  · cases hs
theorem snd_mki {o : Oper} {t : TypeId} {X : Operand} (hop : o.op = .makeInterface t X) {d : TypeDesc} (ht : P.underlying t = some d) (hd : ∀ ms, d ≠ .interface ms) {x : Opd} (hx : RV Γ (e x) (a.eval X)) (H : WR w0 Γ h w) {v : AV} {h' : AH} (hs : istep (.mki t x) e h = some (v, h')) :
    Res P w0 Γ ((execOp a.eval o).run P w) v h' := by
  simp only [istep] at hs
  split at hs
  · simp only [Option.some.injEq, Prod.mk.injEq] at hs
    obtain ⟨rfl, rfl⟩ := hs
    refine Res.val (s := Instr.makeInterface t (a.eval X)) (x := .iface t (a.eval X)) (by unfold execOp; simp only [hop]) ?_ (.iface hx) H
    unfold Instr.makeInterface
    rw [Sem.run_bind, run_underlying ht]
    cases d <;> first | rfl | exact absurd rfl (hd _)
  · cases hs
end
end Go.Abs
/- A program logic over abstract states, 13: more operations. -/
namespace Go.Abs
open Go Go.RowKit
set_option linter.unusedVariables false
set_option linter.unusedSimpArgs false

section
variable {P : Program} {w0 : World} {Γ : Con} {h : AH} {w : World} {fr : List AV} {a : Act} {e : Opd → AV}

theorem agg_of_cells {cs : List AV} {vs : Array Value} (hc : Cells Γ cs vs.toList) : RV Γ (.agg cs) (.agg vs) := by
  have hl := hc.len
  refine .agg (by simpa using hl) (fun j hj => hc.one _ (by simp)) (fun j hj hj' => ?_)
  have := hc.at_ j hj (by simpa using hj')
  rwa [Array.getElem_toList] at this
theorem snd_buildS {o : Oper} {t : TypeId} {ps : Array (Nat × Operand)} (hop : o.op = .build t ps) {fs : Array Field} (ht : P.underlying t = some (.struct fs)) {z : List AV} (hz : zeroOf P t = some z) (hall : fs.toList.all (fun f => (P.info? f.type).isSome) = true) {qs : List (Nat × Nat × Opd)}
    (hq : cpartsS P fs ps.toList = some qs) (hf : FR Γ fr a) (H : WR w0 Γ h w) {v : AV} {h' : AH} (hs : istep (.build z qs) (ev fr) h = some (v, h')) : Res P w0 Γ ((execOp a.eval o).run P w) v h' := by
  obtain ⟨i, zv, hi, hzv, _, _, hc⟩ := zeroOf_inv hz
  simp only [istep] at hs
  split at hs
  · rename_i cs hfa
    simp only [Option.some.injEq, Prod.mk.injEq] at hs
    obtain ⟨rfl, rfl⟩ := hs
    have hpl : ∃ places, fs.toList.mapM (fun f => (P.info? f.type).map fun i => (f.offset, i.size)) = some places := by
      revert hall
      induction fs.toList with
      | nil => intro _; exact ⟨[], rfl⟩
      | cons f l ih =>
        intro hall
        simp only [List.all_cons, Bool.and_eq_true] at hall
        obtain ⟨inf, hinf⟩ := Option.isSome_iff_exists.1 hall.1
        obtain ⟨pl, hpl⟩ := ih hall.2
        exact ⟨(f.offset, inf.size) :: pl, by simp [List.mapM_cons, hinf, hpl]⟩
    obtain ⟨places, hpl⟩ := hpl
    obtain ⟨cc, hfill, hcc⟩ := fill_sound (cpartsS_inv hpl hf hq) hfa (hc Γ)
    refine Res.val (s := Instr.build t (ps.map fun (i, x) => (i, a.eval x))) (by unfold execOp; simp only [hop]) (run_build w t _ cc ?_) (agg_of_cells hcc) H
    unfold Program.built
    simp only [hi, ht, hzv, hpl, Array.toList_map]
    exact hfill
  · cases hs
theorem snd_buildA {o : Oper} {t : TypeId} {ps : Array (Nat × Operand)} (hop : o.op = .build t ps) {n el : Nat} (ht : P.underlying t = some (.array n el)) {z : List AV} (hz : zeroOf P t = some z) {inf : TypeInfo} (hin : P.info? el = some inf) {qs : List (Nat × Nat × Opd)}
    (hq : cpartsA P el inf.size ps.toList = some qs) (hf : FR Γ fr a) (H : WR w0 Γ h w) {v : AV} {h' : AH} (hs : istep (.build z qs) (ev fr) h = some (v, h')) : Res P w0 Γ ((execOp a.eval o).run P w) v h' := by
  obtain ⟨i, zv, hi, hzv, _, _, hc⟩ := zeroOf_inv hz
  simp only [istep] at hs
  split at hs
  · rename_i cs hfa
    simp only [Option.some.injEq, Prod.mk.injEq] at hs
    obtain ⟨rfl, rfl⟩ := hs
    obtain ⟨cc, hfill, hcc⟩ := fill_sound (cpartsA_inv hf hq) hfa (hc Γ)
    refine Res.val (s := Instr.build t (ps.map fun (i, x) => (i, a.eval x))) (by unfold execOp; simp only [hop]) (run_build w t _ cc ?_) (agg_of_cells hcc) H
    unfold Program.built
    simp only [hi, ht, hzv, hin, Array.toList_map]
    exact hfill
  · cases hs
theorem run_lit {t el : TypeId} {n : Nat} {vs : Array (Nat × Value)} (ht : P.underlying t = some (.slice el)) {inf : TypeInfo} (hin : P.info? el = some inf) {zv : Value} (hzv : inf.zero = some zv) (hzs : zv.cells.size = inf.size) (h24 : n * inf.size ≤ 2 ^ 24) {cc : Array Value}
    (hfill : Instr.fill (fun i => some (i * inf.size, inf.size)) ((Array.range (n * zv.cells.size)).map (zv.cells[· % zv.cells.size]!)) vs.toList = some cc) :
    (Instr.buildSlice t n vs).run P w = .ok (.slice (some ⟨w.heap.size, 0, none⟩) n n) (w.alloc (.cells cc el)) := by
  have h24' : ¬ (16777216 < n * inf.size) := by omega
  by_cases h0 : n * inf.size = 0
  · have hfill0 : Instr.fill (fun i => some (i * inf.size, inf.size)) #[] vs.toList = some cc := by
      rw [hzs, h0] at hfill
      simpa [Array.range_zero'] using hfill
    simp [Instr.buildSlice, run_underlying ht, run_sizeOf' hin, h0, Array.range_zero', hfill0, newRow]
  · have e0 : (Array.range (n * inf.size)).map (zv.cells[· % zv.cells.size]!) = (Array.range (n * zv.cells.size)).map (zv.cells[· % zv.cells.size]!) := by rw [hzs]
    rw [← e0] at hfill
    simp only [Instr.buildSlice, Sem.run_bind, run_underlying ht, Result.andThen_ok, run_sizeOf' hin, gt_iff_lt, Nat.reducePow, h24', if_false, h0, zeroValue, typeInfo, run_program, hin, hzv, Sem.run_pure, hfill]
    simp [newRow]
theorem snd_lit {o : Oper} {t el : TypeId} {n : Nat} {ps : Array (Nat × Operand)} (hop : o.op = .buildSlice t n ps) (ht : P.underlying t = some (.slice el)) {inf : TypeInfo} (hin : P.info? el = some inf) {z : List AV} (hz : zeroOf P el = some z) {qs : List (Nat × Opd)} (hq : cpartsL P el ps.toList = some qs)
    (hzl : z.length = inf.size) (h24 : n * inf.size ≤ 2 ^ 24) (hf : FR Γ fr a) (H : WR w0 Γ h w) (row : Bool) {v : AV} {h' : AH} (hs : istep (if row then .litRow inf.size n z qs else .lit inf.size n z qs) (ev fr) h = some (v, h')) : Res P w0 Γ ((execOp a.eval o).run P w) v h' := by
  obtain ⟨i, zv, hi, hzv, _, _, hc⟩ := zeroOf_inv hz
  rw [hin] at hi
  injection hi with hi
  subst hi
  have hzs : zv.cells.size = inf.size := by have := (hc Γ).len; rw [Array.length_toList] at this; omega
  have hr : (execOp a.eval o).run P w = (do pure (Next.value (← Instr.buildSlice t n (ps.map fun (i, x) => (i, a.eval x)))) : Sem Next).run P w := by unfold execOp; simp only [hop]
  have key : ∀ cs, fillA ((List.replicate n z).flatten) (qs.map fun p => (p.1 * inf.size, inf.size, ev fr p.2)) = some cs → ∃ cc, (Instr.buildSlice t n (ps.map fun (i, x) => (i, a.eval x))).run P w = .ok (.slice (some ⟨w.heap.size, 0, none⟩) n n) (w.alloc (.cells cc el)) ∧ Cells Γ cs cc.toList := by
    intro cs hfa
    obtain ⟨cc, hfill, hcc⟩ := fill_sound (cpartsL_inv (sz := inf.size) hf hq) hfa (litCells (hc Γ) n)
    exact ⟨cc, run_lit ht hin hzv hzs h24 (by rw [Array.toList_map]; exact hfill), hcc⟩
  have hlen : ∀ cs, fillA ((List.replicate n z).flatten) (qs.map fun p => (p.1 * inf.size, inf.size, ev fr p.2)) = some cs → cs.length = n * inf.size := by
    have gen : ∀ (ps : List (Nat × Nat × AV)) (z cs : List AV), fillA z ps = some cs → cs.length = z.length := by
      intro ps
      induction ps with
      | nil => intro z cs hh; simp only [fillA, Option.some.injEq] at hh; rw [hh]
      | cons p ps ih =>
        intro z cs hh
        obtain ⟨p1, p2, p3⟩ := p
        simp only [fillA] at hh
        split at hh
        · split at hh
          · rw [ih _ _ hh, wrL_length]
          · cases hh
        · cases hh
    intro cs hfa
    rw [gen _ _ _ hfa, flat_len (sz := z.length) (fun r hr => by rw [List.eq_of_mem_replicate hr]), List.length_replicate, hzl]
  cases row
  · simp only [Bool.false_eq_true, if_false, istep] at hs
    split at hs
    · rename_i cs hfa
      simp only [Option.some.injEq, Prod.mk.injEq] at hs
      obtain ⟨rfl, rfl⟩ := hs
      obtain ⟨cc, hrun, hcc⟩ := key cs hfa
      have hcl := hlen cs hfa
      obtain ⟨HW, hle⟩ := H.row cc el (0, 0) (n * inf.size)
      refine Res.valw hr hrun hle ?_ HW
      have hcs : cc.size = n * inf.size := by have := hcc.len; rw [Array.length_toList] at this; omega
      have := RV.mk_list (Γ := Γ.withRow w.heap.size fun o => if o < n * inf.size then cc[o]? else none) (sz := inf.size) (rows := chunk inf.size n cs) (tok := .full) (b := w.heap.size) (o := 0) (c := n) (us := cc.toList)
        (by rw [chunk_len]; exact Nat.le_refl _) (chunk_row n cs (by omega)) (by rw [chunk_flat n cs (by omega), List.take_of_length_le (by omega)]; exact hcc.mono hle) (fun k hk => by
          have hk2 : k < cc.size := by simpa using hk
          simp only [Con.withRow, if_true, Nat.zero_add]
          rw [if_pos (by omega), Array.getElem?_eq_getElem hk2, Array.getElem_toList]) (by rw [chunk_len]; rfl)
      rwa [chunk_len] at this
    · cases hs
  · simp only [if_true, istep] at hs
    split at hs
    · rename_i cs hfa
      simp only [Option.some.injEq, Prod.mk.injEq] at hs
      obtain ⟨rfl, rfl⟩ := hs
      obtain ⟨cc, hrun, hcc⟩ := key cs hfa
      exact Res.valw hr hrun (H.le_obj _) (.row (by simp [Con.withObj]) (Nat.le_refl _) (fun k hk => by injection hk with hk; exact hk.symm)) (H.new _ _ (fun w' hw' => objAt_cells hw' (hcc.mono (H.le_obj _))))
    · cases hs
theorem snd_mkf {o : Oper} {fn : Fn} {fs cs : Array Operand} (hop : o.op = .makeFunc fn fs cs) {xs ys : List Opd} (hx : clist P fs.toList = some xs) (hy : clist P cs.toList = some ys) (hf : FR Γ fr a) (H : WR w0 Γ h w) {v : AV} {h' : AH} (hs : istep (.mkf fn xs ys) (ev fr) h = some (v, h')) :
    Res P w0 Γ ((execOp a.eval o).run P w) v h' := by
  simp only [istep, Option.some.injEq, Prod.mk.injEq] at hs
  obtain ⟨rfl, rfl⟩ := hs
  have h1 := clist_inv hf hx
  have h2 := clist_inv hf hy
  refine Res.val (s := Instr.makeFunc fn (fs.map a.eval) (cs.map a.eval)) (x := .func fn (fs.map a.eval) (cs.map a.eval)) (by unfold execOp; simp only [hop]) rfl (.func ?_ ?_ (fun i hi hi' => ?_) (fun i hi hi' => ?_)) H
  · have := h1.len; simpa using this
  · have := h2.len; simpa using this
  · have := h1.at_ i hi (by simpa using hi')
    simpa using this
  · have := h2.at_ i hi (by simpa using hi')
    simpa using this
theorem snd_mkm {o : Oper} {t : TypeId} (hop : o.op = .makeMap t none) (H : WR w0 Γ h w) {v : AV} {h' : AH} (hs : istep .mkm e h = some (v, h')) : Res P w0 Γ ((execOp a.eval o).run P w) v h' := by
  simp only [istep, Option.some.injEq, Prod.mk.injEq] at hs
  obtain ⟨rfl, rfl⟩ := hs
  refine Res.valw (s := Instr.makeMap t none) (x := .map (some w.heap.size)) (w' := w.alloc (.map #[] 0)) (by unfold execOp; simp only [hop]; rfl) (by simp [Instr.makeMap]) (H.le_obj _) (.mapr (by simp [Con.withObj])) (H.new _ _ (fun w' hw' => ⟨#[], 0, hw', rfl, fun i hi => by simp at hi⟩))
theorem snd_mks {o : Oper} {t el : TypeId} {L C : Operand} (hop : o.op = .makeSlice t L C) (ht : P.underlying t = some (.slice el)) {inf : TypeInfo} (hin : P.info? el = some inf) {z : List AV} (hz : zeroOf P el = some z) (hzl : z.length = inf.size) {l c : Opd} (hl : RV Γ (e l) (a.eval L)) (hc : RV Γ (e c) (a.eval C))
    (H : WR w0 Γ h w) {v : AV} {h' : AH} (hs : istep (.mks inf.size inf.bytes z l c) e h = some (v, h')) : Res P w0 Γ ((execOp a.eval o).run P w) v h' := by
  obtain ⟨i, zv, hi, hzv, hall, hze, hcz⟩ := zeroOf_inv hz
  rw [hin] at hi
  injection hi with hi
  subst hi
  have hzs : zv.cells.size = inf.size := by have := (hcz Γ).len; rw [Array.length_toList] at this; omega
  simp only [istep] at hs
  split at hs
  · rename_i lv cv hlk hck
    rw [hlk] at hl
    rw [hck] at hc
    split at hs
    · rename_i hb
      simp only [Option.some.injEq, Prod.mk.injEq] at hs
      obtain ⟨rfl, rfl⟩ := hs
      obtain ⟨v, w', Γ', hrun, hle, hv, HW⟩ := run_mks (P := P) ht hin hzv hzs hall (szsOf P 20 el) H hb.1 hb.2.1 hb.2.2.1 hb.2.2.2
      rw [← hze] at HW
      exact Res.valw (by unfold execOp; simp only [hop, hl.inv_v, hc.inv_v]) hrun hle hv HW
    · cases hs
  · cases hs
theorem snd_slS {o : Oper} {t : TypeId} {X : Operand} {LO HI : Option Operand} (hop : o.op = .slice t X LO HI none) (ht : P.underlying t = some .string) {x : Opd} (hx : RV Γ (e x) (a.eval X)) {lo hi : Option Opd} (hl : BndOk Γ e lo (LO.map a.eval)) (hh : BndOk Γ e hi (HI.map a.eval)) (H : WR w0 Γ h w) {v : AV} {h' : AH}
    (hs : istep (.slS x lo hi) e h = some (v, h')) : Res P w0 Γ ((execOp a.eval o).run P w) v h' := by
  simp only [istep] at hs
  split at hs
  · rename_i s hk
    rw [hk] at hx
    split at hs
    · rename_i b hb
      split at hs
      · rename_i a' ha
        simp only [Option.some.injEq, Prod.mk.injEq] at hs
        obtain ⟨rfl, rfl⟩ := hs
        exact Res.val (by unfold execOp; simp only [hop, Option.map_none, hx.inv_v]) (run_cutS (P := P) ht hl hh hb ha) (.v _) H
      · cases hs
    · cases hs
  · cases hs
theorem snd_slA {o : Oper} {t el : TypeId} {n : Nat} {X : Operand} {LO HI : Option Operand} (hop : o.op = .slice t X LO HI none) (ht : P.underlying t = some (.array n el)) {inf : TypeInfo} (hin : P.info? el = some inf) {x : Opd} (hx : RV Γ (e x) (a.eval X)) {lo hi : Option Opd} (hl : BndOk Γ e lo (LO.map a.eval)) (hh : BndOk Γ e hi (HI.map a.eval))
    (H : WR w0 Γ h w) {v : AV} {h' : AH} (hs : istep (.slA n inf.size x lo hi) e h = some (v, h')) : Res P w0 Γ ((execOp a.eval o).run P w) v h' := by
  simp only [istep] at hs
  split at hs
  · rename_i id off hk
    rw [hk] at hx
    split at hs
    · rename_i b hb
      split at hs
      · rename_i a' ha
        simp only [Option.some.injEq, Prod.mk.injEq] at hs
        obtain ⟨rfl, rfl⟩ := hs
        obtain ⟨v, hrun, hv⟩ := run_cutA (P := P) (w := w) ht hin rfl hx hl hh hb ha
        exact Res.val (by unfold execOp; simp only [hop, Option.map_none]) hrun hv H
      · cases hs
    · cases hs
  · cases hs
theorem snd_fad {o : Oper} {s : TypeId} {X : Operand} {f : Nat} (hop : o.op = .fieldAddr s X f) {fs : Array Field} (ht : P.underlying s = some (.struct fs)) {fd : Field} (hfd : fs[f]? = some fd) {inf : TypeInfo} (hin : P.info? fd.type = some inf) (h0 : inf.size ≠ 0) {x : Opd} (hx : RV Γ (e x) (a.eval X)) (H : WR w0 Γ h w) {v : AV} {h' : AH}
    (hs : istep (.fad x fd.offset) e h = some (v, h')) : Res P w0 Γ ((execOp a.eval o).run P w) v h' := by
  have hr : (execOp a.eval o).run P w = (do pure (Next.value (← Instr.fieldAt s (a.eval X) f)) : Sem Next).run P w := by unfold execOp; simp only [hop]
  have hrun : ∀ b off, a.eval X = .pointer (some ⟨b, off, none⟩) → (Instr.fieldAt s (a.eval X) f).run P w = .ok (.pointer (some ⟨b, off + fd.offset, none⟩)) w := by
    intro b off hX
    rw [hX]
    simp only [Instr.fieldAt, Sem.run_bind, run_underlying ht, Result.andThen_ok, hfd, Instr.sureAddr, Sem.run_pure, fieldPlace, run_sizeOf' hin, h0, if_false, addr_add]
  simp only [istep] at hs
  split at hs
  · rename_i id off hk
    rw [hk] at hx
    simp only [Option.some.injEq, Prod.mk.injEq] at hs
    obtain ⟨rfl, rfl⟩ := hs
    obtain ⟨b, hb, hxv⟩ := hx.inv_ptr
    exact Res.val hr (hrun b off hxv) (.ptr hb) H
  · rename_i cs off hk
    rw [hk] at hx
    simp only [Option.some.injEq, Prod.mk.injEq] at hs
    obtain ⟨rfl, rfl⟩ := hs
    obtain ⟨b, o', u, hxv, h1, h2, h3⟩ := hx.inv_lptr
    refine Res.val hr (hrun b (o' + off) hxv) ?_ H
    rw [Nat.add_assoc]
    exact .lptr h1 h2 h3
  · cases hs
theorem snd_fld {o : Oper} {s : TypeId} {X : Operand} {f : Nat} (hop : o.op = .field s X f) {fs : Array Field} (ht : P.underlying s = some (.struct fs)) {fd : Field} (hfd : fs[f]? = some fd) {sz : Option Nat} (hin : aggSz P fd.type = some sz) {x : Opd} (hx : RV Γ (e x) (a.eval X)) (H : WR w0 Γ h w) {v : AV} {h' : AH}
    (hs : istep (.fld x fd.offset sz) e h = some (v, h')) : Res P w0 Γ ((execOp a.eval o).run P w) v h' := by
  simp only [istep] at hs
  split at hs
  · rename_i cs hk
    rw [hk] at hx
    simp only [Option.map_eq_some_iff, Prod.mk.injEq] at hs
    obtain ⟨v', hv', rfl, rfl⟩ := hs
    obtain ⟨vs, hxv, hs1, h1, hr⟩ := hx.inv_agg
    obtain ⟨y, hy, hyv⟩ := run_part (P := P) (w := w) hin hs1 h1 hr hv'
    refine Res.val (s := Instr.field s (a.eval X) f) (by unfold execOp; simp only [hop]) ?_ hyv H
    rw [hxv]
    simp only [Instr.field, Sem.run_bind, run_underlying ht, Result.andThen_ok, hfd, asAgg, Sem.run_pure, hy]
  · cases hs
theorem snd_iaL {o : Oper} {t el : TypeId} {X I : Operand} (hop : o.op = .indexAddr t X I) (ht : P.underlying t = some (.slice el)) {inf : TypeInfo} (hin : P.info? el = some inf) {x i : Opd} (hx : RV Γ (e x) (a.eval X)) (hi : RV Γ (e i) (a.eval I)) (H : WR w0 Γ h w) {v : AV} {h' : AH}
    (hs : istep (.iaL inf.size x i) e h = some (v, h')) : Res P w0 Γ ((execOp a.eval o).run P w) v h' := by
  simp only [istep] at hs
  split at hs
  · rename_i sz' rows tok k j hk hik
    rw [hk] at hx
    rw [hik] at hi
    split at hs
    · rename_i hsz
      split at hs
      · rename_i h0
        split at hs
        · rename_i r hr
          simp only [Option.some.injEq, Prod.mk.injEq] at hs
          obtain ⟨rfl, rfl⟩ := hs
          obtain ⟨v, hrun, hv⟩ := run_iaL (P := P) (w := w) ⟨_, _, ht, hin, rfl⟩ hsz hx h0 hr (k := k)
          exact Res.val (by unfold execOp; simp only [hop, hi.inv_v]) hrun hv H
        · cases hs
      · cases hs
    · cases hs
  · rename_i id off len cap k j hk hik
    rw [hk] at hx
    rw [hik] at hi
    split at hs
    · rename_i hj
      simp only [Option.some.injEq, Prod.mk.injEq] at hs
      obtain ⟨rfl, rfl⟩ := hs
      obtain ⟨v, hrun, hv⟩ := run_iaR (P := P) (w := w) ⟨_, _, ht, hin, rfl⟩ hx hj.1 hj.2 (k := k)
      exact Res.val (by unfold execOp; simp only [hop, hi.inv_v]) hrun hv H
    · cases hs
  · cases hs
theorem snd_iaA {o : Oper} {t el : TypeId} {n : Nat} {X I : Operand} (hop : o.op = .indexAddr t X I) (ht : P.underlying t = some (.array n el)) {inf : TypeInfo} (hin : P.info? el = some inf) {x i : Opd} (hx : RV Γ (e x) (a.eval X)) (hi : RV Γ (e i) (a.eval I)) (H : WR w0 Γ h w) {v : AV} {h' : AH}
    (hs : istep (.iaA n inf.size x i) e h = some (v, h')) : Res P w0 Γ ((execOp a.eval o).run P w) v h' := by
  simp only [istep] at hs
  split at hs
  · rename_i id off k j hk hik
    rw [hk] at hx
    rw [hik] at hi
    split at hs
    · rename_i hj
      simp only [Option.some.injEq, Prod.mk.injEq] at hs
      obtain ⟨rfl, rfl⟩ := hs
      obtain ⟨b, hb, hxv⟩ := hx.inv_ptr
      have hrun := run_iaA (P := P) (w := w) ht hin rfl hxv hj.1 hj.2 (k := k)
      rw [addr_add] at hrun
      exact Res.val (by unfold execOp; simp only [hop, hi.inv_v]) hrun (.ptr hb) H
    · cases hs
  · rename_i cs off k j hk hik
    rw [hk] at hx
    rw [hik] at hi
    split at hs
    · rename_i hj
      simp only [Option.some.injEq, Prod.mk.injEq] at hs
      obtain ⟨rfl, rfl⟩ := hs
      obtain ⟨b, o', u, hxv, h1, h2, h3⟩ := hx.inv_lptr
      have hrun := run_iaA (P := P) (w := w) ht hin rfl hxv hj.1 hj.2 (k := k)
      rw [addr_add, Nat.add_assoc] at hrun
      exact Res.val (by unfold execOp; simp only [hop, hi.inv_v]) hrun (.lptr h1 h2 h3) H
    · cases hs
  · cases hs
theorem snd_ixS {o : Oper} {t : TypeId} {X I : Operand} (hop : o.op = .index t X I) (ht : P.underlying t = some .string) {x i : Opd} (hx : RV Γ (e x) (a.eval X)) (hi : RV Γ (e i) (a.eval I)) (H : WR w0 Γ h w) {v : AV} {h' : AH} (hs : istep (.ixS x i) e h = some (v, h')) : Res P w0 Γ ((execOp a.eval o).run P w) v h' := by
  simp only [istep] at hs
  split at hs
  · rename_i s k j hk hik
    rw [hk] at hx
    rw [hik] at hi
    split at hs
    · rename_i h0
      split at hs
      · rename_i b hb
        simp only [Option.some.injEq, Prod.mk.injEq] at hs
        obtain ⟨rfl, rfl⟩ := hs
        exact Res.val (by unfold execOp; simp only [hop, hi.inv_v, hx.inv_v]) (run_ixS (P := P) ht h0 hb (k := k)) (.v _) H
      · cases hs
    · cases hs
  · cases hs
theorem snd_ixA {o : Oper} {t el : TypeId} {n : Nat} {X I : Operand} (hop : o.op = .index t X I) (ht : P.underlying t = some (.array n el)) {inf : TypeInfo} (hin : P.info? el = some inf) {sz : Option Nat} (hag : aggSz P el = some sz) {x i : Opd} (hx : RV Γ (e x) (a.eval X)) (hi : RV Γ (e i) (a.eval I)) (H : WR w0 Γ h w) {v : AV} {h' : AH}
    (hs : istep (.ixA n inf.size sz.isSome x i) e h = some (v, h')) : Res P w0 Γ ((execOp a.eval o).run P w) v h' := by
  have hsz : (if sz.isSome then some inf.size else none) = sz := by
    obtain ⟨i2, hi2, hh⟩ := aggSz_info hag
    rw [hin] at hi2
    injection hi2 with hi2
    subst hi2
    cases sz with
    | none => rfl
    | some m => simp [hh m rfl]
  simp only [istep] at hs
  split at hs
  · rename_i cs k j hk hik
    rw [hk] at hx
    rw [hik] at hi
    split at hs
    · rename_i hj
      rw [hsz] at hs
      simp only [Option.map_eq_some_iff, Prod.mk.injEq] at hs
      obtain ⟨v', hv', rfl, rfl⟩ := hs
      obtain ⟨vs, hxv, hs1, h1, hr⟩ := hx.inv_agg
      obtain ⟨y, hy, hyv⟩ := run_ixA (P := P) (w := w) ht hin hag hs1 h1 hr hj.1 hj.2 hv' (k := k)
      exact Res.val (by unfold execOp; simp only [hop, hi.inv_v, hxv]) hy hyv H
    · cases hs
  · cases hs
theorem snd_ext {o : Oper} {X : Operand} {i : Nat} (hop : o.op = .extract X i) {x : Opd} (hx : RV Γ (e x) (a.eval X)) (H : WR w0 Γ h w) {v : AV} {h' : AH} (hs : istep (.ext x i) e h = some (v, h')) : Res P w0 Γ ((execOp a.eval o).run P w) v h' := by
  simp only [istep] at hs
  split at hs
  · rename_i vs hk
    rw [hk] at hx
    simp only [Option.map_eq_some_iff, Prod.mk.injEq] at hs
    obtain ⟨v', hv', rfl, rfl⟩ := hs
    obtain ⟨us, hxv, hs1, hr⟩ := hx.inv_tup
    obtain ⟨hlt, rfl⟩ := List.getElem?_eq_some_iff.1 hv'
    have hlt2 : i < us.size := by omega
    refine Res.val (s := Instr.extract (a.eval X) i) (x := us[i]) (by unfold execOp; simp only [hop]) ?_ (hr i hlt hlt2) H
    rw [hxv]
    simp [Instr.extract, hlt2]
  · cases hs
theorem snd_rng {o : Oper} {t : TypeId} {X : Operand} (hop : o.op = .range t X) (ht : P.underlying t = some .string) {x : Opd} (hx : RV Γ (e x) (a.eval X)) (H : WR w0 Γ h w) {v : AV} {h' : AH} (hs : istep (.rng x) e h = some (v, h')) : Res P w0 Γ ((execOp a.eval o).run P w) v h' := by
  simp only [istep] at hs
  split at hs
  · rename_i s hk
    rw [hk] at hx
    simp only [Option.some.injEq, Prod.mk.injEq] at hs
    obtain ⟨rfl, rfl⟩ := hs
    exact Res.valw (w := w) (s := Instr.range t (a.eval X)) (x := .pointer (some ⟨w.heap.size, 0, none⟩)) (w' := w.alloc (.stringIter s 0)) (by unfold execOp; simp only [hop]) (by rw [hx.inv_v]; simp only [Instr.range, Sem.run_bind, run_underlying ht, Result.andThen_ok, Sem.run_pure, run_newObj]; rfl) (H.le_obj _) (.ptr (by simp [Con.withObj])) (H.new _ _ (fun w' hw' => hw'))
  · cases hs
theorem snd_nxt {o : Oper} {X : Operand} (hop : o.op = .next X true) {x : Opd} (hx : RV Γ (e x) (a.eval X)) (H : WR w0 Γ h w) {v : AV} {h' : AH} (hs : istep (.nxt x) e h = some (v, h')) : Res P w0 Γ ((execOp a.eval o).run P w) v h' := by
  simp only [istep] at hs
  split at hs
  · rename_i id hk
    rw [hk] at hx
    split at hs
    · rename_i s pos ho
      obtain ⟨w', hrun, HW⟩ := run_nxt (P := P) H hx ho o.type
      have hr : (execOp a.eval o).run P w = (do pure (Next.value (← Instr.next (a.eval X) true o.type)) : Sem Next).run P w := by unfold execOp; simp only [hop]
      split at hs
      · rename_i hp
        rw [if_pos hp] at hrun HW
        simp only [Option.some.injEq, Prod.mk.injEq] at hs
        obtain ⟨rfl, rfl⟩ := hs
        refine Res.valw hr hrun (.refl _) (.tup rfl (fun i hi hi' => ?_)) HW
        match i, hi with
        | 0, _ => exact .v _
        | 1, _ => exact .v _
        | 2, _ => exact .v _
      · rename_i hp
        rw [if_neg hp] at hrun HW
        simp only [Option.some.injEq, Prod.mk.injEq] at hs
        obtain ⟨rfl, rfl⟩ := hs
        refine Res.valw hr hrun (.refl _) (.tup rfl (fun i hi hi' => ?_)) HW
        match i, hi with
        | 0, _ => exact .v _
    · cases hs
  · cases hs
theorem snd_look {o : Oper} {mt kt et : TypeId} {X K : Operand} {ok : Bool} (hop : o.op = .lookup mt X K ok) (ht : P.underlying mt = some (.map kt et)) {ck : CK} (hk : ckOf P kt = some ck) {z : AV} (hz : zeroV P et = some z) {x k : Opd} (hx : RV Γ (e x) (a.eval X)) (hkk : RV Γ (e k) (a.eval K)) (H : WR w0 Γ h w) {v : AV} {h' : AH}
    (hs : istep (.look ck z ok x k) e h = some (v, h')) : Res P w0 Γ ((execOp a.eval o).run P w) v h' := by
  obtain ⟨i, zv, hi, hzv, hzr⟩ := zeroV_inv hz
  simp only [istep] at hs
  split at hs
  · rename_i kv hkv
    rw [hkv] at hkk
    simp only [Option.map_eq_some_iff, Prod.mk.injEq] at hs
    obtain ⟨v', hv', rfl, rfl⟩ := hs
    obtain ⟨y, hy, hyv⟩ := run_look (P := P) ht hk hi hzv hzr ok H hx hv'
    exact Res.val (by unfold execOp; simp only [hop, hkk.inv_v]) hy hyv H
  · cases hs
theorem snd_upd {o : Oper} {mt kt et : TypeId} {M K X : Operand} (hop : o.op = .mapUpdate mt M K X ∨ o.op = .insert mt M K X) (ht : P.underlying mt = some (.map kt et)) {ck : CK} (hk : ckOf P kt = some ck) {m k x : Opd} (hm : RV Γ (e m) (a.eval M)) (hkk : RV Γ (e k) (a.eval K)) (hx : RV Γ (e x) (a.eval X)) (H : WR w0 Γ h w) {v : AV} {h' : AH}
    (hs : istep (.upd ck m k x) e h = some (v, h')) : Res P w0 Γ ((execOp a.eval o).run P w) v h' := by
  simp only [istep] at hs
  split at hs
  · rename_i id kv hmv hkv
    rw [hkv] at hkk
    rw [hmv] at hm
    split at hs
    · rename_i es ho
      simp only [Option.map_eq_some_iff, Prod.mk.injEq] at hs
      obtain ⟨h1, hh1, rfl, rfl⟩ := hs
      obtain ⟨w', hrun, HW⟩ := run_upd (P := P) ht hk H hm hx ho hh1
      refine Res.unit (s := Instr.mapUpdate mt (a.eval M) kv (a.eval X)) ?_ hrun HW
      rcases hop with hop | hop <;> (unfold execOp; simp only [hop, hkk.inv_v])
    · cases hs
  · cases hs
end
end Go.Abs
/- A program logic over abstract states, 14: builtin calls; every operation. -/
namespace Go.Abs
open Go Go.RowKit
set_option linter.unusedVariables false
set_option linter.unusedSimpArgs false

section
variable {P : Program} {w0 : World} {Γ : Con} {h : AH} {w : World} {fr : List AV} {a : Act} {e : Opd → AV}

theorem snd_slL {o : Oper} {t el : TypeId} {X : Operand} {LO HI MX : Option Operand} (hop : o.op = .slice t X LO HI MX) (ht : P.underlying t = some (.slice el)) {inf : TypeInfo} (hin : P.info? el = some inf) {x : Opd} (hx : RV Γ (e x) (a.eval X)) {lo hi mx : Option Opd} (hl : BndOk Γ e lo (LO.map a.eval)) (hh : BndOk Γ e hi (HI.map a.eval))
    (hm : BndOk Γ e mx (MX.map a.eval)) (hmh : mx.isNone || hi.isSome) (H : WR w0 Γ h w) {v : AV} {h' : AH} (hs : istep (.slL inf.size x lo hi mx) e h = some (v, h')) : Res P w0 Γ ((execOp a.eval o).run P w) v h' := by
  have hr : (execOp a.eval o).run P w = (do pure (Next.value (← Instr.sliceAt t (a.eval X) (LO.map a.eval) (HI.map a.eval) (MX.map a.eval))) : Sem Next).run P w := by unfold execOp; simp only [hop]
  have hsl : SlAt P t inf.size := ⟨_, _, ht, hin, rfl⟩
  have mxn : mx = none → MX = none := by
    intro hmx
    subst hmx
    have := hm.out
    cases MX with
    | none => rfl
    | some M => exact this.elim
  simp only [istep] at hs
  split at hs
  · rename_i sz' rows tok hk
    rw [hk] at hx
    split at hs
    · rename_i hsz
      subst hsz
      split at hs
      · rename_i b hb
        split at hs
        · rename_i a' ha
          split at hs
          · simp only [Option.some.injEq, Prod.mk.injEq] at hs
            obtain ⟨rfl, rfl⟩ := hs
            obtain rfl := mxn rfl
            obtain ⟨v, hrun, hv⟩ := run_cutL (P := P) (w := w) hsl hx hl hh hb ha
            exact Res.val hr hrun hv H
          · rename_i mo
            split at hs
            · rename_i m hmv
              split at hs
              · rename_i hbm
                simp only [Option.some.injEq, Prod.mk.injEq] at hs
                obtain ⟨rfl, rfl⟩ := hs
                have h1 := hm.out
                cases MX with
                | none => exact h1.elim
                | some M =>
                  have h2 := hh.out
                  cases hi with
                  | none => simp at hmh
                  | some ho =>
                    cases HI with
                    | none => exact h2.elim
                    | some HV =>
                      obtain ⟨v, hrun, hv⟩ := run_cutL3 (P := P) (w := w) hsl hx hl hh hm hb ha hmv hbm
                      exact Res.val hr hrun hv H
              · cases hs
            · cases hs
        · cases hs
      · cases hs
    · cases hs
  · rename_i id off len cap hk
    rw [hk] at hx
    split at hs
    · obtain rfl := mxn rfl
      split at hs
      · rename_i b hb
        split at hs
        · rename_i a' ha
          obtain ⟨v, hrun, hv1, hv2⟩ := run_cutR (P := P) (w := w) hsl hx hl hh hb ha
          split at hs
          · rename_i c
            simp only [Option.some.injEq, Prod.mk.injEq] at hs
            obtain ⟨rfl, rfl⟩ := hs
            exact Res.val hr hrun (hv1 c rfl) H
          · split at hs
            · rename_i h0
              simp only [Option.some.injEq, Prod.mk.injEq] at hs
              obtain ⟨rfl, rfl⟩ := hs
              exact Res.val hr hrun (hv2 h0) H
            · cases hs
        · cases hs
      · cases hs
    · cases hs
  · cases hs

theorem exec_builtin {o : Oper} {b : Builtin} {args : Array Operand} {ts : Array TypeId} (hop : o.op = .call { callee := .builtin b, args := args, argTypes := ts }) :
    ∃ consts, execOp a.eval o = builtin b ts o.type consts (args.map a.eval) := by
  refine ⟨args.map fun | .const _ => true | _ => false, ?_⟩
  unfold execOp
  simp only [hop]
  rfl
def LenK.ok (P : Program) (t : TypeId) : LenK → Prop
  | .str => P.underlying t = some .string
  | .sl => ∃ el, P.underlying t = some (.slice el)
  | .map => ∃ k v, P.underlying t = some (.map k v)
theorem snd_len {o : Oper} {t : TypeId} {X : Operand} (hop : o.op = .call { callee := .builtin .len, args := #[X], argTypes := #[t] }) {k : LenK} (ht : k.ok P t) {x : Opd} (hx : RV Γ (e x) (a.eval X)) (H : WR w0 Γ h w) {v : AV} {h' : AH}
    (hs : istep (.len k x) e h = some (v, h')) : Res P w0 Γ ((execOp a.eval o).run P w) v h' := by
  obtain ⟨cn, hex⟩ := exec_builtin (a := a) hop
  have hr : (execOp a.eval o).run P w = (do pure (Next.value (← Builtin.len_ #[t] o.type #[a.eval X])) : Sem Next).run P w := by rw [hex]; simp only [builtin, List.map_toArray, List.map_cons, List.map_nil]
  generalize a.eval X = xv at hx hr
  have fin : ∀ n : Nat, (Builtin.len_ #[t] o.type #[xv]).run P w = .ok (.int .i64 n) w → Res P w0 Γ ((execOp a.eval o).run P w) (.v (.int .i64 n)) h := fun n hn => Res.val hr hn (.v _) H
  simp only [istep] at hs
  split at hs
  · rename_i s hk
    rw [hk] at hx
    simp only [Option.some.injEq, Prod.mk.injEq] at hs
    obtain ⟨rfl, rfl⟩ := hs
    have hu : P.underlying t = some .string := ht
    exact fin _ (by rw [hx.inv_v]; simp [Builtin.len_, run_underlying hu, goInt])
  · rename_i sz rows tok hk
    rw [hk] at hx
    simp only [Option.some.injEq, Prod.mk.injEq] at hs
    obtain ⟨rfl, rfl⟩ := hs
    obtain ⟨el, hu⟩ := ht
    refine fin _ ?_
    rcases hx.inv_list with ⟨base, rfl, rfl, _⟩ | ⟨b, o', c, us, rfl, _⟩ <;> simp [Builtin.len_, run_underlying hu, goInt]
  · rename_i id off n cap hk
    rw [hk] at hx
    simp only [Option.some.injEq, Prod.mk.injEq] at hs
    obtain ⟨rfl, rfl⟩ := hs
    obtain ⟨el, hu⟩ := ht
    obtain ⟨b, c, _, rfl, _⟩ := hx.inv_row
    exact fin _ (by simp [Builtin.len_, run_underlying hu, goInt])
  · rename_i id hk
    rw [hk] at hx
    obtain ⟨kt, vt, hu⟩ := ht
    obtain ⟨b, hb, rfl⟩ := hx.inv_mapr
    split at hs
    · rename_i es ho
      simp only [Option.some.injEq, Prod.mk.injEq] at hs
      obtain ⟨rfl, rfl⟩ := hs
      obtain ⟨ms, clock, hh, hm⟩ := H.mapAt ho hb
      have hml := hm.len
      rw [Array.length_toList] at hml
      refine fin _ ?_
      simp only [Builtin.len_, List.getElem?_toArray, List.getElem?_cons_zero, Sem.run_bind, run_underlying hu, Result.andThen_ok, run_getMap hh, Sem.run_pure, goInt, hml]
    · cases hs
  · rename_i hk
    rw [hk] at hx
    simp only [Option.some.injEq, Prod.mk.injEq] at hs
    obtain ⟨rfl, rfl⟩ := hs
    obtain ⟨kt, vt, hu⟩ := ht
    exact fin 0 (by rw [hx.inv_v]; simp [Builtin.len_, run_underlying hu, goInt])
  · cases hs
theorem snd_cap {o : Oper} {t el : TypeId} {X : Operand} (hop : o.op = .call { callee := .builtin .cap, args := #[X], argTypes := #[t] }) (hu : P.underlying t = some (.slice el)) {x : Opd} (hx : RV Γ (e x) (a.eval X)) (H : WR w0 Γ h w) {v : AV} {h' : AH}
    (hs : istep (.cap x) e h = some (v, h')) : Res P w0 Γ ((execOp a.eval o).run P w) v h' := by
  obtain ⟨cn, hex⟩ := exec_builtin (a := a) hop
  have hr : (execOp a.eval o).run P w = (do pure (Next.value (← Builtin.cap_ #[t] o.type #[a.eval X])) : Sem Next).run P w := by rw [hex]; simp only [builtin, List.map_toArray, List.map_cons, List.map_nil]
  generalize a.eval X = xv at hx hr
  simp only [istep] at hs
  split at hs
  · rename_i id off n c hk
    rw [hk] at hx
    simp only [Option.some.injEq, Prod.mk.injEq] at hs
    obtain ⟨rfl, rfl⟩ := hs
    obtain ⟨b, c', _, rfl, _, hc⟩ := hx.inv_row
    obtain rfl := hc c rfl
    exact Res.val hr (by simp only [Builtin.cap_, List.getElem?_toArray, List.getElem?_cons_zero, Sem.run_bind, run_underlying hu, Result.andThen_ok, Sem.run_pure, goInt]) (.v _) H
  · rename_i sz rows hk
    rw [hk] at hx
    simp only [Option.some.injEq, Prod.mk.injEq] at hs
    obtain ⟨rfl, rfl⟩ := hs
    rcases hx.inv_list with ⟨base, rfl, rfl, _⟩ | ⟨b, o', c, us, rfl, _, _, _, _, _, hto⟩
    · exact Res.val hr (x := .int .i64 (0 : Nat)) (by simp only [Builtin.cap_, List.getElem?_toArray, List.getElem?_cons_zero, Sem.run_bind, run_underlying hu, Result.andThen_ok, Sem.run_pure, goInt]) (.v _) H
    · have hto' : rows.length = c := hto
      exact Res.val hr (x := .int .i64 (rows.length : Nat)) (by simp only [Builtin.cap_, List.getElem?_toArray, List.getElem?_cons_zero, Sem.run_bind, run_underlying hu, Result.andThen_ok, Sem.run_pure, goInt, hto']) (.v _) H
  · cases hs
theorem snd_app {o : Oper} {t u : TypeId} {X Y : Operand} (hop : o.op = .call { callee := .builtin .append, args := #[X, Y], argTypes := #[t, u] }) {sz eb : Nat} (ht : ElemAt P t sz eb) (hxt : slOrStr P u) (heb : 0 < eb) {x y : Opd} (hx : RV Γ (e x) (a.eval X)) (hy : RV Γ (e y) (a.eval Y)) (H : WR w0 Γ h w) {v : AV} {h' : AH}
    (hs : istep (.app sz eb x y) e h = some (v, h')) : Res P w0 Γ ((execOp a.eval o).run P w) v h' := by
  obtain ⟨cn, hex⟩ := exec_builtin (a := a) hop
  have hr : (execOp a.eval o).run P w = (do pure (Next.value (← Builtin.append_ #[t, u] o.type #[a.eval X, a.eval Y])) : Sem Next).run P w := by rw [hex]; simp only [builtin, List.map_toArray, List.map_cons, List.map_nil]
  simp only [istep] at hs
  split at hs
  · rename_i sz' rows tok new hk hsrc
    rw [hk] at hx
    split at hs
    · rename_i hsz
      subst hsz
      split at hs
      · simp only [Option.some.injEq, Prod.mk.injEq] at hs
        obtain ⟨rfl, rfl⟩ := hs
        obtain ⟨Γ', v, w', hrun, hle, hv, HW⟩ := run_app (P := P) (ty := o.type) ht hxt heb H hx hy hsrc (tok' := tok) (h' := h) (by simp)
        rw [List.append_nil] at hv
        exact Res.valw hr hrun hle hv HW
      · rename_i r new
        split at hs
        · rename_i tok' h1 htok
          split at hs
          · rename_i hb
            simp only [Option.some.injEq, Prod.mk.injEq] at hs
            obtain ⟨rfl, rfl⟩ := hs
            obtain ⟨Γ', v, w', hrun, hle, hv, HW⟩ := run_app (P := P) (ty := o.type) ht hxt heb H hx hy hsrc (tok' := tok') (h' := h1) (by rw [if_neg (by simp)]; exact ⟨htok, by simpa using hb⟩)
            exact Res.valw hr hrun hle hv HW
          · cases hs
        · cases hs
    · cases hs
  · cases hs
theorem snd_mnx {o : Oper} {args : Array Operand} {ts : Array TypeId} {mx : Bool} (hop : o.op = .call { callee := .builtin (if mx then .max else .min), args := args, argTypes := ts }) {xs : List Opd} (hxs : clist P args.toList = some xs) (hf : FR Γ fr a) (H : WR w0 Γ h w) {v : AV} {h' : AH}
    (hs : istep (.mnx mx xs) (ev fr) h = some (v, h')) : Res P w0 Γ ((execOp a.eval o).run P w) v h' := by
  obtain ⟨cn, hex⟩ := exec_builtin (a := a) hop
  have hrv := clist_inv hf hxs
  have hr : (execOp a.eval o).run P w = (do pure (Next.value (← (if mx then Builtin.max_ ts o.type (args.map a.eval) else Builtin.min_ ts o.type (args.map a.eval) : Sem Value))) : Sem Next).run P w := by
    rw [hex]; cases mx <;> simp [builtin]
  have fold : ∀ (l : List AV) (us : List Value) (k : IntKind) (n : Int) (m : Int), RVs Γ l us → l.foldl (fun (s : Option Int) y => match s, y with
        | some a, .v (.int _ b) => some (if mx then (if b > a then b else a) else (if b < a then b else a))
        | _, _ => none) (some n) = some m → (us.foldlM (if mx then Builtin.max2 else Builtin.min2) (.int k n) : Sem Value).run P w = .ok (.int k m) w := by
    intro l
    induction l with
    | nil =>
      intro us k n m hrv hfo
      have : us = [] := List.eq_nil_of_length_eq_zero (by simpa using hrv.len)
      subst this
      simp only [List.foldl_nil, Option.some.injEq] at hfo
      subst hfo; rfl
    | cons y l ih =>
      intro us k n m hrv hfo
      cases us with
      | nil => have := hrv.len; simp at this
      | cons u us =>
        have h0 := hrv.at_ 0 (by simp) (by simp)
        simp only [List.getElem_cons_zero] at h0
        have hr' : RVs Γ l us := ⟨by have := hrv.len; simpa using this, fun i hi hi' => hrv.at_ (i + 1) (by simpa using hi) (by simpa using hi')⟩
        have hnone : ∀ l : List AV, l.foldl (fun (s : Option Int) y => match s, y with
            | some a, .v (.int _ b) => some (if mx then (if b > a then b else a) else (if b < a then b else a))
            | _, _ => none) none = none := by
          intro l; induction l with
          | nil => rfl
          | cons a l ih => simpa using ih
        rw [List.foldl_cons] at hfo
        cases y with
        | v yv =>
          cases yv with
          | int k' b =>
            rw [h0.inv_v]
            simp only at hfo
            have := ih us k _ m hr' hfo
            rw [List.foldlM_cons, Sem.run_bind]
            cases mx
            · simp only [Bool.false_eq_true, if_false] at this ⊢
              simp only [Builtin.min2, Sem.run_pure, Result.andThen_ok]; exact this
            · simp only [if_true] at this ⊢
              simp only [Builtin.max2, Sem.run_pure, Result.andThen_ok]; exact this
          | _ => simp only at hfo; rw [hnone] at hfo; cases hfo
        | _ => simp only at hfo; rw [hnone] at hfo; cases hfo
  simp only [istep] at hs
  split at hs
  · rename_i k n r hk
    rw [hk] at hrv
    simp only [Option.map_eq_some_iff, Prod.mk.injEq] at hs
    obtain ⟨m, hm, rfl, rfl⟩ := hs
    have hlist : ∃ us, (args.map a.eval).toList = .int k n :: us ∧ RVs Γ r us := by
      rw [Array.toList_map]
      cases hargs : args.toList.map a.eval with
      | nil => rw [hargs] at hrv; have := hrv.len; simp at this
      | cons u us =>
        rw [hargs] at hrv
        have h0 := hrv.at_ 0 (by simp) (by simp)
        simp only [List.getElem_cons_zero] at h0
        exact ⟨us, by rw [h0.inv_v], ⟨by have := hrv.len; simpa using this, fun i hi hi' => hrv.at_ (i + 1) (by simpa using hi) (by simpa using hi')⟩⟩
    obtain ⟨us, hus, hrs⟩ := hlist
    have := fold r us k n m hrs hm
    refine Res.val hr (x := .int k m) ?_ (.v _) H
    cases mx
    · simp only [Bool.false_eq_true, if_false] at this ⊢
      unfold Builtin.min_; rw [hus]; exact this
    · simp only [if_true] at this ⊢
      unfold Builtin.max_; rw [hus]; exact this
  · cases hs
theorem snd_cpy {o : Oper} {t u el : TypeId} {X Y : Operand} (hop : o.op = .call { callee := .builtin .copy, args := #[X, Y], argTypes := #[t, u] }) (ht : P.underlying t = some (.slice el)) {inf : TypeInfo} (hin : P.info? el = some inf) {x y : Opd} (hx : RV Γ (e x) (a.eval X)) (hy : RV Γ (e y) (a.eval Y)) (H : WR w0 Γ h w) {v : AV} {h' : AH}
    (hs : istep (.cpy inf.size x y) e h = some (v, h')) : Res P w0 Γ ((execOp a.eval o).run P w) v h' := by
  obtain ⟨cn, hex⟩ := exec_builtin (a := a) hop
  have hr : (execOp a.eval o).run P w = (do pure (Next.value (← Builtin.copy_ #[t, u] o.type #[a.eval X, a.eval Y])) : Sem Next).run P w := by rw [hex]; simp only [builtin, List.map_toArray, List.map_cons, List.map_nil]
  generalize a.eval X = xv at hx hr
  generalize a.eval Y = yv at hy hr
  simp only [istep] at hs
  split at hs
  · rename_i id off len cap new hk hsrc
    rw [hk] at hx
    split at hs
    · rename_i cs ho
      split at hs
      · rename_i hle
        simp only [Option.some.injEq, Prod.mk.injEq] at hs
        obtain ⟨rfl, rfl⟩ := hs
        obtain ⟨b, c, hb, rfl, _⟩ := hx.inv_row
        obtain ⟨us, hly, hfn, hcs, hul, hrsz, hcl⟩ := srcRows_sound (P := P) H hsrc hy
        have hsub : Cells Γ (new.take len).flatten (us.take (len * inf.size)) := by
          have := hcs.part 0 (len * inf.size)
          have e1 := flat_part hrsz 0 len
          simp only [List.drop_zero, Nat.zero_mul] at this e1
          rw [e1]; exact this
        have hfl : (new.take len).flatten.length = (min new.length len) * inf.size := by
          rw [flat_len (sz := inf.size) (fun r hr => hrsz r (List.mem_of_mem_take hr)), List.length_take, Nat.min_comm]
        have hmin : Nat.min new.length len = min new.length len := rfl
        obtain ⟨w', hst, HW⟩ := H.store P ho hb hsub (off := off) (by
          rw [hfl]
          have : min new.length len * inf.size ≤ len * inf.size := Nat.mul_le_mul_right _ (Nat.min_le_right _ _)
          omega)
        have hfc : (Builtin.firstCells inf.size (Nat.min new.length len) yv).run P w = .ok (us.take (len * inf.size)).toArray w := by
          have hutake : us.take (len * inf.size) = us.take ((min new.length len) * inf.size) := by
            by_cases hh : new.length ≤ len
            · rw [Nat.min_eq_left hh, List.take_of_length_le (by rw [hul]; exact Nat.mul_le_mul_right _ hh), List.take_of_length_le (by rw [hul]; exact Nat.le_refl _)]
            · rw [Nat.min_eq_right (by omega)]
          rw [hutake, hmin]
          have hfull := hfn w (fun a v hv => hv)
          cases yv with
          | slice base n2 c2 =>
            simp only [Builtin.lenOf, Sem.run_pure, Result.ok.injEq, and_true] at hly
            subst hly
            cases base with
            | none =>
              simp only [Builtin.firstCells, Sem.run_pure, Result.ok.injEq, and_true] at hfull ⊢
              have : us = [] := List.eq_nil_of_length_eq_zero (by have := congrArg Array.size hfull; simpa using this.symm)
              simp [this]
            | some ad =>
              have hlen2 : (us.take ((min new.length len) * inf.size)).length = (min new.length len) * inf.size := by
                rw [List.length_take, hul]
                exact Nat.min_eq_left (Nat.mul_le_mul_right _ (Nat.min_le_left _ _))
              refine run_firstCells_some (P := P) w inf.size (min new.length len) ad _ c2 _ hlen2 (fun j v hv => ?_)
              have hv2 : us[j]? = some v := by
                rw [List.getElem?_take] at hv
                split at hv
                · exact hv
                · cases hv
              obtain ⟨hj, rfl⟩ := List.getElem?_eq_some_iff.1 hv2
              cases ad with
              | mk bb oo sp =>
                have hsp : sp = none := by
                  unfold srcRows at hsrc
                  split at hsrc
                  · rename_i hkk; rw [hkk] at hy
                    split at hsrc
                    · injection hsrc with hsrc
                      rcases hy.inv_list with ⟨_, _, hh, _⟩ | ⟨_, _, _, _, hh, _⟩
                      · exfalso
                        rw [← hsrc, hh] at hul
                        rw [hul] at hj
                        simp at hj
                      · injection hh with h1 h2 h3; injection h1 with h1; injection h1
                    · cases hsrc
                  · rename_i hkk; rw [hkk] at hy; have := hy.inv_v; cases this
                  · rename_i hkk; rw [hkk] at hy; obtain ⟨_, _, _, hh, _⟩ := hy.inv_row; injection hh with h1 h2 h3; injection h1 with h1; injection h1
                  · cases hsrc
                subst hsp
                rw [addr_add]; exact hcl bb oo _ _ rfl j hj
          | string s =>
            simp only [Builtin.lenOf, Sem.run_pure, Result.ok.injEq, and_true] at hly
            simp only [Builtin.firstCells, Sem.run_pure, Result.ok.injEq, and_true] at hfull ⊢
            have hs1 : inf.size = 1 := by
              unfold srcRows at hsrc
              split at hsrc
              · rename_i hkk; rw [hkk] at hy; rcases hy.inv_list with ⟨_, hh, _⟩ | ⟨_, _, _, _, hh, _⟩ <;> cases hh
              · split at hsrc
                · assumption
                · cases hsrc
              · rename_i hkk; rw [hkk] at hy; obtain ⟨_, _, _, hh, _⟩ := hy.inv_row; cases hh
              · cases hsrc
            have hu2 : us = s.data.toList.map (fun b => Value.int .u8 b.toNat) := by
              have := congrArg Array.toList hfull
              rw [hly.symm] at this
              simp only [Array.toList_map, List.toList_toArray] at this
              rw [← this]
              have e2 : s.extract 0 s.size = s := by apply ByteArray.ext; simp [ByteArray.data_extract]
              rw [e2]
            rw [hs1, Nat.mul_one, hu2, ← hly]
            apply Array.ext'
            simp [ByteArray.data_extract, Array.toList_extract, List.map_take]
          | _ => simp [Builtin.lenOf] at hly
        refine Res.valw hr (x := .int .i64 (min new.length len : Nat)) (w' := w') ?_ (.refl _) (.v _) HW
        simp only [Builtin.copy_, List.getElem?_toArray, List.getElem?_cons_zero, List.getElem?_cons_succ, Sem.run_bind, run_underlying ht, Result.andThen_ok, hly, run_sizeOf' hin, hfc, hst, Sem.run_pure, goInt]
      · cases hs
    · cases hs
  · cases hs
theorem snd_del {o : Oper} {t u kt et : TypeId} {X Y : Operand} (hop : o.op = .call { callee := .builtin .delete, args := #[X, Y], argTypes := #[t, u] }) (ht : P.underlying t = some (.map kt et)) {ck : CK} (hk : ckOf P kt = some ck) {m k : Opd} (hm : RV Γ (e m) (a.eval X)) (hkk : RV Γ (e k) (a.eval Y)) (H : WR w0 Γ h w) {v : AV} {h' : AH}
    (hs : istep (.del ck m k) e h = some (v, h')) : Res P w0 Γ ((execOp a.eval o).run P w) v h' := by
  obtain ⟨cn, hex⟩ := exec_builtin (a := a) hop
  have hr : (execOp a.eval o).run P w = (do pure (Next.value (← Builtin.delete_ #[t, u] o.type #[a.eval X, a.eval Y])) : Sem Next).run P w := by rw [hex]; simp only [builtin, List.map_toArray, List.map_cons, List.map_nil]
  simp only [istep] at hs
  split at hs
  · rename_i id kv hmv hkv
    rw [hkv] at hkk
    rw [hmv] at hm
    split at hs
    · rename_i es ho
      simp only [Option.map_eq_some_iff, Prod.mk.injEq] at hs
      obtain ⟨h1, hh1, rfl, rfl⟩ := hs
      obtain ⟨w', hrun, HW⟩ := run_del (P := P) (ty := o.type) (tk := u) ht hk H hm ho hh1
      rw [hkk.inv_v] at hr
      exact Res.valw hr hrun (.refl _) (.tup rfl (fun i hi => by simp at hi)) HW
    · cases hs
  · cases hs
end
end Go.Abs
/- A program logic over abstract states, 15: every operation that has a compact form. -/
namespace Go.Abs
open Go Go.RowKit
set_option linter.unusedVariables false
set_option linter.unusedSimpArgs false

section
variable {P : Program} {w0 : World} {Γ : Con} {h : AH} {w : World} {fr : List AV} {a : Act}

theorem toList2 {α : Type} {xs : Array α} {l : List α} (h : xs.toList = l) : xs = l.toArray := by subst h; simp

theorem call_sound {o : Oper} {c : Call} (hop : o.op = .call c) {i : IOp} (hc : compCall P c = some i) (H : WR w0 Γ h w) (hf : FR Γ fr a) {v : AV} {h' : AH} (hs : istep i (ev fr) h = some (v, h')) : Res P w0 Γ ((execOp a.eval o).run P w) v h' := by
  obtain ⟨callee, args, ts⟩ := c
  unfold compCall at hc
  split at hc <;> rename_i hcal <;> (try (simp only at hcal; subst hcal))
  · -- len
    split at hc
    · rename_i X t hargs hts
      simp only at hargs hts
      obtain rfl := toList2 hargs
      obtain rfl := toList2 hts
      split at hc
      · rename_i hu
        obtain ⟨x, rfl, hx⟩ := c1_inv hc hf
        exact snd_len (k := .str) hop hu hx H hs
      · rename_i hu
        obtain ⟨x, rfl, hx⟩ := c1_inv hc hf
        exact snd_len (k := .sl) hop ⟨_, hu⟩ hx H hs
      · rename_i hu
        obtain ⟨x, rfl, hx⟩ := c1_inv hc hf
        exact snd_len (k := .map) hop ⟨_, _, hu⟩ hx H hs
      · cases hc
    · cases hc
  · -- cap
    split at hc
    · rename_i X t hargs hts
      simp only at hargs hts
      obtain rfl := toList2 hargs
      obtain rfl := toList2 hts
      split at hc
      · rename_i hu
        obtain ⟨x, rfl, hx⟩ := c1_inv hc hf
        exact snd_cap hop hu hx H hs
      · cases hc
    · cases hc
  · -- append
    split at hc
    · rename_i X Y t u hargs hts
      simp only at hargs hts
      obtain rfl := toList2 hargs
      obtain rfl := toList2 hts
      have key : ∀ el, P.underlying t = some (.slice el) → slOrStr P u → (match P.info? el with
          | some i => match i.zero with
            | some z => if z.cells.size == i.size && i.bytes != 0 && z.cells.toList.all (·.oneCell') then c2 P t X u Y (.app i.size i.bytes) else none
            | none => none
          | none => none) = some i → Res P w0 Γ ((execOp a.eval o).run P w) v h' := by
        intro el hu hxt hc
        split at hc
        · rename_i inf hin
          split at hc
          · rename_i z hz
            split at hc
            · rename_i hb
              simp only [Bool.and_eq_true, beq_iff_eq, bne_iff_ne, ne_eq] at hb
              obtain ⟨x, y, rfl, hx, hy⟩ := c2_inv hc hf
              exact snd_app hop ⟨_, _, _, hu, hin, hz, rfl, hb.1.1, rfl⟩ hxt (Nat.pos_of_ne_zero hb.1.2) hx hy H hs
            · cases hc
          · cases hc
        · cases hc
      split at hc
      · rename_i hu hv; exact key _ hu (.inl ⟨_, hv⟩) hc
      · rename_i hu hv; exact key _ hu (.inr hv) hc
      · cases hc
    · cases hc
  · -- copy
    split at hc
    · rename_i X Y t u hargs hts
      simp only at hargs hts
      obtain rfl := toList2 hargs
      obtain rfl := toList2 hts
      split at hc
      · rename_i hu
        split at hc
        · rename_i hin
          obtain ⟨x, y, rfl, hx, hy⟩ := c2_inv hc hf
          exact snd_cpy hop hu hin hx hy H hs
        · cases hc
      · cases hc
    · cases hc
  · -- min
    simp only [Option.map_eq_some_iff] at hc
    obtain ⟨xs, hxs, rfl⟩ := hc
    exact snd_mnx (mx := false) hop hxs hf H hs
  · -- max
    simp only [Option.map_eq_some_iff] at hc
    obtain ⟨xs, hxs, rfl⟩ := hc
    exact snd_mnx (mx := true) hop hxs hf H hs
  · -- delete
    split at hc
    · rename_i X Y t u hargs hts
      simp only at hargs hts
      obtain rfl := toList2 hargs
      obtain rfl := toList2 hts
      split at hc
      · rename_i hu
        split at hc
        · rename_i hck
          obtain ⟨x, y, rfl, hx, hy⟩ := c2_inv hc hf
          exact snd_del hop hu hck hx hy H hs
        · cases hc
      · cases hc
    · cases hc
  · simp only [Option.map_eq_some_iff] at hc
    obtain ⟨xs, hxs, rfl⟩ := hc
    simp [istep] at hs
  · split at hc
    · injection hc with hc
      subst hc
      simp [istep] at hs
    · cases hc
  · cases hc

theorem step_sound {rows : List Nat} {o : Oper} {i : IOp} (hc : compOp P rows o = some i) (H : WR w0 Γ h w) (hf : FR Γ fr a) {v : AV} {h' : AH} (hs : istep i (ev fr) h = some (v, h')) : Res P w0 Γ ((execOp a.eval o).run P w) v h' := by
  unfold compOp at hc
  split at hc <;> rename_i hop
  · -- move
    obtain ⟨x, rfl, hx⟩ := c1_inv hc hf
    simp only [istep, Option.some.injEq, Prod.mk.injEq] at hs
    obtain ⟨rfl, rfl⟩ := hs
    exact Res.same (by unfold execOp; simp only [hop]; rfl) hx H
  · obtain ⟨x, rfl, hx⟩ := c1_inv hc hf
    simp only [istep, Option.some.injEq, Prod.mk.injEq] at hs
    obtain ⟨rfl, rfl⟩ := hs
    exact Res.same (by unfold execOp; simp only [hop]; rfl) hx H
  · -- pick
    obtain ⟨x, y, z, rfl, hx, hy, hz⟩ := c3_inv hc hf
    simp only [istep] at hs
    split at hs
    · rename_i t ht
      rw [ht] at hx
      simp only [Option.some.injEq, Prod.mk.injEq] at hs
      obtain ⟨rfl, rfl⟩ := hs
      cases t
      · exact Res.same (by unfold execOp; simp only [hop, hx.inv_v, asBool]; rfl) hz H
      · exact Res.same (by unfold execOp; simp only [hop, hx.inv_v, asBool]; rfl) hy H
    · cases hs
  · -- alloc
    simp only [Option.map_eq_some_iff] at hc
    obtain ⟨z, hz, rfl⟩ := hc
    split at hs
    · rename_i hkb
      exact snd_newT (e := ev fr) hop hz (by simp only [Bool.and_eq_true] at hkb; exact hkb.2) H hs
    · exact snd_new (e := ev fr) hop hz H hs
  · obtain ⟨x, rfl, hx⟩ := c1_inv hc hf
    exact snd_box hop hx H hs
  · -- build
    split at hc
    · rename_i fs z hu hz
      split at hc
      · rename_i hall
        simp only [Option.map_eq_some_iff] at hc
        obtain ⟨qs, hq, rfl⟩ := hc
        exact snd_buildS hop hu hz hall hq hf H hs
      · cases hc
    · rename_i n el z hu hz
      split at hc
      · rename_i inf hin
        simp only [Option.map_eq_some_iff] at hc
        obtain ⟨qs, hq, rfl⟩ := hc
        exact snd_buildA hop hu hz hin hq hf H hs
      · cases hc
    · cases hc
  · -- buildSlice
    split at hc
    · rename_i el hu
      split at hc
      · rename_i inf z qs hin hz hq
        split at hc
        · rename_i hb
          simp only [Bool.and_eq_true, beq_iff_eq, bne_iff_ne, ne_eq, decide_eq_true_eq] at hb
          injection hc with hc
          refine snd_lit hop hu hin hz hq hb.1.1 hb.2 hf H ((o.dst.map fun d => rows.contains d).getD false) ?_
          rw [hc]; exact hs
        · cases hc
      · cases hc
    · cases hc
  · -- load
    split at hc
    · rename_i s hag
      obtain ⟨x, rfl, hx⟩ := c1_inv hc hf
      exact snd_load hop hag hx H hs
    · cases hc
  · -- store
    split at hc
    · rename_i inf hin
      obtain ⟨x, y, rfl, hx, hy⟩ := c2_inv hc hf
      exact snd_store hop hin hx hy H hs
    · cases hc
  · obtain ⟨x, rfl, hx⟩ := c1_inv hc hf
    exact snd_nilc hop hx H hs
  · -- binOp
    split at hc
    · rename_i k hk
      obtain ⟨x, y, rfl, hx, hy⟩ := c2_inv hc hf
      exact snd_bin hop hk hx hy H hs
    · cases hc
  · obtain ⟨x, rfl, hx⟩ := c1_inv hc hf
    exact snd_un hop hx H hs
  · -- convert
    split at hc
    · rename_i hu hd
      obtain ⟨x, rfl, hx⟩ := c1_inv hc hf
      exact snd_convI hop hu hd hx H hs
    · rename_i hu hd
      obtain ⟨x, rfl, hx⟩ := c1_inv hc hf
      exact snd_convS hop hu hd hx H hs
    · rename_i hu hd
      split at hc
      · rename_i h8
        obtain ⟨x, rfl, hx⟩ := c1_inv hc hf
        exact snd_s2b hop hu hd h8 hx H hs
      · cases hc
    · rename_i hu hd
      split at hc
      · rename_i h8
        obtain ⟨x, rfl, hx⟩ := c1_inv hc hf
        exact snd_b2s hop hu hd h8 hx H hs
      · cases hc
    · cases hc
  · -- makeInterface
    split at hc
    · cases hc
    · rename_i d hd hu
      obtain ⟨x, rfl, hx⟩ := c1_inv hc hf
      exact snd_mki hop hu (fun ms e => hd ms (by rw [e])) hx H hs
    · cases hc
  · -- makeFunc
    split at hc
    · rename_i xs ys hx hy
      injection hc with hc
      subst hc
      exact snd_mkf hop hx hy hf H hs
    · cases hc
  · injection hc with hc
    subst hc
    exact snd_mkm (e := ev fr) hop H hs
  · -- makeSlice
    split at hc
    · rename_i el hu
      split at hc
      · rename_i inf z hin hz
        split at hc
        · rename_i hb
          simp only [beq_iff_eq] at hb
          obtain ⟨x, y, rfl, hx, hy⟩ := c2_inv hc hf
          exact snd_mks hop hu hin hz hb hx hy H hs
        · cases hc
      · cases hc
    · cases hc
  · -- slice
    split at hc
    · rename_i hu
      split at hc
      · rename_i x lo hi hx hlo hhi
        injection hc with hc
        subst hc
        exact snd_slS hop hu (hf.eval hx) (copt_inv hlo hf) (copt_inv hhi hf) H hs
      · cases hc
    · rename_i el hu
      split at hc
      · rename_i inf hin
        split at hc
        · rename_i x lo hi mx hx hlo hhi hmx
          split at hc
          · rename_i hmh
            injection hc with hc
            subst hc
            exact snd_slL hop hu hin (hf.eval hx) (copt_inv hlo hf) (copt_inv hhi hf) (copt_inv hmx hf) hmh H hs
          · cases hc
        · cases hc
      · cases hc
    · rename_i n el hu
      split at hc
      · rename_i inf hin
        split at hc
        · rename_i x lo hi hx hlo hhi
          injection hc with hc
          subst hc
          exact snd_slA hop hu hin (hf.eval hx) (copt_inv hlo hf) (copt_inv hhi hf) H hs
        · cases hc
      · cases hc
    · cases hc
  · -- fieldAddr
    split at hc
    · rename_i fs hu
      split at hc
      · rename_i fd hfd
        split at hc
        · rename_i inf hin
          split at hc
          · rename_i h0
            simp only [bne_iff_ne, ne_eq] at h0
            obtain ⟨x, rfl, hx⟩ := c1_inv hc hf
            exact snd_fad hop hu hfd hin h0 hx H hs
          · cases hc
        · cases hc
      · cases hc
    · cases hc
  · -- field
    split at hc
    · rename_i fs hu
      split at hc
      · rename_i fd hfd
        split at hc
        · rename_i sz hag
          obtain ⟨x, rfl, hx⟩ := c1_inv hc hf
          exact snd_fld hop hu hfd hag hx H hs
        · cases hc
      · cases hc
    · cases hc
  · -- indexAddr
    split at hc
    · rename_i el hu
      split at hc
      · rename_i inf hin
        obtain ⟨x, y, rfl, hx, hy⟩ := c2_inv hc hf
        exact snd_iaL hop hu hin hx hy H hs
      · cases hc
    · rename_i n el hu
      split at hc
      · rename_i inf hin
        obtain ⟨x, y, rfl, hx, hy⟩ := c2_inv hc hf
        exact snd_iaA hop hu hin hx hy H hs
      · cases hc
    · cases hc
  · -- index
    split at hc
    · rename_i hu
      obtain ⟨x, y, rfl, hx, hy⟩ := c2_inv hc hf
      exact snd_ixS hop hu hx hy H hs
    · rename_i n el hu
      split at hc
      · rename_i inf sz hin hag
        obtain ⟨x, y, rfl, hx, hy⟩ := c2_inv hc hf
        exact snd_ixA hop hu hin hag hx hy H hs
      · cases hc
    · cases hc
  · -- lookup
    split at hc
    · rename_i hu
      split at hc
      · rename_i ck z hck hz
        obtain ⟨x, y, rfl, hx, hy⟩ := c2_inv hc hf
        exact snd_look hop hu hck hz hx hy H hs
      · cases hc
    · cases hc
  · -- mapUpdate
    split at hc
    · rename_i hu
      split at hc
      · rename_i ck hck
        obtain ⟨x, y, z, rfl, hx, hy, hz⟩ := c3_inv hc hf
        exact snd_upd (.inl hop) hu hck hx hy hz H hs
      · cases hc
    · cases hc
  · split at hc
    · rename_i hu
      split at hc
      · rename_i ck hck
        obtain ⟨x, y, z, rfl, hx, hy, hz⟩ := c3_inv hc hf
        exact snd_upd (.inr hop) hu hck hx hy hz H hs
      · cases hc
    · cases hc
  · obtain ⟨x, rfl, hx⟩ := c1_inv hc hf
    exact snd_ext hop hx H hs
  · -- range
    split at hc
    · rename_i hu
      obtain ⟨x, rfl, hx⟩ := c1_inv hc hf
      exact snd_rng hop hu hx H hs
    · cases hc
  · obtain ⟨x, rfl, hx⟩ := c1_inv hc hf
    exact snd_nxt hop hx H hs
  · exact call_sound hop hc H hf hs
  · cases hc
end
end Go.Abs
