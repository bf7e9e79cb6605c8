/- A program logic over abstract states, 24: lists that may be appended to; what else stays. -/
import Derived.Test.YtnpdmkbfphcioaaGreatDoorAbsU
namespace Go.Abs
open Go Go.RowKit
set_option linter.unusedVariables false
set_option linter.unusedSimpArgs false
theorem lq_nil {σ : Fm} {sz : Nat} : (([] : List (Nat × Opd)).map fun p => (p.1 * sz, sz, evF σ p.2)) = [] := rfl
theorem lq_cons {σ : Fm} {sz i : Nat} {o : Opd} {ps : List (Nat × Opd)} {v : AV} {qs : List (Nat × Nat × AV)} (hx : evF σ o = v) (hr : (ps.map fun p => (p.1 * sz, sz, evF σ p.2)) = qs) : (((i, o) :: ps).map fun p => (p.1 * sz, sz, evF σ p.2)) = (i * sz, sz, v) :: qs := by simp only [List.map_cons, hx, hr]
theorem bq_nil {σ : Fm} : (([] : List (Nat × Nat × Opd)).map fun p => (p.1, p.2.1, evF σ p.2.2)) = [] := rfl
theorem bq_cons {σ : Fm} {i n : Nat} {o : Opd} {ps : List (Nat × Nat × Opd)} {v : AV} {qs : List (Nat × Nat × AV)} (hx : evF σ o = v) (hr : (ps.map fun p => (p.1, p.2.1, evF σ p.2.2)) = qs) : (((i, n, o) :: ps).map fun p => (p.1, p.2.1, evF σ p.2.2)) = (i, n, v) :: qs := by simp only [List.map_cons, hx, hr]
theorem is_build {σ : Fm} {h : AH} {z : List AV} {ps : List (Nat × Nat × Opd)} {qs : List (Nat × Nat × AV)} {cs : List AV} (hq : (ps.map fun p => (p.1, p.2.1, evF σ p.2.2)) = qs) (hv : fillA z qs = some cs) : istep (.build z ps) (evF σ) h = some (.agg cs, h) := by
  simp only [istep, hq, hv]
theorem is_lit {σ : Fm} {h : AH} {sz n : Nat} {z : List AV} {ps : List (Nat × Opd)} {qs : List (Nat × Nat × AV)} {cs : List AV} {rows : List (List AV)} (hq : (ps.map fun p => (p.1 * sz, sz, evF σ p.2)) = qs) (hv : fillA ((List.replicate n z).flatten) qs = some cs) (hw : chunk sz n cs = rows) : istep (.lit sz n z ps) (evF σ) h = some (.list sz rows .full, h) := by
  subst hw
  simp only [istep, hq, hv]
/-- A row that was an object never turns any more. -/
theorem WR.freeze {w0 : World} {Γ : Con} {h : AH} {w : World} (H : WR w0 Γ h w) {id b : Nat} (hb : Γ.rho id = some b) {o : AObj} (ho : h.objs id = some o) {vs : Array Value} {e : TypeId} {fr : Nat × Nat} (hh : w.heap[b]? = some (.cells vs e fr)) (n : Nat) :
    Γ.le (Γ.withRow b fun o => if o < n then vs[o]? else none) ∧ WR w0 (Γ.withRow b fun o => if o < n then vs[o]? else none) (h.drop id) w := by
  obtain ⟨b', hb', hge, hat, hF⟩ := H.obj ho
  obtain rfl : b = b' := by rw [hb] at hb'; injection hb'
  have hle : Γ.le (Γ.withRow b fun o => if o < n then vs[o]? else none) := by
    refine ⟨fun {k o x} hx => ?_, fun x => x, fun x => x⟩
    simp only [Con.withRow]
    rw [if_neg (by rintro rfl; rw [hF] at hx; cases hx)]
    exact hx
  have hobj : ∀ {i}, ((h.drop id).objs i).isSome → (h.objs i).isSome ∧ i ≠ id := by
    intro i hi
    simp only [AH.drop] at hi
    split at hi
    · cases hi
    · exact ⟨hi, by assumption⟩
  have hne : ∀ {i c}, ((h.drop id).objs i).isSome → Γ.rho i = some c → c ≠ b := by
    rintro i c hi hc rfl
    exact (hobj hi).2 (H.inj (hobj hi).1 (by rw [ho]; rfl) hc hb)
  refine ⟨hle, H.below, ?_, ?_, fun hi hj => H.inj (hobj hi).1 (hobj hj).1, H.rlt, ?_, H.tinj, H.tnew⟩
  · intro k o x hx
    simp only [Con.withRow] at hx
    split at hx
    · rename_i hk
      subst hk
      split at hx
      · simp only [World.cell?, hh]
        exact hx
      · cases hx
    · exact H.fcell hx
  · intro i o' hi
    have hi2 : (h.drop id).objs i = h.objs i := by
      simp only [AH.drop] at hi ⊢
      split at hi
      · cases hi
      · rename_i e; rw [if_neg e]
    obtain ⟨c, h1, h2, h3, h4⟩ := H.obj (hi2 ▸ hi)
    refine ⟨c, h1, h2, h3.mono hle, fun off => ?_⟩
    simp only [Con.withRow]
    rw [if_neg (hne (by rw [hi]; rfl) h1)]
    exact h4 off
  · intro t T ht
    obtain ⟨h1, ⟨h2, vs', e', fr', h3, h4, h5⟩, h6⟩ := H.tok ht
    refine ⟨h1, ⟨h2, vs', e', fr', h3, h4, fun off a c => ?_⟩, fun i hi => h6 i (hobj hi).1⟩
    simp only [Con.withRow]
    rw [if_neg (by rintro e; exact h6 id (by rw [ho]; rfl) (by rw [hb, e]))]
    exact h5 off a c
/-- A row that is an object, as a list. -/
theorem WR.listed {w0 : World} {Γ : Con} {h : AH} {w : World} (H : WR w0 Γ h w) {id len sz : Nat} {cap : Option Nat} {x : Value} (hx : RV Γ (.row id 0 len cap) x) {rows : List (List AV)} {rest : List AV} (ho : h.objs id = some (.cells (rows.flatten ++ rest))) (hl : rows.length = len) (hr : ∀ r ∈ rows, r.length = sz) (hp : 0 < sz) {tok : Tok} (htok : tok = .no ∨ tok = .full ∧ cap = some len) :
    ∃ Γ', Γ.le Γ' ∧ RV Γ' (.list sz rows tok) x ∧ WR w0 Γ' (h.drop id) w := by
  obtain ⟨b, c, hb, rfl, hlc, hcap⟩ := hx.inv_row
  obtain ⟨b', hb', hge, ⟨vs, e, fr, hh, hvl, hat⟩, hF⟩ := H.obj ho
  obtain rfl : b = b' := by rw [hb] at hb'; injection hb'
  subst hl
  have hfl : rows.flatten.length = rows.length * sz := flat_len hr
  obtain ⟨hle, HW⟩ := H.freeze hb ho hh (rows.length * sz)
  refine ⟨_, hle, ?_, HW⟩
  have hsz : rows.length * sz ≤ vs.size := by rw [List.length_append, hfl] at hvl; omega
  have hus : (vs.toList.take (rows.length * sz)).length = rows.length * sz := by
    rw [List.length_take, show vs.toList.length = vs.size from Array.length_toList]; omega
  refine RV.mk_list (us := vs.toList.take (rows.length * sz)) hlc hr ⟨by rw [hus, hfl], fun k hk hk' => ?_, fun y hy => ?_⟩ (fun k hk => ?_) ?_
  · have h1 : k < (rows.flatten ++ rest).length := by rw [List.length_append]; omega
    have h2 : k < vs.size := by omega
    have := (hat k h1 h2).1.mono hle
    rw [List.getElem_take, Array.getElem_toList]
    rwa [List.getElem_append_left hk] at this
  · obtain ⟨k, hk, rfl⟩ := List.getElem_of_mem hy
    have h1 : k < (rows.flatten ++ rest).length := by rw [List.length_append]; omega
    rw [List.getElem_take, Array.getElem_toList]
    exact (hat k h1 (by omega)).2.1
  · have hk2 : k < rows.length * sz := by rw [← hus]; exact hk
    simp only [Con.withRow, if_true, Nat.zero_add]
    rw [if_pos hk2, List.getElem_take, Array.getElem_toList, Array.getElem?_eq_getElem (by omega)]
  · rcases htok with rfl | ⟨rfl, hc⟩
    · trivial
    · exact hcap _ hc
/-- What a call returns as a row that nobody else has is a list. -/
theorem Call.listed {P : Program} {w0 : World} {f : FuncId} {args : List AV} {h : AH} {Q Q' : AV → AH → Prop} (hc : Call P w0 f args h Q) (hq : ∀ v h', Q v h' → ∃ id len cap sz rows rest tok, v = .row id 0 len cap ∧ h'.objs id = some (.cells (List.flatten rows ++ rest)) ∧ rows.length = len ∧ (∀ r ∈ rows, r.length = sz) ∧ 0 < sz ∧ (tok = .no ∨ tok = .full ∧ cap = some len) ∧ Q' (.list sz rows tok) (h'.drop id)) : Call P w0 f args h Q' :=
  ⟨hc.1, fun Γ w vs H hv => (hc.2 Γ w vs H hv).mono fun e w' ⟨x, Γ', v, h', h1, h2, h3, h4, h5⟩ => by
    obtain ⟨id, len, cap, sz, rows, rest, tok, rfl, ho, hl, hr, hp, htok, hk⟩ := hq v h' h5
    obtain ⟨Γ'', hle, hx, HW⟩ := h4.listed h3 ho hl hr hp htok
    exact ⟨x, Γ'', _, _, h1, h2.trans hle, hx, HW, hk⟩⟩
/-- The rows of a list of strings. -/
def srows (l : List (List UInt8)) : List (List AV) := l.map fun s => [.v (.string (bs s))]
theorem srows_len (l : List (List UInt8)) : (srows l).length = l.length := by simp [srows]
theorem srows_app (l m : List (List UInt8)) : srows (l ++ m) = srows l ++ srows m := by simp [srows]
theorem srows_get (l : List (List UInt8)) (i : Nat) : (srows l)[i]? = (l[i]?).map fun s => [.v (.string (bs s))] := by simp [srows]
/-- A list that may be appended to. -/
def TokU (h : AH) : Tok → Prop
  | .no => False
  | .full => True
  | .own t v => v = h.ver t ∧ t < h.nt
def Tok.owner : Tok → Option Nat
  | .own t _ => some t
  | _ => none
/-- What else stays: all but some objects and some tokens. -/
structure ExtX (I T : Nat → Prop) (h h' : AH) : Prop where
  n : h.n ≤ h'.n
  nt : h.nt ≤ h'.nt
  objs : ∀ i, i < h.n → ¬ I i → h'.objs i = h.objs i
  ver : ∀ t, t < h.nt → ¬ T t → h'.ver t = h.ver t
theorem ExtX.of {I T : Nat → Prop} {h h' : AH} (e : Ext h h') : ExtX I T h h' := ⟨e.n, e.nt, fun i hi _ => e.objs i hi, fun t ht _ => e.ver t ht⟩
theorem ExtX.trans {I T : Nat → Prop} {a b c : AH} (h : ExtX I T a b) (k : ExtX I T b c) : ExtX I T a c :=
  ⟨Nat.le_trans h.n k.n, Nat.le_trans h.nt k.nt, fun i hi hn => (k.objs i (Nat.lt_of_lt_of_le hi h.n) hn).trans (h.objs i hi hn), fun t ht hn => (k.ver t (Nat.lt_of_lt_of_le ht h.nt) hn).trans (h.ver t ht hn)⟩
theorem ExtX.mono {I T I' T' : Nat → Prop} (hi : ∀ i, I i → I' i) (ht : ∀ i, T i → T' i) {a b : AH} (h : ExtX I T a b) : ExtX I' T' a b :=
  ⟨h.n, h.nt, fun i hl hn => h.objs i hl fun x => hn (hi _ x), fun t hl hn => h.ver t hl fun x => hn (ht _ x)⟩
theorem TokU.ext {h h' : AH} (e : Ext h h') {tok : Tok} (k : TokU h tok) : TokU h' tok := by
  cases tok with
  | no => exact k
  | full => trivial
  | own t v => exact ⟨k.1.trans (e.ver t k.2).symm, Nat.lt_of_lt_of_le k.2 e.nt⟩
/-- A token of a list that is new or was the list's own. -/
def TokN (h : AH) (tok tok' : Tok) : Prop := ∀ t, tok'.owner = some t → tok.owner = some t ∨ h.nt ≤ t
theorem Ext.transX {I T : Nat → Prop} {a b c : AH} (e : Ext a b) (k : ExtX I T b c) (hi : ∀ i, I i → a.n ≤ i) (ht : ∀ t, T t → a.nt ≤ t) : Ext a c :=
  ⟨Nat.le_trans e.n k.n, Nat.le_trans e.nt k.nt, fun i hl => (k.objs i (Nat.lt_of_lt_of_le hl e.n) fun x => by have := hi i x; omega).trans (e.objs i hl), fun t hl => (k.ver t (Nat.lt_of_lt_of_le hl e.nt) fun x => by have := ht t x; omega).trans (e.ver t hl)⟩
theorem ExtX.set {I T : Nat → Prop} {h h' : AH} (e : ExtX I T h h') {i : Nat} (hi : I i ∨ h.n ≤ i) (o : AObj) : ExtX I T h (h'.set i o) :=
  ⟨e.n, e.nt, fun j hj hn => by
    simp only [set_at]
    rw [if_neg (by rintro rfl; rcases hi with hi | hi; exact hn hi; omega)]
    exact e.objs j hj hn, e.ver⟩
theorem ExtX.alloc {I T : Nat → Prop} {h h' : AH} (e : ExtX I T h h') (o : AObj) : ExtX I T h (h'.alloc o) := e.trans (.of (Ext.alloc _ _))
theorem ExtX.newTok {I T : Nat → Prop} {h h' : AH} (e : ExtX I T h h') : ExtX I T h h'.newTok := e.trans (.of (Ext.newTok _))
theorem ExtX.bump {I T : Nat → Prop} {h h' : AH} (e : ExtX I T h h') {t : Nat} (ht : T t ∨ h.nt ≤ t) : ExtX I T h (h'.bump t) :=
  ⟨e.n, e.nt, e.objs, fun s hs hn => by
    simp only [bump_ver]
    rw [if_neg (by rintro rfl; rcases ht with ht | ht; exact hn ht; omega)]
    exact e.ver s hs hn⟩
/-- An append to a list that may be appended to. -/
theorem TokU.app {h : AH} {tok : Tok} (k : TokU h tok) : ∃ tok' h', appTok h tok = some (tok', h') ∧ TokU h' tok' ∧ TokN h tok tok' ∧ h'.objs = h.objs ∧ h'.n = h.n ∧ ExtX (fun _ => False) (fun t => tok.owner = some t) h h' := by
  cases tok with
  | no => exact k.elim
  | full => exact ⟨_, _, rfl, ⟨by simp [newTok_ver], by simp [newTok_nt]⟩, fun t ht => by cases ht; exact .inr (Nat.le_refl _), rfl, rfl, .of (Ext.newTok h)⟩
  | own t v =>
    obtain ⟨rfl, hlt⟩ := k
    exact ⟨_, _, if_pos rfl, ⟨by simp [bump_ver], hlt⟩, fun t ht => by cases ht; exact .inl rfl, rfl, rfl, ExtX.bump (.of (Ext.refl h)) (.inl rfl)⟩
theorem is_app0 {σ : Fm} {h : AH} {sz eb : Nat} {x y : Opd} {rows : List (List AV)} {tok : Tok} {b : AV} (hx : evF σ x = .list sz rows tok) (hy : evF σ y = b) (hv : srcRows sz h b = some []) : istep (.app sz eb x y) (evF σ) h = some (.list sz rows tok, h) := by
  simp only [istep, hx, hy, hv, if_true]
theorem TokU.alloc {h : AH} {o : AObj} {tok : Tok} (k : TokU h tok) : TokU (h.alloc o) tok := k.ext (Ext.alloc _ _)
theorem TokU.newTok {h : AH} {tok : Tok} (k : TokU h tok) : TokU h.newTok tok := k.ext (Ext.newTok _)
theorem TokU.set {h : AH} {i : Nat} {o : AObj} {tok : Tok} (k : TokU h tok) : TokU (h.set i o) tok := by cases tok <;> exact k
theorem TokU.fresh {h : AH} {tok : Tok} (k : TokU h tok) : TokU (h.newTok.bump h.nt) tok := k.ext ((Ext.newTok h).bump (Nat.le_refl _))
theorem TokU.fresh2 {h : AH} {tok : Tok} (k : TokU h tok) : TokU ((h.newTok.bump h.nt).bump h.nt) tok := k.ext (((Ext.newTok h).bump (Nat.le_refl _)).bump (Nat.le_refl _))
end Go.Abs
