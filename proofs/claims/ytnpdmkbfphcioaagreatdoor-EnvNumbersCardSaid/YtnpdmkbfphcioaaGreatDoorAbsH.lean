/- A program logic over abstract states, 8: cuts, indexes, literals, conversions of bytes. -/
import Derived.Test.YtnpdmkbfphcioaaGreatDoorAbsF
import Derived.Laws.BytesString
import Derived.Laws.MakeOwn
import Derived.Lib.ConvBytes
import Derived.Laws.Tables
namespace Go.Abs
open Go Go.RowKit
set_option linter.unusedVariables false
set_option linter.unusedSimpArgs false

section
variable {P : Program} {w0 : World} {Γ : Con} {h : AH} {w : World}

/-! bounds -/
theorem sliceBound_ok {x : Value} {k : IntKind} {i : Int} (hx : x = .int k i) {top : Nat} (h0 : 0 ≤ i) (h1 : i ≤ top) (code : BoundsCode) : (Instr.sliceBound x top code).run P w = .ok i.toNat w := by
  subst hx
  simp [Instr.sliceBound, asIntOf, h0, h1]
/-- A bound's operand, and what it is. -/
structure BndOk (Γ : Con) (e : Opd → AV) (x : Option Opd) (X : Option Value) : Prop where
  out : match x, X with
    | none, none => True
    | some o, some v => RV Γ (e o) v
    | _, _ => False
theorem bnd_ok {e : Opd → AV} {x : Option Opd} {X : Option Value} (hx : BndOk Γ e x X) {d top r : Nat} (hb : bnd e x d top = some r) (code : BoundsCode) :
    (match X with | none => x = none ∧ r = d | some v => (Instr.sliceBound v top code).run P w = .ok r w ∧ r ≤ top) := by
  have ho := hx.out
  unfold bnd at hb
  cases x with
  | none =>
    cases X with
    | none => simp at hb; exact ⟨rfl, hb.symm⟩
    | some v => exact ho.elim
  | some o =>
    cases X with
    | none => exact ho.elim
    | some v =>
      simp only at hb ho ⊢
      split at hb
      · rename_i k i hk
        rw [hk] at ho
        have hv := ho.inv_v
        split at hb
        · rename_i hi
          injection hb with hb
          subst hb
          exact ⟨sliceBound_ok hv hi.1 hi.2 code, by omega⟩
        · cases hb
      · cases hb
theorem sliceBounds_ok {e : Opd → AV} {lo hi : Option Opd} {LO HI : Option Value} (hl : BndOk Γ e lo LO) (hh : BndOk Γ e hi HI) {len cap a b : Nat} (isSlice : Bool) (hlc : len ≤ cap) (hb : bnd e hi len len = some b) (ha : bnd e lo 0 b = some a) :
    (Instr.sliceBounds isSlice len cap LO HI none).run P w = .ok (a, b, cap) w ∧ a ≤ b ∧ b ≤ len := by
  unfold Instr.sliceBounds
  have hble : b ≤ len := by
    cases HI with
    | none => have := bnd_ok (P := P) (w := w) hh hb .index; simp only at this; omega
    | some v => have := bnd_ok (P := P) (w := w) hh hb .index; simp only at this; exact this.2
  have hale : a ≤ b := by
    cases LO with
    | none => have := bnd_ok (P := P) (w := w) hl ha .index; simp only at this; omega
    | some v => have := bnd_ok (P := P) (w := w) hl ha .index; simp only at this; exact this.2
  refine ⟨?_, hale, hble⟩
  simp only [Sem.run_bind, Sem.run_pure, Result.andThen_ok]
  have h2 : (match (generalizing := false) HI with
      | some v => Instr.sliceBound v cap (if isSlice then .sliceAcap else .sliceAlen)
      | none => pure len : Sem Nat).run P w = .ok b w := by
    cases HI with
    | none => have := bnd_ok (P := P) (w := w) hh hb .index; simp only at this; rw [this.2]; rfl
    | some v =>
      have ho := hh.out
      cases hi with
      | none => exact ho.elim
      | some o =>
        simp only at ho
        unfold bnd at hb
        simp only at hb
        split at hb
        · rename_i k i hk
          rw [hk] at ho
          split at hb
          · rename_i hi'
            injection hb with hb
            subst hb
            exact sliceBound_ok ho.inv_v hi'.1 (by omega) _
          · cases hb
        · cases hb
  have h3 : (match (generalizing := false) LO with
      | some v => Instr.sliceBound v b (if (none : Option Value).isSome then .slice3C else .sliceB)
      | none => pure 0 : Sem Nat).run P w = .ok a w := by
    cases LO with
    | none => have := bnd_ok (P := P) (w := w) hl ha .index; simp only at this; rw [this.2]; rfl
    | some v => have := bnd_ok (P := P) (w := w) hl ha .sliceB; simp only at this; exact this.1
  clear hh hl
  cases HI <;> cases LO <;> simp_all

theorem sliceBounds3_ok {e : Opd → AV} {lo hi mx : Option Opd} {LO : Option Value} {HI MX : Value} (hl : BndOk Γ e lo LO) (hh : BndOk Γ e hi (some HI)) (hm : BndOk Γ e mx (some MX)) {len cap a b m d : Nat} (isSlice : Bool) (hlc : len ≤ cap)
    (hb : bnd e hi d len = some b) (ha : bnd e lo 0 b = some a) (hm' : bnd e mx 0 len = some m) (hbm : b ≤ m) : (Instr.sliceBounds isSlice len cap LO (some HI) (some MX)).run P w = .ok (a, b, m) w ∧ a ≤ b ∧ m ≤ len := by
  have inner : ∀ {o : Option Opd} {V : Value} {d r top : Nat}, BndOk Γ e o (some V) → bnd e o d top = some r → ∀ (top' : Nat) (code : BoundsCode), r ≤ top' → (Instr.sliceBound V top' code).run P w = .ok r w ∧ r ≤ top := by
    intro o V d r top ho hb top' code hle
    have hv := ho.out
    cases o with
    | none => exact hv.elim
    | some o =>
      simp only at hv
      unfold bnd at hb
      simp only at hb
      split at hb
      · rename_i k i hk
        rw [hk] at hv
        split at hb
        · rename_i hi'
          injection hb with hb
          subst hb
          exact ⟨sliceBound_ok hv.inv_v hi'.1 (by omega) _, by omega⟩
        · cases hb
      · cases hb
  have hml := (inner hm hm' m .index (Nat.le_refl _)).2
  have h1 := fun code => (inner hm hm' cap code (by omega)).1
  have h2 := fun code => (inner hh hb m code hbm).1
  have hal : a ≤ b := by
    cases LO with
    | none => have := bnd_ok (P := P) (w := w) hl ha .index; simp only at this; omega
    | some v => have := bnd_ok (P := P) (w := w) hl ha .index; simp only at this; exact this.2
  refine ⟨?_, hal, hml⟩
  unfold Instr.sliceBounds
  cases LO with
  | none =>
    have := bnd_ok (P := P) (w := w) hl ha .index
    simp only at this
    simp only [Sem.run_bind, h1, h2, Result.andThen_ok, Sem.run_pure, this.2]
  | some v =>
    have := fun code => (bnd_ok (P := P) (w := w) hl ha code)
    simp only at this
    simp only [Sem.run_bind, h1, h2, Result.andThen_ok, Sem.run_pure, (this _).1]

/-! a slice's or a string's part -/
structure SlAt (P : Program) (t : TypeId) (sz : Nat) : Prop where
  out : ∃ e i, P.underlying t = some (.slice e) ∧ P.info? e = some i ∧ i.size = sz
theorem cellsOf_info {e : TypeId} {i : TypeInfo} (h : P.info? e = some i) : P.cellsOf e = i.size := by simp [Program.cellsOf, h]
theorem run_slice_any {t e : TypeId} {i : TypeInfo} (ht : P.underlying t = some (.slice e)) (hi : P.info? e = some i) {base : Option Addr} {len cap a b m : Nat} {LO HI MX : Option Value} (hb : (Instr.sliceBounds true len cap LO HI MX).run P w = .ok (a, b, m) w) :
    (Instr.sliceAt t (.slice base len cap) LO HI MX).run P w = .ok (.slice (if m = a then base else base.map (·.add (a * i.size))) (b - a) (m - a)) w := by
  simp only [Instr.sliceAt, Instr.slice, Sem.run_bind, run_underlying ht, Result.andThen_ok, hb, run_sizeOf' hi, Sem.run_pure]
theorem Cells.part {cs : List AV} {us : List Value} (h : Cells Γ cs us) (p n : Nat) : Cells Γ ((cs.drop p).take n) ((us.drop p).take n) := by
  have hl := h.len
  refine ⟨by simp [hl], fun i hi hi' => ?_, fun x hx => h.one x ((List.drop_sublist _ _).mem (List.mem_of_mem_take hx))⟩
  simp only [List.length_take, List.length_drop] at hi hi'
  simpa using h.at_ (p + i) (by omega) (by omega)
theorem flat_part {α : Type} {sz : Nat} {rows : List (List α)} (h : ∀ r ∈ rows, r.length = sz) (a n : Nat) : ((rows.drop a).take n).flatten = (rows.flatten.drop (a * sz)).take (n * sz) := by
  have hd : ∀ (a : Nat) (rows : List (List α)), (∀ r ∈ rows, r.length = sz) → (rows.drop a).flatten = rows.flatten.drop (a * sz) := by
    intro a
    induction a with
    | zero => intro rows _; simp
    | succ a ih =>
      intro rows hr
      cases rows with
      | nil => simp
      | cons r rows =>
        have hr0 := hr r (by simp)
        have hle : r.length ≤ (a + 1) * sz := by rw [hr0, Nat.add_mul]; omega
        rw [List.drop_succ_cons, ih rows (fun x hx => hr x (by simp [hx])), List.flatten_cons, List.drop_append, List.drop_eq_nil_of_le hle, List.nil_append, hr0]
        congr 1
        rw [Nat.add_mul]; omega
  have htk : ∀ (n : Nat) (rows : List (List α)), (∀ r ∈ rows, r.length = sz) → (rows.take n).flatten = rows.flatten.take (n * sz) := by
    intro n
    induction n with
    | zero => intro rows _; simp
    | succ n ih =>
      intro rows hr
      cases rows with
      | nil => simp
      | cons r rows =>
        have hr0 := hr r (by simp)
        have hle : r.length ≤ (n + 1) * sz := by rw [hr0, Nat.add_mul]; omega
        have e : (n + 1) * sz - sz = n * sz := by rw [Nat.add_mul]; omega
        rw [List.take_succ_cons, List.flatten_cons, ih rows (fun x hx => hr x (by simp [hx])), List.flatten_cons, List.take_append, List.take_of_length_le hle, hr0, e]
  rw [htk n _ (fun r hr => h r (List.mem_of_mem_drop hr)), hd a rows h]
/-- A part of a list, as a value. -/
theorem RV.part {sz : Nat} {rows : List (List AV)} {tok' : Tok} {b o c n a b' m : Nat} {us : List Value} (hn : n = rows.length) (hc : rows.length ≤ c) (hsz : ∀ r ∈ rows, r.length = sz) (hcs : Cells Γ rows.flatten us) (hul : us.length = rows.length * sz)
    (hF : ∀ k (hk : k < us.length), Γ.F b (o + k) = some us[k]) (hab : a ≤ b') (hbn : b' ≤ rows.length) (hbm : b' ≤ m) (ht : TokOk Γ tok' b (if m = a then o else o + a * sz) (b' - a) (m - a) sz) :
    RV Γ (.list sz ((rows.drop a).take (b' - a)) tok') (.slice (if m = a then some ⟨b, o, none⟩ else (some (⟨b, o, none⟩ : Addr)).map (·.add (a * sz))) (b' - a) (m - a)) := by
  have hlen : ((rows.drop a).take (b' - a)).length = b' - a := by simp; omega
  have hall : ∀ r ∈ (rows.drop a).take (b' - a), r.length = sz := fun r hr => hsz r (List.mem_of_mem_drop (List.mem_of_mem_take hr))
  have hcp := hcs.part (a * sz) ((b' - a) * sz)
  rw [← flat_part hsz] at hcp
  have hpl : ((us.drop (a * sz)).take ((b' - a) * sz)).length = (b' - a) * sz := by
    rw [List.length_take, List.length_drop, hul]
    have : b' * sz ≤ rows.length * sz := Nat.mul_le_mul_right _ hbn
    rw [Nat.sub_mul]; omega
  by_cases hma : m = a
  · rw [if_pos hma] at ht ⊢
    have h0 : b' - a = 0 := by omega
    have := RV.mk_list (Γ := Γ) (tok := tok') (b := b) (o := o) (c := m - a) (us := (us.drop (a * sz)).take ((b' - a) * sz)) (rows := (rows.drop a).take (b' - a)) (by omega) hall hcp (fun k hk => by rw [hpl, h0] at hk; omega) (by rw [hlen]; exact ht)
    rw [hlen] at this; exact this
  · rw [if_neg hma] at ht ⊢
    have := RV.mk_list (Γ := Γ) (tok := tok') (b := b) (o := o + a * sz) (c := m - a) (us := (us.drop (a * sz)).take ((b' - a) * sz)) (rows := (rows.drop a).take (b' - a)) (by omega) hall hcp (fun k hk => by
      rw [hpl] at hk
      have hk2 : a * sz + k < us.length := by
        rw [hul]
        have : b' * sz ≤ rows.length * sz := Nat.mul_le_mul_right _ hbn
        rw [Nat.sub_mul] at hk; omega
      rw [Nat.add_assoc, hF _ hk2]
      simp) (by rw [hlen]; exact ht)
    rw [hlen] at this
    simpa [addr_add] using this

/-- 'x[lo:hi]' of a list. -/
theorem run_cutL {t : TypeId} {sz : Nat} (ht : SlAt P t sz) {e : Opd → AV} {rows : List (List AV)} {tok : Tok} {x : Value} (hx : RV Γ (.list sz rows tok) x) {lo hi : Option Opd} {LO HI : Option Value} (hl : BndOk Γ e lo LO) (hh : BndOk Γ e hi HI) {a b : Nat}
    (hb : bnd e hi rows.length rows.length = some b) (ha : bnd e lo 0 b = some a) :
    ∃ v, (Instr.sliceAt t x LO HI none).run P w = .ok v w ∧ RV Γ (.list sz ((rows.drop a).take (b - a)) (if b = rows.length then tok else .no)) v := by
  obtain ⟨e', i, hte, hi', rfl⟩ := ht.out
  rcases hx.inv_list with ⟨base, rfl, rfl, htk⟩ | ⟨bb, o, c, us, rfl, hc, hrsz, hcs, hul, hF, hto⟩
  · obtain ⟨hbd, hab, hbl⟩ := sliceBounds_ok (P := P) (w := w) hl hh (len := 0) (cap := 0) true (Nat.le_refl _) hb ha
    have hb0 : b = 0 := by omega
    have ha0 : a = 0 := by omega
    subst hb0; subst ha0
    refine ⟨_, run_slice_any hte hi' hbd, ?_⟩
    simp only [if_true, List.drop_nil, List.take_nil, Nat.sub_self, List.length_nil]
    rcases htk with rfl | rfl
    · exact .nilf
    · exact .niln
  · obtain ⟨hbd, hab, hbl⟩ := sliceBounds_ok (P := P) (w := w) hl hh true hc hb ha
    refine ⟨_, run_slice_any hte hi' hbd, RV.part rfl hc hrsz hcs hul hF hab hbl (by omega) ?_⟩
    split
    · rename_i hbe
      subst hbe
      cases tok with
      | no => trivial
      | full => simp only [TokOk] at hto ⊢; omega
      | own t' v' =>
        obtain ⟨T, hT, h1, hd⟩ := hto
        refine ⟨T, hT, h1, ?_⟩
        by_cases hca : c = a
        · left; omega
        · rw [if_neg hca]
          rcases hd with hd | ⟨h2, h3, h4⟩
          · left; omega
          · right
            refine ⟨?_, ?_, h4⟩
            · rw [h2, Nat.sub_mul]
              have : a * i.size ≤ rows.length * i.size := Nat.mul_le_mul_right _ hab
              omega
            · have : a * i.size ≤ c * i.size := Nat.mul_le_mul_right _ (by omega)
              rw [Nat.sub_mul]; omega
    · trivial
/-- 'x[lo:hi:mx]' of a list. -/
theorem run_cutL3 {t : TypeId} {sz : Nat} (ht : SlAt P t sz) {e : Opd → AV} {rows : List (List AV)} {tok : Tok} {x : Value} (hx : RV Γ (.list sz rows tok) x) {lo hi mx : Option Opd} {LO : Option Value} {HI MX : Value} (hl : BndOk Γ e lo LO) (hh : BndOk Γ e hi (some HI)) (hm : BndOk Γ e mx (some MX)) {a b m d : Nat}
    (hb : bnd e hi d rows.length = some b) (ha : bnd e lo 0 b = some a) (hm' : bnd e mx 0 rows.length = some m) (hbm : b ≤ m) :
    ∃ v, (Instr.sliceAt t x LO (some HI) (some MX)).run P w = .ok v w ∧ RV Γ (.list sz ((rows.drop a).take (b - a)) (if b = m then .full else .no)) v := by
  obtain ⟨e', i, hte, hi', rfl⟩ := ht.out
  rcases hx.inv_list with ⟨base, rfl, rfl, htk⟩ | ⟨bb, o, c, us, rfl, hc, hrsz, hcs, hul, hF, hto⟩
  · obtain ⟨hbd, hab, hml⟩ := sliceBounds3_ok (P := P) (w := w) hl hh hm (len := 0) (cap := 0) true (Nat.le_refl _) hb ha hm' hbm
    have hm0 : m = 0 := by omega
    have hb0 : b = 0 := by omega
    have ha0 : a = 0 := by omega
    subst hb0; subst ha0; subst hm0
    refine ⟨_, run_slice_any hte hi' hbd, ?_⟩
    simp only [if_true, List.drop_nil, List.take_nil, Nat.sub_self, List.length_nil]
    exact .nilf
  · obtain ⟨hbd, hab, hml⟩ := sliceBounds3_ok (P := P) (w := w) hl hh hm true hc hb ha hm' hbm
    refine ⟨_, run_slice_any hte hi' hbd, RV.part rfl hc hrsz hcs hul hF hab (by omega) hbm ?_⟩
    split
    · simp only [TokOk]; omega
    · trivial
/-- 'x[lo:hi]' of a row that is an object's. -/
theorem run_cutR {t : TypeId} {sz : Nat} (ht : SlAt P t sz) {e : Opd → AV} {id off len : Nat} {cap : Option Nat} {x : Value} (hx : RV Γ (.row id off len cap) x) {lo hi : Option Opd} {LO HI : Option Value} (hl : BndOk Γ e lo LO) (hh : BndOk Γ e hi HI) {a b : Nat}
    (hb : bnd e hi len len = some b) (ha : bnd e lo 0 b = some a) :
    ∃ v, (Instr.sliceAt t x LO HI none).run P w = .ok v w ∧ (∀ c, cap = some c → RV Γ (.row id (if c = a then off else off + a * sz) (b - a) (some (c - a))) v) ∧ (a = 0 → RV Γ (.row id off b none) v) := by
  obtain ⟨e', i, hte, hi', rfl⟩ := ht.out
  obtain ⟨bb, c, hb', rfl, hlc, hcc⟩ := hx.inv_row
  obtain ⟨hbd, hab, hbl⟩ := sliceBounds_ok (P := P) (w := w) hl hh true hlc hb ha
  refine ⟨_, run_slice_any hte hi' hbd, fun k hk => ?_, fun h0 => ?_⟩
  · have := hcc k hk
    subst this
    by_cases hka : k = a
    · simp only [hka, if_true]
      exact .row hb' (by omega) (fun k' hk' => by injection hk' with hk'; omega)
    · simp only [hka, if_false, Option.map_some, addr_add]
      exact .row hb' (by omega) (fun k' hk' => by injection hk' with hk'; omega)
  · subst h0
    simp only [Nat.zero_mul, Nat.sub_zero]
    have : (if c = 0 then some (⟨bb, off, none⟩ : Addr) else Option.map (fun (x : Addr) => x.add 0) (some ⟨bb, off, none⟩)) = some ⟨bb, off, none⟩ := by split <;> simp [addr_add]
    rw [this]
    exact .row hb' (by omega) (fun k' hk' => by cases hk')
/-- A string's part. -/
theorem run_cutS {t : TypeId} (ht : P.underlying t = some .string) {e : Opd → AV} {s : ByteArray} {lo hi : Option Opd} {LO HI : Option Value} (hl : BndOk Γ e lo LO) (hh : BndOk Γ e hi HI) {a b : Nat} (hb : bnd e hi s.size s.size = some b) (ha : bnd e lo 0 b = some a) :
    (Instr.sliceAt t (.string s) LO HI none).run P w = .ok (.string (s.extract a b)) w := by
  obtain ⟨hbd, hab, hbl⟩ := sliceBounds_ok (P := P) (w := w) hl hh (len := s.size) (cap := s.size) false (Nat.le_refl _) hb ha
  simp only [Instr.sliceAt, Instr.slice, Sem.run_bind, run_underlying ht, Result.andThen_ok, Option.isSome_none, Bool.false_eq_true, if_false, Sem.run_pure, hbd]
/-- An array's part. -/
theorem run_cutA {t el : TypeId} {n sz : Nat} {i : TypeInfo} (ht : P.underlying t = some (.array n el)) (hif : P.info? el = some i) (hsz : i.size = sz) {e : Opd → AV} {id off : Nat} {x : Value} (hx : RV Γ (.ptr id off) x) {lo hi : Option Opd} {LO HI : Option Value} (hl : BndOk Γ e lo LO) (hh : BndOk Γ e hi HI) {a b : Nat}
    (hb : bnd e hi n n = some b) (ha : bnd e lo 0 b = some a) : ∃ v, (Instr.sliceAt t x LO HI none).run P w = .ok v w ∧ RV Γ (.row id (if n = a then off else off + a * sz) (b - a) (some (n - a))) v := by
  subst hsz
  obtain ⟨bb, hb', rfl⟩ := hx.inv_ptr
  obtain ⟨hbd, hab, hbl⟩ := sliceBounds_ok (P := P) (w := w) hl hh (len := n) (cap := n) false (Nat.le_refl _) hb ha
  refine ⟨.slice (some (if n = a then ⟨bb, off, none⟩ else (⟨bb, off, none⟩ : Addr).add (a * i.size))) (b - a) (n - a), by simp only [Instr.sliceAt, Sem.run_bind, run_underlying ht, Result.andThen_ok, Instr.sureAddr, Sem.run_pure, hbd, run_sizeOf' hif], ?_⟩
  by_cases hna : n = a
  · rw [if_pos hna, if_pos hna]; exact .row hb' (by omega) (fun k' hk' => by injection hk' with hk'; omega)
  · rw [if_neg hna, if_neg hna, addr_add]; exact .row hb' (by omega) (fun k' hk' => by injection hk' with hk'; omega)

/-! an index -/
theorem run_iaL {t : TypeId} {sz : Nat} (ht : SlAt P t sz) {rows : List (List AV)} {sz' : Nat} (hszz : sz' = sz) {tok : Tok} {x : Value} (hx : RV Γ (.list sz' rows tok) x) {k : IntKind} {i : Int} (h0 : 0 ≤ i) {r : List AV} (hr : rows[i.toNat]? = some r) :
    ∃ v, (Instr.indexAt t x (.int k i)).run P w = .ok v w ∧ RV Γ (.lptr r 0) v := by
  subst hszz
  obtain ⟨e', inf, hte, hi', rfl⟩ := ht.out
  obtain ⟨hlt, rfl⟩ := List.getElem?_eq_some_iff.1 hr
  rcases hx.inv_list with ⟨base, rfl, rfl, _⟩ | ⟨bb, o, c, us, rfl, hc, hrsz, hcs, hul, hF, hto⟩
  · simp at hlt
  · refine ⟨.pointer (some ⟨bb, o + i.toNat * inf.size, none⟩), ?_, ?_⟩
    · have : i < rows.length := by omega
      simp [Instr.indexAt, asIntOf, run_underlying hte, h0, this, run_sizeOf' hi', addr_add]
    · have hrl := hrsz _ (List.getElem_mem hlt)
      have key : ∀ j, j < rows[i.toNat].length → i.toNat * inf.size + j < us.length := fun j hj => by rw [hul]; exact lt_rows hlt (by rw [← hrl]; exact hj)
      have := RV.lptr (Γ := Γ) (cells := rows[i.toNat]) (off := 0) (b := bb) (o := o + i.toNat * inf.size) (u := fun j => us.getD (i.toNat * inf.size + j) undef) (fun j hj => by
        have hk := key j hj
        rw [Nat.add_assoc, hF _ hk]; simp [hk]) (fun j hj => by
        have hk := key j hj
        simpa [hk] using hcs.one _ (List.getElem_mem hk)) (fun j hj => by
        have hk := key j hj
        obtain ⟨hk2, he⟩ := List.getElem?_eq_some_iff.1 (flat_at hrsz i.toNat hlt j hj)
        have := hcs.at_ _ hk2 hk
        rw [he] at this
        simpa [hk] using this)
      simpa using this
theorem run_iaR {t : TypeId} {sz : Nat} (ht : SlAt P t sz) {id off len : Nat} {cap : Option Nat} {x : Value} (hx : RV Γ (.row id off len cap) x) {k : IntKind} {i : Int} (h0 : 0 ≤ i) (h1 : i < len) :
    ∃ v, (Instr.indexAt t x (.int k i)).run P w = .ok v w ∧ RV Γ (.ptr id (off + i.toNat * sz)) v := by
  obtain ⟨e', inf, hte, hi', rfl⟩ := ht.out
  obtain ⟨bb, c, hb', rfl, hlc, hcc⟩ := hx.inv_row
  exact ⟨.pointer (some ⟨bb, off + i.toNat * inf.size, none⟩), by simp [Instr.indexAt, asIntOf, run_underlying hte, h0, h1, run_sizeOf' hi', addr_add], .ptr hb'⟩
theorem run_iaA {t el : TypeId} {n sz : Nat} {inf : TypeInfo} (ht : P.underlying t = some (.array n el)) (hi : P.info? el = some inf) (hsz : inf.size = sz) {x : Value} {a : Addr} (hx : x = .pointer (some a)) {k : IntKind} {i : Int} (h0 : 0 ≤ i) (h1 : i < n) :
    (Instr.indexAt t x (.int k i)).run P w = .ok (.pointer (some (a.add (i.toNat * sz)))) w := by
  subst hsz; subst hx
  simp [Instr.indexAt, asIntOf, run_underlying ht, Instr.sureAddr, h0, h1, run_sizeOf' hi]
theorem run_ixS {t : TypeId} (ht : P.underlying t = some .string) {s : ByteArray} {k : IntKind} {i : Int} (h0 : 0 ≤ i) {b : UInt8} (hb : s.data[i.toNat]? = some b) : (Instr.index t (.string s) (.int k i)).run P w = .ok (.int .u8 b.toNat) w := by
  have hb' : s[i.toNat]? = some b := by
    obtain ⟨hlt, rfl⟩ := Array.getElem?_eq_some_iff.1 hb
    have h2 : i.toNat < s.size := hlt
    rw [getElem?_pos s i.toNat h2]; rfl
  simp [Instr.index, asIntOf, run_underlying ht, h0, hb']
theorem run_ixA {t el : TypeId} {n : Nat} {s : Option Nat} {inf : TypeInfo} (ht : P.underlying t = some (.array n el)) (hi : P.info? el = some inf) (hag : aggSz P el = some s) {cs : List AV} {vs : Array Value} (hs : vs.size = cs.length) (h1 : ∀ (i : Nat) (h : i < vs.size), vs[i].oneCell' = true)
    (hr : ∀ (i : Nat) (h : i < cs.length) (h' : i < vs.size), RV Γ cs[i] vs[i]) {k : IntKind} {i : Int} (h0 : 0 ≤ i) (hn : i < n) {a : AV} (ha : rd cs (i.toNat * inf.size) s = some a) : ∃ x, (Instr.index t (.agg vs) (.int k i)).run P w = .ok x w ∧ RV Γ a x := by
  obtain ⟨x, hx, hv⟩ := run_part (P := P) (w := w) hag hs h1 hr ha
  exact ⟨x, by simp [Instr.index, asIntOf, run_underlying ht, h0, hn, run_sizeOf' hi, hx], hv⟩
end
end Go.Abs
