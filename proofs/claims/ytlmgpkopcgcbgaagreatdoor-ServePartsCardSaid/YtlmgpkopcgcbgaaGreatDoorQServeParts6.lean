/- What the proof needs, part 6: A program logic over abstract states, 8: cuts, indexes, literals, conversions of bytes; A program logic over abstract states, 9: literals, structs, rows of bytes; A program logic over abstract states, 10: bytes of strings, rows made, maps, letters of strings; A program logic over abstract states, 11: the compact operation that an operation of the model comes to; A program logic over abstract states, 12: the compact operation tells what the model's does; A program logic over abstract states, 13: more operations. -/
import Derived.Test.YtlmgpkopcgcbgaaGreatDoorQServeParts5
import Derived.Laws.BytesString
import Derived.Laws.MakeOwn
import Derived.Lib.ConvBytes
import Derived.Laws.Tables
/- A program logic over abstract states, 8: cuts, indexes, literals, conversions of bytes. -/
namespace Go.Abs
open Go Go.RowKit
set_option linter.unusedVariables false
set_option linter.unusedSimpArgs false

section
variable {P : Program} {w0 : World} {Γ : Con} {h : AH} {w : World}

/-! bounds -/
theorem sliceBound_ok {x : Value} {k : IntKind} {i : Int} (hx : x = .int k i) {top : Nat} (h0 : 0 ≤ i) (h1 : i ≤ top) (code : BoundsCode) : (Instr.sliceBound x top code).run P w = .ok i.toNat w := by
  subst hx
  simp [Instr.sliceBound, asIntOf, h0, h1]
/-- A bound's operand, and what it is. -/
structure BndOk (Γ : Con) (e : Opd → AV) (x : Option Opd) (X : Option Value) : Prop where
  out : match x, X with
    | none, none => True
    | some o, some v => RV Γ (e o) v
    | _, _ => False
theorem bnd_ok {e : Opd → AV} {x : Option Opd} {X : Option Value} (hx : BndOk Γ e x X) {d top r : Nat} (hb : bnd e x d top = some r) (code : BoundsCode) :
    (match X with | none => x = none ∧ r = d | some v => (Instr.sliceBound v top code).run P w = .ok r w ∧ r ≤ top) := by
  have ho := hx.out
  unfold bnd at hb
  cases x with
  | none =>
    cases X with
    | none => simp at hb; exact ⟨rfl, hb.symm⟩
    | some v => exact ho.elim
  | some o =>
    cases X with
    | none => exact ho.elim
    | some v =>
      simp only at hb ho ⊢
      split at hb
      · rename_i k i hk
        rw [hk] at ho
        have hv := ho.inv_v
        split at hb
        · rename_i hi
          injection hb with hb
          subst hb
          exact ⟨sliceBound_ok hv hi.1 hi.2 code, by omega⟩
        · cases hb
      · cases hb
theorem sliceBounds_ok {e : Opd → AV} {lo hi : Option Opd} {LO HI : Option Value} (hl : BndOk Γ e lo LO) (hh : BndOk Γ e hi HI) {len cap a b : Nat} (isSlice : Bool) (hlc : len ≤ cap) (hb : bnd e hi len len = some b) (ha : bnd e lo 0 b = some a) :
    (Instr.sliceBounds isSlice len cap LO HI none).run P w = .ok (a, b, cap) w ∧ a ≤ b ∧ b ≤ len := by
  unfold Instr.sliceBounds
  have hble : b ≤ len := by
    cases HI with
    | none => have := bnd_ok (P := P) (w := w) hh hb .index; simp only at this; omega
    | some v => have := bnd_ok (P := P) (w := w) hh hb .index; simp only at this; exact this.2
  have hale : a ≤ b := by
    cases LO with
    | none => have := bnd_ok (P := P) (w := w) hl ha .index; simp only at this; omega
    | some v => have := bnd_ok (P := P) (w := w) hl ha .index; simp only at this; exact this.2
  refine ⟨?_, hale, hble⟩
  simp only [Sem.run_bind, Sem.run_pure, Result.andThen_ok]
  have h2 : (match (generalizing := false) HI with
      | some v => Instr.sliceBound v cap (if isSlice then .sliceAcap else .sliceAlen)
      | none => pure len : Sem Nat).run P w = .ok b w := by
    cases HI with
    | none => have := bnd_ok (P := P) (w := w) hh hb .index; simp only at this; rw [this.2]; rfl
    | some v =>
      have ho := hh.out
      cases hi with
      | none => exact ho.elim
      | some o =>
        simp only at ho
        unfold bnd at hb
        simp only at hb
        split at hb
        · rename_i k i hk
          rw [hk] at ho
          split at hb
          · rename_i hi'
            injection hb with hb
            subst hb
            exact sliceBound_ok ho.inv_v hi'.1 (by omega) _
          · cases hb
        · cases hb
  have h3 : (match (generalizing := false) LO with
      | some v => Instr.sliceBound v b (if (none : Option Value).isSome then .slice3C else .sliceB)
      | none => pure 0 : Sem Nat).run P w = .ok a w := by
    cases LO with
    | none => have := bnd_ok (P := P) (w := w) hl ha .index; simp only at this; rw [this.2]; rfl
    | some v => have := bnd_ok (P := P) (w := w) hl ha .sliceB; simp only at this; exact this.1
  clear hh hl
  cases HI <;> cases LO <;> simp_all

theorem sliceBounds3_ok {e : Opd → AV} {lo hi mx : Option Opd} {LO : Option Value} {HI MX : Value} (hl : BndOk Γ e lo LO) (hh : BndOk Γ e hi (some HI)) (hm : BndOk Γ e mx (some MX)) {len cap a b m d : Nat} (isSlice : Bool) (hlc : len ≤ cap)
    (hb : bnd e hi d len = some b) (ha : bnd e lo 0 b = some a) (hm' : bnd e mx 0 len = some m) (hbm : b ≤ m) : (Instr.sliceBounds isSlice len cap LO (some HI) (some MX)).run P w = .ok (a, b, m) w ∧ a ≤ b ∧ m ≤ len := by
  have inner : ∀ {o : Option Opd} {V : Value} {d r top : Nat}, BndOk Γ e o (some V) → bnd e o d top = some r → ∀ (top' : Nat) (code : BoundsCode), r ≤ top' → (Instr.sliceBound V top' code).run P w = .ok r w ∧ r ≤ top := by
    intro o V d r top ho hb top' code hle
    have hv := ho.out
    cases o with
    | none => exact hv.elim
    | some o =>
      simp only at hv
      unfold bnd at hb
      simp only at hb
      split at hb
      · rename_i k i hk
        rw [hk] at hv
        split at hb
        · rename_i hi'
          injection hb with hb
          subst hb
          exact ⟨sliceBound_ok hv.inv_v hi'.1 (by omega) _, by omega⟩
        · cases hb
      · cases hb
  have hml := (inner hm hm' m .index (Nat.le_refl _)).2
  have h1 := fun code => (inner hm hm' cap code (by omega)).1
  have h2 := fun code => (inner hh hb m code hbm).1
  have hal : a ≤ b := by
    cases LO with
    | none => have := bnd_ok (P := P) (w := w) hl ha .index; simp only at this; omega
    | some v => have := bnd_ok (P := P) (w := w) hl ha .index; simp only at this; exact this.2
  refine ⟨?_, hal, hml⟩
  unfold Instr.sliceBounds
  cases LO with
  | none =>
    have := bnd_ok (P := P) (w := w) hl ha .index
    simp only at this
    simp only [Sem.run_bind, h1, h2, Result.andThen_ok, Sem.run_pure, this.2]
  | some v =>
    have := fun code => (bnd_ok (P := P) (w := w) hl ha code)
    simp only at this
    simp only [Sem.run_bind, h1, h2, Result.andThen_ok, Sem.run_pure, (this _).1]

/-! a slice's or a string's part -/
structure SlAt (P : Program) (t : TypeId) (sz : Nat) : Prop where
  out : ∃ e i, P.underlying t = some (.slice e) ∧ P.info? e = some i ∧ i.size = sz
theorem run_slice_any {t e : TypeId} {i : TypeInfo} (ht : P.underlying t = some (.slice e)) (hi : P.info? e = some i) {base : Option Addr} {len cap a b m : Nat} {LO HI MX : Option Value} (hb : (Instr.sliceBounds true len cap LO HI MX).run P w = .ok (a, b, m) w) :
    (Instr.sliceAt t (.slice base len cap) LO HI MX).run P w = .ok (.slice (if m = a then base else base.map (·.add (a * i.size))) (b - a) (m - a)) w := by
  simp only [Instr.sliceAt, Instr.slice, Sem.run_bind, run_underlying ht, Result.andThen_ok, hb, run_sizeOf' hi, Sem.run_pure]
theorem Cells.part {cs : List AV} {us : List Value} (h : Cells Γ cs us) (p n : Nat) : Cells Γ ((cs.drop p).take n) ((us.drop p).take n) := by
  have hl := h.len
  refine ⟨by simp [hl], fun i hi hi' => ?_, fun x hx => h.one x ((List.drop_sublist _ _).mem (List.mem_of_mem_take hx))⟩
  simp only [List.length_take, List.length_drop] at hi hi'
  simpa using h.at_ (p + i) (by omega) (by omega)
theorem flat_part {α : Type} {sz : Nat} {rows : List (List α)} (h : ∀ r ∈ rows, r.length = sz) (a n : Nat) : ((rows.drop a).take n).flatten = (rows.flatten.drop (a * sz)).take (n * sz) := by
  have hd : ∀ (a : Nat) (rows : List (List α)), (∀ r ∈ rows, r.length = sz) → (rows.drop a).flatten = rows.flatten.drop (a * sz) := by
    intro a
    induction a with
    | zero => intro rows _; simp
    | succ a ih =>
      intro rows hr
      cases rows with
      | nil => simp
      | cons r rows =>
        have hr0 := hr r (by simp)
        have hle : r.length ≤ (a + 1) * sz := by rw [hr0, Nat.add_mul]; omega
        rw [List.drop_succ_cons, ih rows (fun x hx => hr x (by simp [hx])), List.flatten_cons, List.drop_append, List.drop_eq_nil_of_le hle, List.nil_append, hr0]
        congr 1
        rw [Nat.add_mul]; omega
  have htk : ∀ (n : Nat) (rows : List (List α)), (∀ r ∈ rows, r.length = sz) → (rows.take n).flatten = rows.flatten.take (n * sz) := by
    intro n
    induction n with
    | zero => intro rows _; simp
    | succ n ih =>
      intro rows hr
      cases rows with
      | nil => simp
      | cons r rows =>
        have hr0 := hr r (by simp)
        have hle : r.length ≤ (n + 1) * sz := by rw [hr0, Nat.add_mul]; omega
        have e : (n + 1) * sz - sz = n * sz := by rw [Nat.add_mul]; omega
        rw [List.take_succ_cons, List.flatten_cons, ih rows (fun x hx => hr x (by simp [hx])), List.flatten_cons, List.take_append, List.take_of_length_le hle, hr0, e]
  rw [htk n _ (fun r hr => h r (List.mem_of_mem_drop hr)), hd a rows h]
/-- A part of a list, as a value. -/
theorem RV.part {sz : Nat} {rows : List (List AV)} {tok' : Tok} {b o c n a b' m : Nat} {us : List Value} (hn : n = rows.length) (hc : rows.length ≤ c) (hsz : ∀ r ∈ rows, r.length = sz) (hcs : Cells Γ rows.flatten us) (hul : us.length = rows.length * sz)
    (hF : ∀ k (hk : k < us.length), Γ.F b (o + k) = some us[k]) (hab : a ≤ b') (hbn : b' ≤ rows.length) (hbm : b' ≤ m) (ht : TokOk Γ tok' b (if m = a then o else o + a * sz) (b' - a) (m - a) sz) :
    RV Γ (.list sz ((rows.drop a).take (b' - a)) tok') (.slice (if m = a then some ⟨b, o, none⟩ else (some (⟨b, o, none⟩ : Addr)).map (·.add (a * sz))) (b' - a) (m - a)) := by
  have hlen : ((rows.drop a).take (b' - a)).length = b' - a := by simp; omega
  have hall : ∀ r ∈ (rows.drop a).take (b' - a), r.length = sz := fun r hr => hsz r (List.mem_of_mem_drop (List.mem_of_mem_take hr))
  have hcp := hcs.part (a * sz) ((b' - a) * sz)
  rw [← flat_part hsz] at hcp
  have hpl : ((us.drop (a * sz)).take ((b' - a) * sz)).length = (b' - a) * sz := by
    rw [List.length_take, List.length_drop, hul]
    have : b' * sz ≤ rows.length * sz := Nat.mul_le_mul_right _ hbn
    rw [Nat.sub_mul]; omega
  by_cases hma : m = a
  · rw [if_pos hma] at ht ⊢
    have h0 : b' - a = 0 := by omega
    have := RV.mk_list (Γ := Γ) (tok := tok') (b := b) (o := o) (c := m - a) (us := (us.drop (a * sz)).take ((b' - a) * sz)) (rows := (rows.drop a).take (b' - a)) (by omega) hall hcp (fun k hk => by rw [hpl, h0] at hk; omega) (by rw [hlen]; exact ht)
    rw [hlen] at this; exact this
  · rw [if_neg hma] at ht ⊢
    have := RV.mk_list (Γ := Γ) (tok := tok') (b := b) (o := o + a * sz) (c := m - a) (us := (us.drop (a * sz)).take ((b' - a) * sz)) (rows := (rows.drop a).take (b' - a)) (by omega) hall hcp (fun k hk => by
      rw [hpl] at hk
      have hk2 : a * sz + k < us.length := by
        rw [hul]
        have : b' * sz ≤ rows.length * sz := Nat.mul_le_mul_right _ hbn
        rw [Nat.sub_mul] at hk; omega
      rw [Nat.add_assoc, hF _ hk2]
      simp) (by rw [hlen]; exact ht)
    rw [hlen] at this
    simpa [addr_add] using this

/-- 'x[lo:hi]' of a list. -/
theorem run_cutL {t : TypeId} {sz : Nat} (ht : SlAt P t sz) {e : Opd → AV} {rows : List (List AV)} {tok : Tok} {x : Value} (hx : RV Γ (.list sz rows tok) x) {lo hi : Option Opd} {LO HI : Option Value} (hl : BndOk Γ e lo LO) (hh : BndOk Γ e hi HI) {a b : Nat}
    (hb : bnd e hi rows.length rows.length = some b) (ha : bnd e lo 0 b = some a) :
    ∃ v, (Instr.sliceAt t x LO HI none).run P w = .ok v w ∧ RV Γ (.list sz ((rows.drop a).take (b - a)) (if b = rows.length then tok else .no)) v := by
  obtain ⟨e', i, hte, hi', rfl⟩ := ht.out
  rcases hx.inv_list with ⟨base, rfl, rfl, htk⟩ | ⟨bb, o, c, us, rfl, hc, hrsz, hcs, hul, hF, hto⟩
  · obtain ⟨hbd, hab, hbl⟩ := sliceBounds_ok (P := P) (w := w) hl hh (len := 0) (cap := 0) true (Nat.le_refl _) hb ha
    have hb0 : b = 0 := by omega
    have ha0 : a = 0 := by omega
    subst hb0; subst ha0
    refine ⟨_, run_slice_any hte hi' hbd, ?_⟩
    simp only [if_true, List.drop_nil, List.take_nil, Nat.sub_self, List.length_nil]
    rcases htk with rfl | rfl
    · exact .nilf
    · exact .niln
  · obtain ⟨hbd, hab, hbl⟩ := sliceBounds_ok (P := P) (w := w) hl hh true hc hb ha
    refine ⟨_, run_slice_any hte hi' hbd, RV.part rfl hc hrsz hcs hul hF hab hbl (by omega) ?_⟩
    split
    · rename_i hbe
      subst hbe
      cases tok with
      | no => trivial
      | full => simp only [TokOk] at hto ⊢; omega
      | own t' v' =>
        obtain ⟨T, hT, h1, hd⟩ := hto
        refine ⟨T, hT, h1, ?_⟩
        by_cases hca : c = a
        · left; omega
        · rw [if_neg hca]
          rcases hd with hd | ⟨h2, h3, h4⟩
          · left; omega
          · right
            refine ⟨?_, ?_, h4⟩
            · rw [h2, Nat.sub_mul]
              have : a * i.size ≤ rows.length * i.size := Nat.mul_le_mul_right _ hab
              omega
            · have : a * i.size ≤ c * i.size := Nat.mul_le_mul_right _ (by omega)
              rw [Nat.sub_mul]; omega
    · trivial
/-- 'x[lo:hi:mx]' of a list. -/
theorem run_cutL3 {t : TypeId} {sz : Nat} (ht : SlAt P t sz) {e : Opd → AV} {rows : List (List AV)} {tok : Tok} {x : Value} (hx : RV Γ (.list sz rows tok) x) {lo hi mx : Option Opd} {LO : Option Value} {HI MX : Value} (hl : BndOk Γ e lo LO) (hh : BndOk Γ e hi (some HI)) (hm : BndOk Γ e mx (some MX)) {a b m d : Nat}
    (hb : bnd e hi d rows.length = some b) (ha : bnd e lo 0 b = some a) (hm' : bnd e mx 0 rows.length = some m) (hbm : b ≤ m) :
    ∃ v, (Instr.sliceAt t x LO (some HI) (some MX)).run P w = .ok v w ∧ RV Γ (.list sz ((rows.drop a).take (b - a)) (if b = m then .full else .no)) v := by
  obtain ⟨e', i, hte, hi', rfl⟩ := ht.out
  rcases hx.inv_list with ⟨base, rfl, rfl, htk⟩ | ⟨bb, o, c, us, rfl, hc, hrsz, hcs, hul, hF, hto⟩
  · obtain ⟨hbd, hab, hml⟩ := sliceBounds3_ok (P := P) (w := w) hl hh hm (len := 0) (cap := 0) true (Nat.le_refl _) hb ha hm' hbm
    have hm0 : m = 0 := by omega
    have hb0 : b = 0 := by omega
    have ha0 : a = 0 := by omega
    subst hb0; subst ha0; subst hm0
    refine ⟨_, run_slice_any hte hi' hbd, ?_⟩
    simp only [if_true, List.drop_nil, List.take_nil, Nat.sub_self, List.length_nil]
    exact .nilf
  · obtain ⟨hbd, hab, hml⟩ := sliceBounds3_ok (P := P) (w := w) hl hh hm true hc hb ha hm' hbm
    refine ⟨_, run_slice_any hte hi' hbd, RV.part rfl hc hrsz hcs hul hF hab (by omega) hbm ?_⟩
    split
    · simp only [TokOk]; omega
    · trivial
/-- 'x[lo:hi]' of a row that is an object's. -/
theorem run_cutR {t : TypeId} {sz : Nat} (ht : SlAt P t sz) {e : Opd → AV} {id off len : Nat} {cap : Option Nat} {x : Value} (hx : RV Γ (.row id off len cap) x) {lo hi : Option Opd} {LO HI : Option Value} (hl : BndOk Γ e lo LO) (hh : BndOk Γ e hi HI) {a b : Nat}
    (hb : bnd e hi len len = some b) (ha : bnd e lo 0 b = some a) :
    ∃ v, (Instr.sliceAt t x LO HI none).run P w = .ok v w ∧ (∀ c, cap = some c → RV Γ (.row id (if c = a then off else off + a * sz) (b - a) (some (c - a))) v) ∧ (a = 0 → RV Γ (.row id off b none) v) := by
  obtain ⟨e', i, hte, hi', rfl⟩ := ht.out
  obtain ⟨bb, c, hb', rfl, hlc, hcc⟩ := hx.inv_row
  obtain ⟨hbd, hab, hbl⟩ := sliceBounds_ok (P := P) (w := w) hl hh true hlc hb ha
  refine ⟨_, run_slice_any hte hi' hbd, fun k hk => ?_, fun h0 => ?_⟩
  · have := hcc k hk
    subst this
    by_cases hka : k = a
    · simp only [hka, if_true]
      exact .row hb' (by omega) (fun k' hk' => by injection hk' with hk'; omega)
    · simp only [hka, if_false, Option.map_some, addr_add]
      exact .row hb' (by omega) (fun k' hk' => by injection hk' with hk'; omega)
  · subst h0
    simp only [Nat.zero_mul, Nat.sub_zero]
    have : (if c = 0 then some (⟨bb, off, none⟩ : Addr) else Option.map (fun (x : Addr) => x.add 0) (some ⟨bb, off, none⟩)) = some ⟨bb, off, none⟩ := by split <;> simp [addr_add]
    rw [this]
    exact .row hb' (by omega) (fun k' hk' => by cases hk')
/-- A string's part. -/
theorem run_cutS {t : TypeId} (ht : P.underlying t = some .string) {e : Opd → AV} {s : ByteArray} {lo hi : Option Opd} {LO HI : Option Value} (hl : BndOk Γ e lo LO) (hh : BndOk Γ e hi HI) {a b : Nat} (hb : bnd e hi s.size s.size = some b) (ha : bnd e lo 0 b = some a) :
    (Instr.sliceAt t (.string s) LO HI none).run P w = .ok (.string (s.extract a b)) w := by
  obtain ⟨hbd, hab, hbl⟩ := sliceBounds_ok (P := P) (w := w) hl hh (len := s.size) (cap := s.size) false (Nat.le_refl _) hb ha
  simp only [Instr.sliceAt, Instr.slice, Sem.run_bind, run_underlying ht, Result.andThen_ok, Option.isSome_none, Bool.false_eq_true, if_false, Sem.run_pure, hbd]
/-- An array's part. -/
theorem run_cutA {t el : TypeId} {n sz : Nat} {i : TypeInfo} (ht : P.underlying t = some (.array n el)) (hif : P.info? el = some i) (hsz : i.size = sz) {e : Opd → AV} {id off : Nat} {x : Value} (hx : RV Γ (.ptr id off) x) {lo hi : Option Opd} {LO HI : Option Value} (hl : BndOk Γ e lo LO) (hh : BndOk Γ e hi HI) {a b : Nat}
    (hb : bnd e hi n n = some b) (ha : bnd e lo 0 b = some a) : ∃ v, (Instr.sliceAt t x LO HI none).run P w = .ok v w ∧ RV Γ (.row id (if n = a then off else off + a * sz) (b - a) (some (n - a))) v := by
  subst hsz
  obtain ⟨bb, hb', rfl⟩ := hx.inv_ptr
  obtain ⟨hbd, hab, hbl⟩ := sliceBounds_ok (P := P) (w := w) hl hh (len := n) (cap := n) false (Nat.le_refl _) hb ha
  refine ⟨.slice (some (if n = a then ⟨bb, off, none⟩ else (⟨bb, off, none⟩ : Addr).add (a * i.size))) (b - a) (n - a), by simp only [Instr.sliceAt, Sem.run_bind, run_underlying ht, Result.andThen_ok, Instr.sureAddr, Sem.run_pure, hbd, run_sizeOf' hif], ?_⟩
  by_cases hna : n = a
  · rw [if_pos hna, if_pos hna]; exact .row hb' (by omega) (fun k' hk' => by injection hk' with hk'; omega)
  · rw [if_neg hna, if_neg hna, addr_add]; exact .row hb' (by omega) (fun k' hk' => by injection hk' with hk'; omega)

/-! an index -/
theorem run_iaL {t : TypeId} {sz : Nat} (ht : SlAt P t sz) {rows : List (List AV)} {sz' : Nat} (hszz : sz' = sz) {tok : Tok} {x : Value} (hx : RV Γ (.list sz' rows tok) x) {k : IntKind} {i : Int} (h0 : 0 ≤ i) {r : List AV} (hr : rows[i.toNat]? = some r) :
    ∃ v, (Instr.indexAt t x (.int k i)).run P w = .ok v w ∧ RV Γ (.lptr r 0) v := by
  subst hszz
  obtain ⟨e', inf, hte, hi', rfl⟩ := ht.out
  obtain ⟨hlt, rfl⟩ := List.getElem?_eq_some_iff.1 hr
  rcases hx.inv_list with ⟨base, rfl, rfl, _⟩ | ⟨bb, o, c, us, rfl, hc, hrsz, hcs, hul, hF, hto⟩
  · simp at hlt
  · refine ⟨.pointer (some ⟨bb, o + i.toNat * inf.size, none⟩), ?_, ?_⟩
    · have : i < rows.length := by omega
      simp [Instr.indexAt, asIntOf, run_underlying hte, h0, this, run_sizeOf' hi', addr_add]
    · have hrl := hrsz _ (List.getElem_mem hlt)
      have key : ∀ j, j < rows[i.toNat].length → i.toNat * inf.size + j < us.length := fun j hj => by rw [hul]; exact lt_rows hlt (by rw [← hrl]; exact hj)
      have := RV.lptr (Γ := Γ) (cells := rows[i.toNat]) (off := 0) (b := bb) (o := o + i.toNat * inf.size) (u := fun j => us.getD (i.toNat * inf.size + j) undef) (fun j hj => by
        have hk := key j hj
        rw [Nat.add_assoc, hF _ hk]; simp [hk]) (fun j hj => by
        have hk := key j hj
        simpa [hk] using hcs.one _ (List.getElem_mem hk)) (fun j hj => by
        have hk := key j hj
        obtain ⟨hk2, he⟩ := List.getElem?_eq_some_iff.1 (flat_at hrsz i.toNat hlt j hj)
        have := hcs.at_ _ hk2 hk
        rw [he] at this
        simpa [hk] using this)
      simpa using this
theorem run_iaR {t : TypeId} {sz : Nat} (ht : SlAt P t sz) {id off len : Nat} {cap : Option Nat} {x : Value} (hx : RV Γ (.row id off len cap) x) {k : IntKind} {i : Int} (h0 : 0 ≤ i) (h1 : i < len) :
    ∃ v, (Instr.indexAt t x (.int k i)).run P w = .ok v w ∧ RV Γ (.ptr id (off + i.toNat * sz)) v := by
  obtain ⟨e', inf, hte, hi', rfl⟩ := ht.out
  obtain ⟨bb, c, hb', rfl, hlc, hcc⟩ := hx.inv_row
  exact ⟨.pointer (some ⟨bb, off + i.toNat * inf.size, none⟩), by simp [Instr.indexAt, asIntOf, run_underlying hte, h0, h1, run_sizeOf' hi', addr_add], .ptr hb'⟩
theorem run_iaA {t el : TypeId} {n sz : Nat} {inf : TypeInfo} (ht : P.underlying t = some (.array n el)) (hi : P.info? el = some inf) (hsz : inf.size = sz) {x : Value} {a : Addr} (hx : x = .pointer (some a)) {k : IntKind} {i : Int} (h0 : 0 ≤ i) (h1 : i < n) :
    (Instr.indexAt t x (.int k i)).run P w = .ok (.pointer (some (a.add (i.toNat * sz)))) w := by
  subst hsz; subst hx
  simp [Instr.indexAt, asIntOf, run_underlying ht, Instr.sureAddr, h0, h1, run_sizeOf' hi]
theorem run_ixS {t : TypeId} (ht : P.underlying t = some .string) {s : ByteArray} {k : IntKind} {i : Int} (h0 : 0 ≤ i) {b : UInt8} (hb : s.data[i.toNat]? = some b) : (Instr.index t (.string s) (.int k i)).run P w = .ok (.int .u8 b.toNat) w := by
  have hb' : s[i.toNat]? = some b := by
    obtain ⟨hlt, rfl⟩ := Array.getElem?_eq_some_iff.1 hb
    have h2 : i.toNat < s.size := hlt
    rw [getElem?_pos s i.toNat h2]; rfl
  simp [Instr.index, asIntOf, run_underlying ht, h0, hb']
theorem run_ixA {t el : TypeId} {n : Nat} {s : Option Nat} {inf : TypeInfo} (ht : P.underlying t = some (.array n el)) (hi : P.info? el = some inf) (hag : aggSz P el = some s) {cs : List AV} {vs : Array Value} (hs : vs.size = cs.length) (h1 : ∀ (i : Nat) (h : i < vs.size), vs[i].oneCell' = true)
    (hr : ∀ (i : Nat) (h : i < cs.length) (h' : i < vs.size), RV Γ cs[i] vs[i]) {k : IntKind} {i : Int} (h0 : 0 ≤ i) (hn : i < n) {a : AV} (ha : rd cs (i.toNat * inf.size) s = some a) : ∃ x, (Instr.index t (.agg vs) (.int k i)).run P w = .ok x w ∧ RV Γ a x := by
  obtain ⟨x, hx, hv⟩ := run_part (P := P) (w := w) hag hs h1 hr ha
  exact ⟨x, by simp [Instr.index, asIntOf, run_underlying ht, h0, hn, run_sizeOf' hi, hx], hv⟩
end
end Go.Abs
/- A program logic over abstract states, 9: literals, structs, rows of bytes. -/
namespace Go.Abs
open Go Go.RowKit
set_option linter.unusedVariables false
set_option linter.unusedSimpArgs false

section
variable {P : Program} {w0 : World} {Γ : Con} {h : AH} {w : World}

theorem Cells.wr {z as : List AV} {zs : Array Value} {xs : List Value} {off : Nat} (hz : Cells Γ z zs.toList) (ha : Cells Γ as xs) (hle : off + as.length ≤ z.length) : Cells Γ (wrL z off as) (wrA zs off xs).toList := by
  have hzl := hz.len; have hal := ha.len
  simp only [Array.length_toList] at hzl
  have key : ∀ (i : Nat) (hi : i < (wrL z off as).length) (hi' : i < (wrA zs off xs).size), RV Γ (wrL z off as)[i] (wrA zs off xs)[i] ∧ (wrA zs off xs)[i].oneCell' = true := by
    intro i hi hi'
    have hi1 : i < z.length := by rwa [wrL_length] at hi
    have hi2 : i < zs.size := by rwa [wrA_size] at hi'
    have eL := wrL_at as z off i
    have eA := wrA_at xs zs off i
    rw [List.getElem?_eq_getElem hi] at eL
    rw [Array.getElem?_eq_getElem hi'] at eA
    by_cases hin : off ≤ i ∧ i < off + as.length
    · rw [if_pos (by omega), List.getElem?_eq_getElem (by omega)] at eL
      rw [if_pos (by omega), List.getElem?_eq_getElem (by omega)] at eA
      injection eL with eL
      injection eA with eA
      rw [eL, eA]
      exact ⟨ha.at_ (i - off) (by omega) (by omega), ha.one _ (List.getElem_mem _)⟩
    · rw [if_neg (by omega), List.getElem?_eq_getElem hi1] at eL
      rw [if_neg (by omega), Array.getElem?_eq_getElem hi2] at eA
      injection eL with eL
      injection eA with eA
      rw [eL, eA]
      have := hz.at_ i hi1 (by simpa using hi2)
      rw [Array.getElem_toList] at this
      exact ⟨this, hz.one _ (by simp)⟩
  refine ⟨by simp [wrL_length, wrA_size, hzl], fun i hi hi' => ?_, fun x hx => ?_⟩
  · rw [Array.getElem_toList]; exact (key i hi (by simpa using hi')).1
  · obtain ⟨i, hi, rfl⟩ := List.getElem_of_mem hx
    rw [Array.getElem_toList]
    have hi2 : i < (wrA zs off xs).size := by simpa using hi
    exact (key i (by rw [wrL_length]; rw [wrA_size] at hi2; omega) hi2).2

theorem fold_wrA (off : Nat) : ∀ (l : List Value) (k : Nat) (cells : Array Value), (l.zipIdx k).foldl (fun cs p => cs.setIfInBounds (off + p.2) p.1) cells = wrA cells (off + k) l
  | [], _, _ => rfl
  | x :: l, k, cells => by
    rw [List.zipIdx_cons, List.foldl_cons, fold_wrA off l (k + 1), wrA, Nat.add_assoc]

inductive Parts (Γ : Con) (place : Nat → Option (Nat × Nat)) : List (Nat × Nat × AV) → List (Nat × Value) → Prop
  | nil : Parts Γ place [] []
  | cons {off size i : Nat} {a : AV} {v : Value} {ps : List (Nat × Nat × AV)} {vs : List (Nat × Value)} (hp : place i = some (off, size)) (hv : RV Γ a v) (hr : Parts Γ place ps vs) : Parts Γ place ((off, size, a) :: ps) ((i, v) :: vs)
theorem fill_sound {place : Nat → Option (Nat × Nat)} {ps : List (Nat × Nat × AV)} {vs : List (Nat × Value)} (hp : Parts Γ place ps vs) : ∀ {z cs : List AV} {zc : Array Value}, fillA z ps = some cs → Cells Γ z zc.toList → ∃ cc, Instr.fill place zc vs = some cc ∧ Cells Γ cs cc.toList := by
  induction hp with
  | nil =>
    intro z cs zc hf hz
    simp only [fillA, Option.some.injEq] at hf
    subst hf
    exact ⟨zc, rfl, hz⟩
  | @cons off size i a v ps vs hpl hv _ ih =>
    intro z cs zc hf hz
    simp only [fillA] at hf
    split at hf
    · rename_i as has
      split at hf
      · rename_i hc
        have hcl := scells_sound has hv
        have hlen : v.cells.size = as.length := by have := hcl.len; simpa using this
        have hzl := hz.len
        simp only [Array.length_toList] at hzl
        have hw := hz.wr hcl (off := off) (by omega)
        obtain ⟨cc, h1, h2⟩ := ih hf hw
        refine ⟨cc, ?_, h2⟩
        simp only [Instr.fill, hpl]
        have e1 : (v.cells.size ≠ size || off + v.cells.size > zc.size) = false := by
          rw [hlen, hc.1]
          simp; omega
        rw [e1]
        simp only [Bool.false_eq_true, if_false]
        have e2 : v.cells.zipIdx.foldl (fun cs (c, j) => cs.setIfInBounds (off + j) c) zc = wrA zc off v.cells.toList := by
          rw [← Array.foldl_toList, Array.toList_zipIdx]
          exact fold_wrA off v.cells.toList 0 zc
        rw [e2]
        exact h1
      · cases hf
    · cases hf

def zeroA : List Nat → List Value → List AV
  | szs, .slice none 0 0 :: xs => .list (szs.headD 0) [] .full :: zeroA szs.tail xs
  | szs, x :: xs => .v x :: zeroA szs.tail xs
  | _, [] => []
theorem zeroA_sound : ∀ (szs : List Nat) (xs : List Value), xs.all (·.oneCell') = true → Cells Γ (zeroA szs xs) xs
  | szs, [], _ => ⟨by cases szs <;> rfl, fun i hi => by cases szs <;> simp [zeroA] at hi, fun x hx => by cases hx⟩
  | szs, x :: xs, h => by
    simp only [List.all_cons, Bool.and_eq_true] at h
    have ih := zeroA_sound szs.tail xs h.2
    have one : ∀ a : AV, RV Γ a x → Cells Γ (a :: zeroA szs.tail xs) (x :: xs) := fun a ha =>
      ⟨by simp [ih.len], fun i hi hi' => by
        cases i with
        | zero => exact ha
        | succ i => exact ih.at_ i (by simpa using hi) (by simpa using hi'), fun y hy => by
        rcases List.mem_cons.1 hy with rfl | hy
        · exact h.1
        · exact ih.one y hy⟩
    unfold zeroA
    split
    · rename_i e; injection e with e1 e2; subst e1; subst e2; exact one _ .nilf
    · rename_i e; injection e with e1 e2; subst e1; subst e2; exact one _ (.v _)
    · rename_i e; cases e

/-- Cells of a new block, all of them free. -/
theorem objAt_cells {cs : List AV} {vs : Array Value} {e : TypeId} {w' : World} {b : Nat} (hb : w'.heap[b]? = some (.cells vs e)) (hc : Cells Γ cs vs.toList) : ObjAt Γ w' b (.cells cs) := by
  have hl := hc.len
  simp only [Array.length_toList] at hl
  refine ⟨vs, e, (0, 0), hb, by omega, fun i hi hi' => ⟨?_, hc.one _ (by simp), by simp [free]⟩⟩
  have := hc.at_ i hi (by simpa using hi')
  rwa [Array.getElem_toList] at this

/-- A literal's cells. -/
theorem litCells {z : List AV} {zc : Array Value} (hz : Cells Γ z zc.toList) (n : Nat) : Cells Γ ((List.replicate n z).flatten) ((Array.range (n * zc.size)).map (zc[· % zc.size]!)).toList := by
  have hzl := hz.len
  simp only [Array.length_toList] at hzl
  have hall : ∀ r ∈ List.replicate n z, r.length = z.length := fun r hr => by rw [List.eq_of_mem_replicate hr]
  have hfl := flat_len hall
  rw [List.length_replicate] at hfl
  refine ⟨by simp [hfl, hzl], fun k hk hk' => ?_, fun x hx => ?_⟩
  · rw [hfl] at hk
    have hz0 : 0 < z.length := Nat.pos_of_ne_zero (by intro e; rw [e] at hk; simp at hk)
    have hq : k / z.length < (List.replicate n z).length := by rw [List.length_replicate, Nat.div_lt_iff_lt_mul hz0]; exact hk
    have hm : k % z.length < z.length := Nat.mod_lt _ hz0
    have hfa := flat_at hall (k / z.length) hq (k % z.length) (by rw [List.getElem_replicate]; exact hm)
    rw [show k / z.length * z.length + k % z.length = k by rw [Nat.mul_comm]; exact Nat.div_add_mod k _] at hfa
    obtain ⟨hk2, he⟩ := List.getElem?_eq_some_iff.1 hfa
    rw [he]
    simp only [Array.getElem_toList, Array.getElem_map, Array.getElem_range, List.getElem_replicate]
    have hm2 : k % zc.size < zc.size := by rw [← hzl] at hm; exact hm
    rw [getElem!_pos zc _ hm2]
    have := hz.at_ (k % z.length) hm (by simpa [hzl] using hm)
    rw [Array.getElem_toList] at this
    have e : k % zc.size = k % z.length := by rw [hzl]
    simp only [e]
    exact this
  · simp only [Array.toList_map, List.mem_map] at hx
    obtain ⟨k, hk, rfl⟩ := hx
    simp at hk
    have hz0 : 0 < zc.size := Nat.pos_of_ne_zero (by intro e; rw [e] at hk; simp at hk)
    have hm2 : k % zc.size < zc.size := Nat.mod_lt _ hz0
    rw [getElem!_pos zc _ hm2]
    exact hz.one _ (by simp)
end
end Go.Abs
/- A program logic over abstract states, 10: bytes of strings, rows made, maps, letters of strings. -/
namespace Go.Abs
open Go Go.RowKit
set_option linter.unusedVariables false
set_option linter.unusedSimpArgs false

section
variable {P : Program} {w0 : World} {Γ : Con} {h : AH} {w : World}

/-! '[]byte(s)' -/
theorem bytesWorld_eq (w : World) (e : TypeId) (s : ByteArray) : Lib.bytesWorld w e s = w.drew.alloc (.cells (Lib.bytesCells w e s) e ((Lib.bytesCells w e s).size, (Lib.bytesCells w e s).size + 1)) := by
  have hh : (Lib.bytesWorld w e s).heap = (w.drew.alloc (.cells (Lib.bytesCells w e s) e ((Lib.bytesCells w e s).size, (Lib.bytesCells w e s).size + 1))).heap := by
    apply Array.ext_getElem?
    intro k
    by_cases hk : k < w.heap.size
    · rw [Lib.bytesWorld_at_old w e s k hk, heap_alloc_old _ _ k (by simpa using hk)]; rfl
    · by_cases hk2 : k = w.heap.size
      · subst hk2
        rw [Lib.bytesWorld_at_new]
        exact (heap_alloc_new w.drew _).symm
      · rw [Array.getElem?_eq_none (by rw [Lib.bytesWorld_size]; omega), Array.getElem?_eq_none (by simp; omega)]
  have : ∀ a b : World, a.heap = b.heap → a.tape = b.tape → a.drawn = b.drawn → a.os = b.os → a.output = b.output → a = b := by
    intro a b h1 h2 h3 h4 h5; cases a; cases b; simp_all
  refine this _ _ hh ?_ ?_ ?_ ?_ <;> (simp only [Lib.bytesWorld, World.freeze]; split <;> rfl)
theorem bytesCells_at (w : World) (e : TypeId) (s : ByteArray) (i : Nat) (hi : i < s.size) : (Lib.bytesCells w e s)[i]? = some (.int .u8 (s.data.toList[i]'(by simpa using hi)).toNat) := by
  unfold Lib.bytesCells
  rw [Array.getElem?_append_left (by simpa using hi)]
  simp [hi]
theorem bytesCells_size (w : World) (e : TypeId) (s : ByteArray) : s.size ≤ (Lib.bytesCells w e s).size := by
  simp [Lib.bytesCells]
theorem run_s2b {src dst e : TypeId} {u : TypeDesc} (hs : P.underlying src = some u) (hd : P.underlying dst = some (.slice e)) (he : P.underlying e = some (.int .u8)) (H : WR w0 Γ h w) (s : ByteArray) :
    ∃ v w', (convert src dst (.string s)).run P w = .ok v w' ∧
      (∃ Γ', Γ.le Γ' ∧ RV Γ' (.row h.n 0 s.size none) v ∧ WR w0 Γ' (h.alloc (.cells (s.data.toList.map fun b => .v (.int .u8 b.toNat)))) w') ∧
      (∃ Γ', Γ.le Γ' ∧ RV Γ' (.list 1 (byteRows s) .no) v ∧ WR w0 Γ' h w') := by
  refine ⟨_, _, Lib.run_convert_string_bytes w src dst e s hs hd he, ?_, ?_⟩
  · rw [bytesWorld_eq]
    refine ⟨_, H.drew.le_obj _, .row (by simp [Con.withObj]) (grownCap_ge w _ _ _) (fun k hk => by cases hk), H.drew.new _ _ (fun w' hw' => ⟨_, _, _, hw', by simpa using bytesCells_size w e s, fun i hi hi' => ?_⟩)⟩
    have hi2 : i < s.size := by simpa using hi
    have := bytesCells_at w e s i hi2
    rw [Array.getElem?_eq_getElem hi'] at this
    injection this with this
    rw [this]
    exact ⟨by simp only [List.getElem_map]; exact .v _, rfl, by simp only [free]; omega⟩
  · rw [bytesWorld_eq]
    obtain ⟨HW, hle⟩ := H.drew.row (Lib.bytesCells w e s) e ((Lib.bytesCells w e s).size, (Lib.bytesCells w e s).size + 1) s.size
    refine ⟨_, hle, ?_, HW⟩
    have := RV.mk_list (Γ := Γ.withRow w.drew.heap.size fun o => if o < s.size then (Lib.bytesCells w e s)[o]? else none) (sz := 1) (rows := byteRows s) (tok := .no) (b := w.heap.size) (o := 0) (c := grownCap w s.size 0 e)
      (us := s.data.toList.map fun b => .int .u8 b.toNat) (by rw [byteRows_len]; exact grownCap_ge w _ _ _) (byteRows_row s) (by rw [byteRows_flat]; exact Cells_bytes _) (fun k hk => by
        have hk2 : k < s.size := by simpa using hk
        simp only [Con.withRow, World.size_drew, if_true, Nat.zero_add]
        rw [if_pos hk2, bytesCells_at w e s k hk2]
        simp) trivial
    rwa [byteRows_len] at this

/-! 'string(b)' -/
theorem bytes_nums : ∀ {cs : List AV} {l : List UInt8} {us : List Value}, bytesOfCells cs = some l → Cells Γ cs us → ∃ ns : List Int, us = ns.map (Value.int .u8) ∧ ns.map (fun n => UInt8.ofNat n.toNat) = l
  | [], l, us, hb, hc => by
    simp only [bytesOfCells, Option.some.injEq] at hb
    have : us = [] := List.eq_nil_of_length_eq_zero (by simpa using hc.len)
    exact ⟨[], by simp [this], by simp [hb]⟩
  | a :: cs, l, us, hb, hc => by
    unfold bytesOfCells at hb
    split at hb
    · cases ‹_ :: _ = []›
    · rename_i n r e
      injection e with e1 e2
      subst e1; subst e2
      simp only [Option.map_eq_some_iff] at hb
      obtain ⟨l', hl', rfl⟩ := hb
      cases us with
      | nil => have := hc.len; simp at this
      | cons u us =>
        have h0 := (hc.at_ 0 (by simp) (by simp)).inv_v
        simp only [List.getElem_cons_zero] at h0
        have hc' : Cells Γ cs us := ⟨by have := hc.len; simpa using this, fun i hi hi' => hc.at_ (i + 1) (by simpa using hi) (by simpa using hi'), fun x hx => hc.one x (by simp [hx])⟩
        obtain ⟨ns, h1, h2⟩ := bytes_nums hl' hc'
        exact ⟨n :: ns, by simp [h0, h1], by simp [h2]⟩
    · cases hb
theorem fold_push : ∀ (ns : List Int) (s : ByteArray), ns.foldl (fun r n => r.push (UInt8.ofNat n.toNat)) s = ⟨s.data ++ (ns.map fun n => UInt8.ofNat n.toNat).toArray⟩
  | [], s => by apply ByteArray.ext; simp
  | n :: ns, s => by
    rw [List.foldl_cons, fold_push ns]
    apply ByteArray.ext
    simp [ByteArray.push]
theorem run_b2s {src dst e : TypeId} (hs : P.underlying src = some (.slice e)) (he : P.underlying e = some (.int .u8)) (hd : P.underlying dst = some .string) (H : WR w0 Γ h w) {A : AV} {x : Value} (hx : RV Γ A x) {rows : List (List AV)} (hr : srcRows 1 h A = some rows)
    (hsl : ∃ b n c, x = .slice b n c) {l : List UInt8} (hl : bytesOfCells rows.flatten = some l) : (convert src dst x).run P w = .ok (.string ⟨l.toArray⟩) w := by
  obtain ⟨us, hly, hfn, hcs, hul, hrsz, _⟩ := srcRows_sound (P := P) H hr hx
  obtain ⟨ns, rfl, rfl⟩ := bytes_nums hl hcs
  obtain ⟨b, n, c, rfl⟩ := hsl
  rw [run_convert_bytes_string w src dst e b n c hs he hd]
  simp only [Builtin.lenOf, Sem.run_pure, Result.ok.injEq, and_true] at hly
  subst hly
  have hf := hfn w (fun a v hv => hv)
  cases b with
  | none =>
    simp only [Builtin.firstCells, Sem.run_pure, Result.ok.injEq, and_true] at hf
    have : ns = [] := by
      have := congrArg Array.size hf
      simp at this
      exact List.eq_nil_of_length_eq_zero this.symm
    subst this
    simp [Conv.bytesToString]; rfl
  | some a =>
    simp only [Builtin.firstCells, Nat.mul_one] at hf
    rw [run_bytesToString w a rows.length c ns hf, fold_push]
    simp

/-! 'make([]T, n)' -/
theorem run_mks {t e : TypeId} {i : TypeInfo} {z : Value} (ht : P.underlying t = some (.slice e)) (hi : P.info? e = some i) (hz : i.zero = some z) (hzs : z.cells.size = i.size) (hz1 : z.cells.toList.all (·.oneCell') = true) (szs : List Nat) (H : WR w0 Γ h w) {l c : Int}
    (h0 : 0 ≤ l) (hlc : l ≤ c) (hb : c * i.bytes ≤ 140737488355328) (h63 : c ≤ 9223372036854775807) :
    ∃ v w' Γ', (Instr.makeSlice t (.int .i64 l) (.int .i64 c)).run P w = .ok v w' ∧ Γ.le Γ' ∧ RV Γ' (.row h.n 0 l.toNat (some c.toNat)) v ∧ WR w0 Γ' (h.alloc (.cells ((List.replicate c.toNat (zeroA szs z.cells.toList)).flatten))) w' := by
  have hrun := run_make (P := P) w t e i z ht hi hz .i64 .i64 l c h0 hlc (by rw [Int.mul_comm]; omega) h63
  refine ⟨_, _, _, hrun, H.le_obj _, .row (by simp [Con.withObj]) (by omega) (fun k hk => by injection hk with hk; exact hk.symm), H.new _ _ (fun w' hw' => objAt_cells hw' ?_)⟩
  have hzc := zeroA_sound (Γ := Γ.withObj h.n w.heap.size) szs z.cells.toList hz1
  have := litCells hzc c.toNat
  unfold madeCells
  rw [← hzs]
  exact this

/-! maps -/
theorem checkKey_plain {t : TypeId} {ck : CK} (ht : ckOf P t = some ck) (b : Bool) (d : Nat) (x : Value) (w : World) : (Instr.checkKey b (d + 1) t x).run P w = .ok () w := by
  unfold ckOf at ht
  unfold Instr.checkKey
  split at ht <;> simp at ht <;> (rename_i hu; rw [Sem.run_bind, run_underlying hu]; simp only [Result.andThen_ok]; cases x <;> rfl)
def descOk : TypeDesc → CK → Prop
  | .int _, .int => True
  | .string, .str => True
  | .bool, .bool => True
  | _, _ => False
theorem sameNow_key {d : TypeDesc} {ck : CK} (hd : descOk d ck) {k k' : Value} {b : Bool} (hs : sameKey ck k k' = some b) : Instr.sameNow d k k' = some b := by
  unfold sameKey at hs
  split at hs
  · cases d <;> simp only [descOk] at hd
    simp only [Instr.sameNow]; exact hs
  · cases d <;> simp only [descOk] at hd
    simp only [Instr.sameNow]; exact hs
  · cases d <;> simp only [descOk] at hd
    simp only [Instr.sameNow]; exact hs
  · cases hs
structure MapAt (Γ : Con) (es : List (Value × AV)) (ms : List MapEntry) : Prop where
  len : ms.length = es.length
  at_ : ∀ (i : Nat) (h : i < es.length) (h' : i < ms.length), ms[i].key = es[i].1 ∧ RV Γ es[i].2 ms[i].val
theorem findNow_sound {d : TypeDesc} {ck : CK} (hd : descOk d ck) {k : Value} :
    ∀ (es : List (Value × AV)) (ms : List MapEntry) (i : Nat) (r : Option (Nat × AV)), MapAt Γ es ms → findK ck k es i = some r →
      match r with
      | none => Instr.findNow d k ms i = some none
      | some (j, a) => ∃ v, Instr.findNow d k ms i = some (some (j, v)) ∧ RV Γ a v ∧ i ≤ j ∧ j - i < es.length ∧ ∃ h : j - i < ms.length, sameKey ck k ms[j - i].key = some true
  | [], ms, i, r, hm, hf => by
    simp only [findK, Option.some.injEq] at hf
    subst hf
    have : ms = [] := List.eq_nil_of_length_eq_zero (by simpa using hm.len)
    subst this; rfl
  | e :: es, ms, i, r, hm, hf => by
    cases ms with
    | nil => have := hm.len; simp at this
    | cons m ms =>
      have h0 := hm.at_ 0 (by simp) (by simp)
      simp only [List.getElem_cons_zero] at h0
      have hm' : MapAt Γ es ms := ⟨by have := hm.len; simpa using this, fun i hi hi' => hm.at_ (i + 1) (by simpa using hi) (by simpa using hi')⟩
      simp only [findK] at hf
      split at hf
      · rename_i hs
        injection hf with hf
        subst hf
        have hsn := sameNow_key hd hs
        refine ⟨m.val, ?_, h0.2, Nat.le_refl _, by simp, by simp, ?_⟩
        · simp only [Instr.findNow, h0.1, hsn]
        · simp only [Nat.sub_self, List.getElem_cons_zero, h0.1]; exact hs
      · rename_i hs
        have hsn := sameNow_key hd hs
        have ih := findNow_sound hd es ms (i + 1) r hm' hf
        have e1 : Instr.findNow d k (m :: ms) i = Instr.findNow d k ms (i + 1) := by simp only [Instr.findNow, h0.1, hsn]
        cases r with
        | none => simp only at ih ⊢; rw [e1]; exact ih
        | some ja =>
          obtain ⟨j, a⟩ := ja
          simp only at ih ⊢
          obtain ⟨v, g1, g2, g3, g4, g5, g6⟩ := ih
          refine ⟨v, by rw [e1]; exact g1, g2, by omega, by simp; omega, by simp; omega, ?_⟩
          have e2 : j - i = j - (i + 1) + 1 := by omega
          simp only [e2, List.getElem_cons_succ]
          exact g6
      · cases hf
theorem ckOf_desc {t : TypeId} {ck : CK} (ht : ckOf P t = some ck) : ∃ d, P.underlying t = some d ∧ descOk d ck := by
  unfold ckOf at ht
  split at ht <;> simp at ht <;> (subst ht; rename_i hu; exact ⟨_, hu, trivial⟩)
theorem run_findKey' {t : TypeId} {ck : CK} (ht : ckOf P t = some ck) {k : Value} {es : List (Value × AV)} {ms : List MapEntry} (hm : MapAt Γ es ms) {r : Option (Nat × AV)} (hf : findK ck k es 0 = some r) (w : World) :
    match r with
    | none => (Instr.findKey t k ms).run P w = .ok none w
    | some (j, a) => ∃ v, (Instr.findKey t k ms).run P w = .ok (some (j, v)) w ∧ RV Γ a v ∧ j < es.length ∧ ∃ h : j < ms.length, sameKey ck k ms[j].key = some true := by
  obtain ⟨d, hd, hm'⟩ := ckOf_desc ht
  have := findNow_sound hm' es ms 0 r hm hf
  cases r with
  | none => simp only at this ⊢; simp only [Instr.findKey, Sem.run_bind, run_underlying hd, Result.andThen_ok, this, Sem.run_pure]
  | some ja =>
    obtain ⟨j, a⟩ := ja
    simp only at this ⊢
    obtain ⟨v, g1, g2, _, g4, g5, g6⟩ := this
    exact ⟨v, by simp only [Instr.findKey, Sem.run_bind, run_underlying hd, Result.andThen_ok, g1, Sem.run_pure], g2, by simpa using g4, by simpa using g5, by simpa using g6⟩
theorem WR.mapAt (H : WR w0 Γ h w) {id b : Nat} {es : List (Value × AV)} (ho : h.objs id = some (.map es)) (hb : Γ.rho id = some b) : ∃ ms clock, w.heap[b]? = some (.map ms clock) ∧ MapAt Γ es ms.toList := by
  obtain ⟨b', hb', _, ⟨ms, clock, hh, hl, hc⟩, _⟩ := H.obj ho
  obtain rfl : b = b' := by rw [hb] at hb'; injection hb'
  exact ⟨ms, clock, hh, by simpa using hl, fun i hi hi' => by rw [Array.getElem_toList]; exact hc i hi (by simpa using hi')⟩
theorem run_getMap {b : Nat} {ms : Array MapEntry} {clock : Nat} (hb : w.heap[b]? = some (.map ms clock)) : (getObj b).run P w = .ok (.map ms clock) w := by
  simp [getObj, Sem.run, hb]
theorem run_setMap {b : Nat} {ms : Array MapEntry} {clock : Nat} (hb : w.heap[b]? = some (.map ms clock)) (o : Obj) : (setObj b o).run P w = .ok () (putBlk w b o) := by
  simp [setObj, Sem.run, hb]; rfl
theorem objAt_map {es : List (Value × AV)} {ms : Array MapEntry} {clock : Nat} {w' : World} {b : Nat} (hb : w'.heap[b]? = some (.map ms clock)) (hm : MapAt Γ es ms.toList) : ObjAt Γ w' b (.map es) :=
  ⟨ms, clock, hb, by simpa using hm.len, fun i hi hi' => by have := hm.at_ i hi (by simpa using hi'); rwa [Array.getElem_toList] at this⟩

theorem run_look {mt kt et : TypeId} {ck : CK} {inf : TypeInfo} {zv : Value} (ht : P.underlying mt = some (.map kt et)) (hk : ckOf P kt = some ck) (hi : P.info? et = some inf) (hz : inf.zero = some zv) {z : AV} (hzv : ∀ Γ : Con, RV Γ z zv) (ok : Bool) (H : WR w0 Γ h w) {x : AV} {X k : Value}
    (hx : RV Γ x X) {a : AV} (hs : lookA h ck z ok k x = some a) : ∃ v, (Instr.lookup mt X k ok).run P w = .ok v w ∧ RV Γ a v := by
  have hzr : (zeroValue et).run P w = .ok zv w := by simp [zeroValue, typeInfo, hi, hz]
  have fin : ∀ {v' : Value} {a' : AV} (b : Bool), RV Γ a' v' → a = (if ok then .tup [a', .v (.bool b)] else a') → RV Γ a (if ok then .tuple #[v', .bool b] else v') := by
    intro v' a' b hv ha
    subst ha
    cases ok
    · exact hv
    · refine .tup rfl (fun i hi hi' => ?_)
      match i, hi with
      | 0, _ => exact hv
      | 1, _ => exact .v _
  unfold lookA at hs
  split at hs
  · rename_i id
    obtain ⟨b, hb, rfl⟩ := hx.inv_mapr
    split at hs
    · rename_i es ho
      obtain ⟨ms, clock, hh, hm⟩ := H.mapAt ho hb
      have hck := checkKey_plain hk ms.isEmpty 9999 k w
      split at hs
      · rename_i j a' hf
        have := run_findKey' hk hm hf w
        simp only at this
        obtain ⟨v, g1, g2, _⟩ := this
        injection hs with hs
        refine ⟨_, ?_, fin true g2 hs.symm⟩
        simp only [Instr.lookup, Sem.run_bind, run_underlying ht, Result.andThen_ok, run_getMap hh, Sem.run_pure, show (Instr.checkKey ms.isEmpty 10000 kt k).run P w = .ok () w from hck, g1]
      · rename_i hf
        have := run_findKey' hk hm hf w
        simp only at this
        injection hs with hs
        refine ⟨_, ?_, fin false (hzv Γ) hs.symm⟩
        simp only [Instr.lookup, Sem.run_bind, run_underlying ht, Result.andThen_ok, run_getMap hh, Sem.run_pure, show (Instr.checkKey ms.isEmpty 10000 kt k).run P w = .ok () w from hck, this, hzr]
      · cases hs
    · cases hs
  · injection hs with hs
    rw [hx.inv_v]
    have hck := checkKey_plain hk true 9999 k w
    have hfk : (Instr.findKey kt k []).run P w = .ok none w := by
      obtain ⟨d, hd, _⟩ := ckOf_desc hk
      simp [Instr.findKey, run_underlying hd, Instr.findNow]
    refine ⟨_, ?_, fin false (hzv Γ) hs.symm⟩
    simp only [Instr.lookup, Sem.run_bind, run_underlying ht, Result.andThen_ok, Sem.run_pure, show (#[] : Array MapEntry).isEmpty = true from rfl, show (Instr.checkKey true 10000 kt k).run P w = .ok () w from hck, hfk, hzr]
  · cases hs
theorem sameKey_bits {ck : CK} {k k' : Value} (hs : sameKey ck k k' = some true) (d : Nat) : Instr.sameBits (d + 1) k' k = true := by
  unfold sameKey at hs
  split at hs
  · split at hs
    · rename_i hkk
      injection hs with hs
      simp only [beq_iff_eq] at hs
      subst hs; subst hkk
      simp [Instr.sameBits]
    · cases hs
  · injection hs with hs
    rw [beq_toListBytes] at hs
    simp only [beq_iff_eq] at hs
    simp [Instr.sameBits, beq_toListBytes, hs]
  · injection hs with hs
    simp only [beq_iff_eq] at hs
    subst hs
    simp [Instr.sameBits]
  · cases hs
theorem run_upd {mt kt et : TypeId} {ck : CK} (ht : P.underlying mt = some (.map kt et)) (hk : ckOf P kt = some ck) (H : WR w0 Γ h w) {id : Nat} {X k V : Value} {a : AV} (hx : RV Γ (.mapr id) X) (hv : RV Γ a V) {es : List (Value × AV)} (ho : h.objs id = some (.map es)) {h' : AH}
    (hs : updA h ck id es k a = some h') : ∃ w', (Instr.mapUpdate mt X k V).run P w = .ok () w' ∧ WR w0 Γ h' w' := by
  obtain ⟨b, hb, rfl⟩ := hx.inv_mapr
  obtain ⟨ms, clock, hh, hm⟩ := H.mapAt ho hb
  have hck := checkKey_plain hk false 9999 k w
  have hml := hm.len
  simp only [Array.length_toList] at hml
  first | unfold updA at hs | unfold delA at hs
  split at hs
  · rename_i i a' hf
    injection hs with hs
    subst hs
    have := run_findKey' hk hm hf w
    simp only at this
    obtain ⟨v, g1, _, g3, g4, g5⟩ := this
    have g4' : i < ms.size := by simpa using g4
    rw [Array.getElem_toList] at g5
    have hbits : Instr.sameBits 10000 ms[i].key k = true := sameKey_bits g5 9999
    refine ⟨_, ?_, H.turn ho hb (putBlk_chg w b (.map (ms.modify i fun e => { e with key := k, val := V }) clock)) (objAt_map (putBlk_at hh _) ?_) (fun _ _ _ h' => by rw [hh] at h'; cases h')⟩
    · simp only [Instr.mapUpdate, Sem.run_bind, run_underlying ht, Result.andThen_ok, run_getMap hh, show (Instr.checkKey false 10000 kt k).run P w = .ok () w from hck, g1, Array.getElem?_eq_getElem g4', Option.map_some, Option.getD_some, Instr.keyThatStays, hbits, if_true, Sem.run_pure, run_setMap hh]
    · refine ⟨by simp [hml], fun j hj hj' => ?_⟩
      simp only [List.length_set] at hj
      have hj2 : j < ms.size := by omega
      have hh2 := hm.at_ j hj (by simpa using hj2)
      simp only [Array.getElem_toList, Array.getElem_modify, List.getElem_set]
      rw [Array.getElem_toList] at hh2
      by_cases e : i = j
      · simp only [e, if_true]; exact ⟨trivial, hv⟩
      · simp only [e, if_false]; exact hh2
  · rename_i hf
    injection hs with hs
    subst hs
    have := run_findKey' hk hm hf w
    simp only at this
    refine ⟨_, ?_, H.turn ho hb (putBlk_chg w b (.map (ms.push { key := k, val := V, born := clock }) (clock + 1))) (objAt_map (putBlk_at hh _) ?_) (fun _ _ _ h' => by rw [hh] at h'; cases h')⟩
    · simp only [Instr.mapUpdate, Sem.run_bind, run_underlying ht, Result.andThen_ok, run_getMap hh, show (Instr.checkKey false 10000 kt k).run P w = .ok () w from hck, this, run_setMap hh]
    · refine ⟨by simp [hml], fun j hj hj' => ?_⟩
      simp only [List.length_append, List.length_singleton] at hj
      simp only [Array.toList_push]
      by_cases e : j < es.length
      · rw [List.getElem_append_left (by simpa [hml] using e), List.getElem_append_left e]
        exact hm.at_ j e (by simpa [hml] using e)
      · obtain rfl : j = es.length := by omega
        rw [List.getElem_append_right (by simp [hml]), List.getElem_append_right (by omega)]
        simp only [Array.length_toList, hml, Nat.sub_self, List.getElem_cons_zero]
        exact ⟨trivial, hv⟩
  · cases hs
theorem run_del {mt kt et ty tk : TypeId} {ck : CK} (ht : P.underlying mt = some (.map kt et)) (hk : ckOf P kt = some ck) (H : WR w0 Γ h w) {id : Nat} {X k : Value} (hx : RV Γ (.mapr id) X) {es : List (Value × AV)} (ho : h.objs id = some (.map es)) {h' : AH}
    (hs : delA h ck id es k = some h') : ∃ w', (Builtin.delete_ #[mt, tk] ty #[X, k]).run P w = .ok (.tuple #[]) w' ∧ WR w0 Γ h' w' := by
  obtain ⟨b, hb, rfl⟩ := hx.inv_mapr
  obtain ⟨ms, clock, hh, hm⟩ := H.mapAt ho hb
  have hck := checkKey_plain hk ms.isEmpty 9999 k w
  have hml := hm.len
  simp only [Array.length_toList] at hml
  first | unfold updA at hs | unfold delA at hs
  split at hs
  · rename_i i a' hf
    injection hs with hs
    subst hs
    have := run_findKey' hk hm hf w
    simp only at this
    obtain ⟨v, g1, _, g3, g4, g5⟩ := this
    have g4' : i < ms.size := by simpa using g4
    refine ⟨_, ?_, H.turn ho hb (putBlk_chg w b (.map (ms.eraseIdxIfInBounds i) clock)) (objAt_map (putBlk_at hh _) ?_) (fun _ _ _ h' => by rw [hh] at h'; cases h')⟩
    · simp only [Builtin.delete_, List.getElem?_toArray, List.getElem?_cons_zero, List.getElem?_cons_succ, Sem.run_bind, run_underlying ht, Result.andThen_ok, run_getMap hh, show (Instr.checkKey ms.isEmpty 10000 kt k).run P w = .ok () w from hck, g1, run_setMap hh, Sem.run_pure]
    · have e1 : (ms.eraseIdxIfInBounds i).toList = ms.toList.eraseIdx i := by simp [Array.eraseIdxIfInBounds, g4']
      rw [e1]
      refine ⟨by simp [List.length_eraseIdx, hml], fun j hj hj' => ?_⟩
      simp only [List.getElem_eraseIdx]
      rw [List.length_eraseIdx, if_pos g3] at hj
      by_cases e : j < i
      · simp only [e, dite_true]
        exact hm.at_ j (by omega) (by simp; omega)
      · simp only [e, dite_false]
        exact hm.at_ (j + 1) (by omega) (by simp; omega)
  · rename_i hf
    injection hs with hs
    subst hs
    have := run_findKey' hk hm hf w
    simp only at this
    have e2 : AH.set h id (.map es) = h := by
      cases h
      simp only [AH.set, AH.mk.injEq, and_true]
      funext i
      split
      · rename_i e; subst e; exact ho.symm
      · rfl
    refine ⟨_, ?_, e2 ▸ H.turn ho hb (putBlk_chg w b (.map ms clock)) (objAt_map (putBlk_at hh _) hm) (fun _ _ _ h' => by rw [hh] at h'; cases h')⟩
    simp only [Builtin.delete_, List.getElem?_toArray, List.getElem?_cons_zero, List.getElem?_cons_succ, Sem.run_bind, run_underlying ht, Result.andThen_ok, run_getMap hh, show (Instr.checkKey ms.isEmpty 10000 kt k).run P w = .ok () w from hck, this, run_setMap hh, Sem.run_pure]
  · cases hs

/-! letters of a string -/
theorem run_nxt {id : Nat} {X : Value} (H : WR w0 Γ h w) (hx : RV Γ (.ptr id 0) X) {s : ByteArray} {pos : Nat} (ho : h.objs id = some (.siter s pos)) (ty : TypeId) :
    ∃ w', (Instr.next X true ty).run P w = .ok (if pos < s.size then .tuple #[.bool true, .int .i64 pos, .int .i32 (Utf8.decode s pos).1] else .tuple #[.bool false]) w' ∧
      WR w0 Γ (if pos < s.size then h.set id (.siter s (pos + (Utf8.decode s pos).2)) else h) w' := by
  obtain ⟨b, hb, rfl⟩ := hx.inv_ptr
  obtain ⟨b', hb', _, hh, _⟩ := H.obj ho
  obtain rfl : b = b' := by rw [hb] at hb'; injection hb'
  have hg : (getObj b).run P w = .ok (.stringIter s pos) w := by
    have hh' : w.heap[b]? = some (.stringIter s pos) := hh
    simp [getObj, Sem.run, hh']
  by_cases hp : pos < s.size
  · rw [if_pos hp, if_pos hp]
    refine ⟨putBlk w b (.stringIter s (pos + (Utf8.decode s pos).2)), ?_, H.turn ho hb (putBlk_chg w b _) (putBlk_at hh _) (fun _ _ _ h' => by rw [hh] at h'; cases h')⟩
    have hset : (setObj b (.stringIter s (pos + (Utf8.decode s pos).2))).run P w = .ok () (putBlk w b (.stringIter s (pos + (Utf8.decode s pos).2))) := by
      have hh' : w.heap[b]? = some (.stringIter s pos) := hh
      simp [setObj, Sem.run, hh']; rfl
    simp only [Instr.next, Sem.run_bind, hg, Result.andThen_ok, hp, if_true, hset, Sem.run_pure]
    rfl
  · rw [if_neg hp, if_neg hp]
    refine ⟨w, ?_, H⟩
    simp only [Instr.next, Sem.run_bind, hg, Result.andThen_ok, hp, if_false, Sem.run_pure]
end
end Go.Abs
/- A program logic over abstract states, 11: the compact operation that an operation of the model comes to. -/
namespace Go.Abs
open Go Go.RowKit
set_option linter.unusedVariables false
set_option linter.unusedSimpArgs false

def c1 (P : Program) (t : TypeId) (X : Operand) (f : Opd → IOp) : Option IOp := (copd P t X).map f
def c2 (P : Program) (t : TypeId) (X : Operand) (u : TypeId) (Y : Operand) (f : Opd → Opd → IOp) : Option IOp :=
  match copd P t X, copd P u Y with
  | some x, some y => some (f x y)
  | _, _ => none
def c3 (P : Program) (t : TypeId) (X : Operand) (u : TypeId) (Y : Operand) (s : TypeId) (Z : Operand) (f : Opd → Opd → Opd → IOp) : Option IOp :=
  match copd P t X, copd P u Y, copd P s Z with
  | some x, some y, some z => some (f x y z)
  | _, _, _ => none
def copt (P : Program) : Option Operand → Option (Option Opd)
  | none => some none
  | some X => (copd P 0 X).map some
def clist (P : Program) : List Operand → Option (List Opd)
  | [] => some []
  | X :: Xs => match copd P 0 X, clist P Xs with
    | some x, some xs => some (x :: xs)
    | _, _ => none
/-- arguments, each at its type -/
def cargs (P : Program) : List TypeId → List Operand → Option (List Opd)
  | _, [] => some []
  | ts, X :: Xs => match copd P (ts.headD 0) X, cargs P ts.tail Xs with
    | some x, some xs => some (x :: xs)
    | _, _ => none
def szsOf (P : Program) : Nat → TypeId → List Nat
  | 0, _ => []
  | d + 1, t => match P.underlying t with
    | some (.struct fs) => (fs.toList.map fun f => szsOf P d f.type).flatten
    | some (.array n e) => (List.replicate n (szsOf P d e)).flatten
    | some (.slice e) => [P.cellsOf e]
    | _ => [0]
def zeroOf (P : Program) (t : TypeId) : Option (List AV) :=
  match P.info? t with
  | some i => match i.zero with
    | some z => if z.cells.toList.all (·.oneCell') then some (zeroA (szsOf P 20 t) z.cells.toList) else none
    | none => none
  | none => none
/-- The zero value of a type, whole. -/
def zeroV (P : Program) (t : TypeId) : Option AV :=
  match P.info? t with
  | some i => match i.zero with
    | some (.agg cs) => if cs.toList.all (·.oneCell') then some (.agg (zeroA (szsOf P 20 t) cs.toList)) else none
    | some (.slice none 0 0) => some (.list (elSz P t) [] .full)
    | some z => some (.v z)
    | none => none
  | none => none
def cpartsS (P : Program) (fs : Array Field) : List (Nat × Operand) → Option (List (Nat × Nat × Opd))
  | [] => some []
  | (i, X) :: r => match fs[i]? with
    | some f => match P.info? f.type, copd P f.type X, cpartsS P fs r with
      | some inf, some x, some ps => some ((f.offset, inf.size, x) :: ps)
      | _, _, _ => none
    | none => none
def cpartsA (P : Program) (e : TypeId) (sz : Nat) : List (Nat × Operand) → Option (List (Nat × Nat × Opd))
  | [] => some []
  | (i, X) :: r => match copd P e X, cpartsA P e sz r with
    | some x, some ps => some ((i * sz, sz, x) :: ps)
    | _, _ => none
def cpartsL (P : Program) (e : TypeId) : List (Nat × Operand) → Option (List (Nat × Opd))
  | [] => some []
  | (i, X) :: r => match copd P e X, cpartsL P e r with
    | some x, some ps => some ((i, x) :: ps)
    | _, _ => none
def isU8 (P : Program) (t : TypeId) : Bool := match P.underlying t with | some (.int .u8) => true | _ => false

def compCall (P : Program) (c : Call) : Option IOp :=
  match c.callee with
  | .builtin .len => match c.args.toList, c.argTypes.toList with
    | [X], [t] => match P.underlying t with
      | some .string => c1 P t X (.len .str)
      | some (.slice _) => c1 P t X (.len .sl)
      | some (.map _ _) => c1 P t X (.len .map)
      | _ => none
    | _, _ => none
  | .builtin .cap => match c.args.toList, c.argTypes.toList with
    | [X], [t] => match P.underlying t with
      | some (.slice _) => c1 P t X .cap
      | _ => none
    | _, _ => none
  | .builtin .append => match c.args.toList, c.argTypes.toList with
    | [X, Y], [t, u] => match P.underlying t, P.underlying u with
      | some (.slice e), some (.slice _) | some (.slice e), some .string => match P.info? e with
        | some i => match i.zero with
          | some z => if z.cells.size == i.size && i.bytes != 0 && z.cells.toList.all (·.oneCell') then c2 P t X u Y (.app i.size i.bytes) else none
          | none => none
        | none => none
      | _, _ => none
    | _, _ => none
  | .builtin .copy => match c.args.toList, c.argTypes.toList with
    | [X, Y], [t, u] => match P.underlying t with
      | some (.slice e) => match P.info? e with
        | some i => c2 P t X u Y (.cpy i.size)
        | none => none
      | _ => none
    | _, _ => none
  | .builtin .min => (clist P c.args.toList).map (.mnx false)
  | .builtin .max => (clist P c.args.toList).map (.mnx true)
  | .builtin .delete => match c.args.toList, c.argTypes.toList with
    | [X, Y], [t, u] => match P.underlying t with
      | some (.map k _) => match ckOf P k with
        | some ck => c2 P t X u Y (.del ck)
        | none => none
      | _ => none
    | _, _ => none
  | .value (.func f) => (cargs P c.argTypes.toList c.args.toList).map (.call f)
  | .value X => match copd P 0 X, cargs P c.argTypes.toList c.args.toList with
    | some x, some xs => some (.callv x xs)
    | _, _ => none
  | _ => none

/-- A type of which the new objects' type is kept in mind: strings.Builder. -/
def keptT (P : Program) (t : TypeId) : Bool := match P.underlying t with
  | some (.struct fs) => match fs[0]? with
    | some f => f.name == "addr" && f.pkgPath == "strings"
    | none => false
  | _ => false
def bldZ : List AV → Bool
  | [.v (.pointer none), .list 1 [] .full] => true
  | _ => false
theorem bldZ_out {z : List AV} (h : bldZ z = true) : z = [.v (.pointer none), .list 1 [] .full] := by
  unfold bldZ at h
  split at h
  · rfl
  · cases h
def compOp (P : Program) (rows : List Nat) (o : Oper) : Option IOp :=
  match o.op with
  | .move X | .assign X => c1 P o.type X .mv
  | .pick C A B => c3 P 0 C o.type A o.type B .pick
  | .alloc e => (zeroOf P e).map fun z => if keptT P e && bldZ z then .newT e z else .new z
  | .box e X => c1 P e X .box
  | .build t ps => match P.underlying t, zeroOf P t with
    | some (.struct fs), some z => if fs.toList.all (fun f => (P.info? f.type).isSome) then (cpartsS P fs ps.toList).map (.build z) else none
    | some (.array _ e), some z => match P.info? e with
      | some i => (cpartsA P e i.size ps.toList).map (.build z)
      | none => none
    | _, _ => none
  | .buildSlice t n ps => match P.underlying t with
    | some (.slice e) => match P.info? e, zeroOf P e, cpartsL P e ps.toList with
      | some i, some z, some qs => if z.length == i.size && i.size != 0 && decide (n * i.size ≤ 2 ^ 24) then
          some (if (o.dst.map fun d => rows.contains d).getD false then .litRow i.size n z qs else .lit i.size n z qs) else none
      | _, _, _ => none
    | _ => none
  | .load t X => match aggSz P t with
    | some s => c1 P 0 X fun x => .load x s
    | none => none
  | .store t X Y => match P.info? t with
    | some i => c2 P 0 X t Y fun x y => .store x y i.size
    | none => none
  | .nilCheck X => c1 P 0 X .nilc
  | .binOp op t X Y _ => match eqOf P t X Y with
    | some k => c2 P t X t Y (.bin op k)
    | none => none
  | .unOp op _ X => c1 P 0 X (.un op)
  | .convert s d X => match P.underlying s, P.underlying d with
    | some (.int _), some (.int k) => c1 P s X (.convI k)
    | some .string, some .string => c1 P s X .convS
    | some .string, some (.slice e) => if isU8 P e then c1 P s X (.s2b ((o.dst.map fun d => rows.contains d).getD false)) else none
    | some (.slice e), some .string => if isU8 P e then c1 P s X .b2s else none
    | some (.slice e), some (.slice _) => if s == d && isU8 P e then c1 P s X .cvb else none
    | _, _ => none
  | .makeInterface t X => match P.underlying t with
    | some (.interface _) => none
    | some _ => c1 P t X (.mki t)
    | none => none
  | .makeFunc fn fs cs => match clist P fs.toList, clist P cs.toList with
    | some fs, some cs => some (.mkf fn fs cs)
    | _, _ => none
  | .makeMap _ none => some .mkm
  | .makeSlice t L C => match P.underlying t with
    | some (.slice e) => match P.info? e, zeroOf P e with
      | some i, some z => if z.length == i.size then c2 P 0 L 0 C (.mks i.size i.bytes z) else none
      | _, _ => none
    | _ => none
  | .slice t X lo hi mx => match P.underlying t with
    | some .string => match copd P t X, copt P lo, copt P hi, mx with
      | some x, some lo, some hi, none => some (.slS x lo hi)
      | _, _, _, _ => none
    | some (.slice e) => match P.info? e with
      | some i => match copd P t X, copt P lo, copt P hi, copt P mx with
        | some x, some lo, some hi, some mx => if mx.isNone || hi.isSome then some (.slL i.size x lo hi mx) else none
        | _, _, _, _ => none
      | none => none
    | some (.array n e) => match P.info? e with
      | some i => match copd P t X, copt P lo, copt P hi, mx with
        | some x, some lo, some hi, none => some (.slA n i.size x lo hi)
        | _, _, _, _ => none
      | none => none
    | _ => none
  | .fieldAddr s X f => match P.underlying s with
    | some (.struct fs) => match fs[f]? with
      | some fd => match P.info? fd.type with
        | some i => if i.size != 0 then c1 P 0 X fun x => .fad x fd.offset else none
        | none => none
      | none => none
    | _ => none
  | .field s X f => match P.underlying s with
    | some (.struct fs) => match fs[f]? with
      | some fd => match aggSz P fd.type with
        | some z => c1 P s X fun x => .fld x fd.offset z
        | none => none
      | none => none
    | _ => none
  | .indexAddr t X I => match P.underlying t with
    | some (.slice e) => match P.info? e with
      | some i => c2 P t X 0 I (.iaL i.size)
      | none => none
    | some (.array n e) => match P.info? e with
      | some i => c2 P 0 X 0 I (.iaA n i.size)
      | none => none
    | _ => none
  | .index t X I => match P.underlying t with
    | some .string => c2 P t X 0 I .ixS
    | some (.array n e) => match P.info? e, aggSz P e with
      | some i, some s => c2 P t X 0 I (.ixA n i.size s.isSome)
      | _, _ => none
    | _ => none
  | .lookup t X K ok => match P.underlying t with
    | some (.map k e) => match ckOf P k, zeroV P e with
      | some ck, some z => c2 P 0 X k K (.look ck z ok)
      | _, _ => none
    | _ => none
  | .mapUpdate t M K X | .insert t M K X => match P.underlying t with
    | some (.map k e) => match ckOf P k with
      | some ck => c3 P 0 M k K e X (.upd ck)
      | none => none
    | _ => none
  | .extract X i => c1 P 0 X fun x => .ext x i
  | .range t X => match P.underlying t with
    | some .string => c1 P t X .rng
    | _ => none
  | .next X true => c1 P 0 X .nxt
  | .call c => compCall P c
  | _ => none

section
variable {P : Program} {w0 : World} {Γ : Con} {h : AH} {w : World} {fr : List AV} {a : Act}

theorem c1_inv {t : TypeId} {X : Operand} {f : Opd → IOp} {i : IOp} (hc : c1 P t X f = some i) (hf : FR Γ fr a) : ∃ x, i = f x ∧ RV Γ (ev fr x) (a.eval X) := by
  simp only [c1, Option.map_eq_some_iff] at hc
  obtain ⟨x, hx, rfl⟩ := hc
  exact ⟨x, rfl, hf.eval hx⟩
theorem c2_inv {t u : TypeId} {X Y : Operand} {f : Opd → Opd → IOp} {i : IOp} (hc : c2 P t X u Y f = some i) (hf : FR Γ fr a) : ∃ x y, i = f x y ∧ RV Γ (ev fr x) (a.eval X) ∧ RV Γ (ev fr y) (a.eval Y) := by
  unfold c2 at hc
  split at hc
  · rename_i x y hx hy
    injection hc with hc
    exact ⟨x, y, hc.symm, hf.eval hx, hf.eval hy⟩
  · cases hc
theorem c3_inv {t u s : TypeId} {X Y Z : Operand} {f : Opd → Opd → Opd → IOp} {i : IOp} (hc : c3 P t X u Y s Z f = some i) (hf : FR Γ fr a) :
    ∃ x y z, i = f x y z ∧ RV Γ (ev fr x) (a.eval X) ∧ RV Γ (ev fr y) (a.eval Y) ∧ RV Γ (ev fr z) (a.eval Z) := by
  unfold c3 at hc
  split at hc
  · rename_i x y z hx hy hz
    injection hc with hc
    exact ⟨x, y, z, hc.symm, hf.eval hx, hf.eval hy, hf.eval hz⟩
  · cases hc
theorem copt_inv {X : Option Operand} {x : Option Opd} (hc : copt P X = some x) (hf : FR Γ fr a) : BndOk Γ (ev fr) x (X.map a.eval) := by
  cases X with
  | none => simp only [copt, Option.some.injEq] at hc; subst hc; exact ⟨trivial⟩
  | some X =>
    simp only [copt, Option.map_eq_some_iff] at hc
    obtain ⟨y, hy, rfl⟩ := hc
    exact ⟨hf.eval hy⟩
/-- Values side by side. -/
structure RVs (Γ : Con) (xs : List AV) (vs : List Value) : Prop where
  len : vs.length = xs.length
  at_ : ∀ (i : Nat) (h : i < xs.length) (h' : i < vs.length), RV Γ xs[i] vs[i]
theorem RVs.nil : RVs Γ [] [] := ⟨rfl, fun i hi => by simp at hi⟩
theorem RVs.cons {x : AV} {v : Value} {xs : List AV} {vs : List Value} (hx : RV Γ x v) (h : RVs Γ xs vs) : RVs Γ (x :: xs) (v :: vs) :=
  ⟨by simp [h.len], fun i hi hi' => by cases i with | zero => exact hx | succ i => exact h.at_ i (by simpa using hi) (by simpa using hi')⟩
theorem RVs.append {xs ys : List AV} {vs us : List Value} (h : RVs Γ xs vs) (h' : RVs Γ ys us) : RVs Γ (xs ++ ys) (vs ++ us) := by
  have hl := h.len; have hl' := h'.len
  refine ⟨by simp [hl, hl'], fun i hi hi' => ?_⟩
  by_cases hlt : i < xs.length
  · rw [List.getElem_append_left hlt, List.getElem_append_left (by omega)]
    exact h.at_ i hlt (by omega)
  · rw [List.getElem_append_right (by omega), List.getElem_append_right (by omega)]
    have := h'.at_ (i - xs.length) (by simp at hi; omega) (by simp at hi'; omega)
    simpa only [hl] using this
theorem RVs.mono {Γ' : Con} (hl : Γ.le Γ') {xs : List AV} {vs : List Value} (h : RVs Γ xs vs) : RVs Γ' xs vs := ⟨h.len, fun i a b => (h.at_ i a b).mono hl⟩
theorem clist_inv (hf : FR Γ fr a) : ∀ {Xs : List Operand} {xs : List Opd}, clist P Xs = some xs → RVs Γ (xs.map (ev fr)) (Xs.map a.eval)
  | [], xs, hc => by simp only [clist, Option.some.injEq] at hc; subst hc; exact .nil
  | X :: Xs, xs, hc => by
    simp only [clist] at hc
    split at hc
    · rename_i x xs' hx hxs
      injection hc with hc
      subst hc
      exact .cons (hf.eval hx) (clist_inv hf hxs)
    · cases hc
theorem cargs_inv (hf : FR Γ fr a) : ∀ {Xs : List Operand} {ts : List TypeId} {xs : List Opd}, cargs P ts Xs = some xs → RVs Γ (xs.map (ev fr)) (Xs.map a.eval)
  | [], ts, xs, hc => by cases ts <;> (simp only [cargs, Option.some.injEq] at hc; subst hc; exact .nil)
  | X :: Xs, ts, xs, hc => by
    simp only [cargs] at hc
    split at hc
    · rename_i x xs' hx hxs
      injection hc with hc
      subst hc
      exact .cons (hf.eval hx) (cargs_inv hf hxs)
    · cases hc
theorem zeroOf_inv {t : TypeId} {z : List AV} (hz : zeroOf P t = some z) : ∃ i v, P.info? t = some i ∧ i.zero = some v ∧ v.cells.toList.all (·.oneCell') = true ∧ z = zeroA (szsOf P 20 t) v.cells.toList ∧ ∀ Γ : Con, Cells Γ z v.cells.toList := by
  unfold zeroOf at hz
  split at hz
  · rename_i i hi
    split at hz
    · rename_i v hv
      split at hz
      · rename_i hall
        injection hz with hz
        subst hz
        exact ⟨i, v, hi, hv, hall, rfl, fun Γ => zeroA_sound _ _ hall⟩
      · cases hz
    · cases hz
  · cases hz
theorem zeroV_inv {t : TypeId} {z : AV} (hz : zeroV P t = some z) : ∃ i v, P.info? t = some i ∧ i.zero = some v ∧ ∀ Γ : Con, RV Γ z v := by
  unfold zeroV at hz
  split at hz
  · rename_i i hi
    split at hz
    · rename_i cs hv
      split at hz
      · rename_i hall
        injection hz with hz
        subst hz
        refine ⟨i, _, hi, hv, fun Γ => ?_⟩
        have hc := zeroA_sound (Γ := Γ) (szsOf P 20 t) _ hall
        have hl := hc.len
        refine .agg (by simpa using hl) (fun j hj => hc.one _ (by simp)) (fun j hj hj' => ?_)
        have := hc.at_ j hj (by simpa using hj')
        rwa [Array.getElem_toList] at this
      · cases hz
    · rename_i hv
      injection hz with hz
      subst hz
      exact ⟨i, _, hi, hv, fun Γ => .nilf⟩
    · rename_i v _ _ hv
      injection hz with hz
      subst hz
      exact ⟨i, _, hi, hv, fun Γ => .v _⟩
    · cases hz
  · cases hz
theorem cpartsS_inv {fs : Array Field} {places : List (Nat × Nat)} (hp : fs.toList.mapM (fun f => (P.info? f.type).map fun i => (f.offset, i.size)) = some places) (hf : FR Γ fr a) :
    ∀ {ps : List (Nat × Operand)} {qs : List (Nat × Nat × Opd)}, cpartsS P fs ps = some qs → Parts Γ (places.toArray[·]?) (qs.map fun p => (p.1, p.2.1, ev fr p.2.2)) (ps.map fun p => (p.1, a.eval p.2))
  | [], qs, hc => by simp only [cpartsS, Option.some.injEq] at hc; subst hc; exact .nil
  | (i, X) :: ps, qs, hc => by
    simp only [cpartsS] at hc
    split at hc
    · rename_i f hfi
      split at hc
      · rename_i inf x ps' hi hx hps
        injection hc with hc
        subst hc
        have hpl : ∀ (l : List Field) (pl : List (Nat × Nat)) (i : Nat), l.mapM (fun f => (P.info? f.type).map fun i => (f.offset, i.size)) = some pl → l[i]? = some f → pl[i]? = some (f.offset, inf.size) := by
          intro l
          induction l with
          | nil => intro pl i _ h2; simp at h2
          | cons g l ih =>
            intro pl i h1 h2
            simp only [List.mapM_cons, Option.bind_eq_bind, Option.pure_def] at h1
            cases hg : P.info? g.type with
            | none => simp [hg] at h1
            | some ig =>
              cases hl : l.mapM (fun f => (P.info? f.type).map fun i => (f.offset, i.size)) with
              | none => simp [hg, hl] at h1
              | some rest =>
                simp [hg, hl] at h1
                subst h1
                cases i with
                | zero =>
                  simp only [List.getElem?_cons_zero, Option.some.injEq] at h2 ⊢
                  subst h2
                  rw [hi] at hg
                  injection hg with hg
                  rw [hg]
                | succ i => exact ih rest i hl (by simpa using h2)
        refine .cons ?_ (hf.eval hx) (cpartsS_inv hp hf hps)
        simp only [List.getElem?_toArray]
        exact hpl _ _ i hp (by simpa using hfi)
      · cases hc
    · cases hc
theorem cpartsA_inv {e : TypeId} {sz : Nat} (hf : FR Γ fr a) : ∀ {ps : List (Nat × Operand)} {qs : List (Nat × Nat × Opd)}, cpartsA P e sz ps = some qs → Parts Γ (fun i => some (i * sz, sz)) (qs.map fun p => (p.1, p.2.1, ev fr p.2.2)) (ps.map fun p => (p.1, a.eval p.2))
  | [], qs, hc => by simp only [cpartsA, Option.some.injEq] at hc; subst hc; exact .nil
  | (i, X) :: ps, qs, hc => by
    simp only [cpartsA] at hc
    split at hc
    · rename_i x ps' hx hps
      injection hc with hc
      subst hc
      exact .cons rfl (hf.eval hx) (cpartsA_inv hf hps)
    · cases hc
theorem cpartsL_inv {e : TypeId} {sz : Nat} (hf : FR Γ fr a) : ∀ {ps : List (Nat × Operand)} {qs : List (Nat × Opd)}, cpartsL P e ps = some qs → Parts Γ (fun i => some (i * sz, sz)) (qs.map fun p => (p.1 * sz, sz, ev fr p.2)) (ps.map fun p => (p.1, a.eval p.2))
  | [], qs, hc => by simp only [cpartsL, Option.some.injEq] at hc; subst hc; exact .nil
  | (i, X) :: ps, qs, hc => by
    simp only [cpartsL] at hc
    split at hc
    · rename_i x ps' hx hps
      injection hc with hc
      subst hc
      exact .cons rfl (hf.eval hx) (cpartsL_inv hf hps)
    · cases hc
end
end Go.Abs
/- A program logic over abstract states, 12: the compact operation tells what the model's does. -/
namespace Go.Abs
open Go Go.RowKit
set_option linter.unusedVariables false
set_option linter.unusedSimpArgs false

section
variable {P : Program} {w0 : World} {Γ : Con} {h : AH} {w : World} {fr : List AV} {a : Act}

theorem Res.val {r : Result Next} {s : Sem Value} {x : Value} {v : AV} (hr : r = (do pure (Next.value (← s)) : Sem Next).run P w) (hs : s.run P w = .ok x w) (hv : RV Γ v x) (H : WR w0 Γ h w) : Res P w0 Γ r v h := by
  refine ⟨Γ, x, w, .inl ?_, .refl Γ, hv, H⟩
  rw [hr, Sem.run_bind, hs]; rfl
theorem Res.valw {r : Result Next} {s : Sem Value} {x : Value} {v : AV} {w' : World} {Γ' : Con} {h' : AH} (hr : r = (do pure (Next.value (← s)) : Sem Next).run P w) (hs : s.run P w = .ok x w') (hl : Γ.le Γ') (hv : RV Γ' v x) (H : WR w0 Γ' h' w') : Res P w0 Γ r v h' := by
  refine ⟨Γ', x, w', .inl ?_, hl, hv, H⟩
  rw [hr, Sem.run_bind, hs]; rfl
theorem Res.unit {r : Result Next} {s : Sem Unit} {w' : World} {h' : AH} (hr : r = (do s; pure Next.skip : Sem Next).run P w) (hs : s.run P w = .ok () w') (H : WR w0 Γ h' w') : Res P w0 Γ r (.v undef) h' := by
  refine ⟨Γ, undef, w', .inr ⟨?_, rfl⟩, .refl Γ, .v _, H⟩
  rw [hr, Sem.run_bind, hs]; rfl

variable {e : Opd → AV}

theorem snd_load {o : Oper} {t : TypeId} {X : Operand} (hop : o.op = .load t X) {s : Option Nat} (ht : aggSz P t = some s) {x : Opd} (hx : RV Γ (e x) (a.eval X)) (H : WR w0 Γ h w) {v : AV} {h' : AH} (hs : istep (.load x s) e h = some (v, h')) :
    Res P w0 Γ ((execOp a.eval o).run P w) v h' := by
  have he : execOp a.eval o = (do pure (Next.value (← Instr.loadAt t (a.eval X))) : Sem Next) := by unfold execOp; simp only [hop]
  rw [he]; clear he
  generalize a.eval X = xv at hx
  have go : ∀ (b o' : Nat) (off : Nat) (cs : List AV), Here Γ w b o' cs → xv = .pointer (some ⟨b, o' + off, none⟩) → ((rd cs off s).map fun a => (a, h)) = some (v, h') → Res P w0 Γ ((do pure (Next.value (← Instr.loadAt t xv)) : Sem Next).run P w) v h' := by
    intro b o' off cs hh hxv hrd
    simp only [Option.map_eq_some_iff, Prod.mk.injEq] at hrd
    obtain ⟨v', hv', rfl, rfl⟩ := hrd
    obtain ⟨y, hy, hyv⟩ := run_rd (P := P) ht hh hv'
    subst hxv
    exact Res.val rfl (by simpa [Instr.loadAt, Instr.sureAddr] using hy) hyv H
  simp only [istep] at hs
  split at hs
  · rename_i id off hk
    rw [hk] at hx
    obtain ⟨b, hb, hxv⟩ := hx.inv_ptr
    split at hs
    · rename_i cs ho
      exact go b 0 off cs (H.here ho hb) (by rw [hxv, Nat.zero_add]) hs
    · cases hs
  · rename_i cs off hk
    rw [hk] at hx
    obtain ⟨b, o', u, hxv, hF, h1, hr⟩ := hx.inv_lptr
    exact go b o' off cs ⟨u, fun j hj => H.fcell (hF j hj), h1, hr⟩ hxv hs
  · cases hs
theorem snd_store {o : Oper} {t : TypeId} {X Y : Operand} (hop : o.op = .store t X Y) {i : TypeInfo} (hi : P.info? t = some i) {x y : Opd} (hx : RV Γ (e x) (a.eval X)) (hy : RV Γ (e y) (a.eval Y)) (H : WR w0 Γ h w) {v : AV} {h' : AH}
    (hs : istep (.store x y i.size) e h = some (v, h')) : Res P w0 Γ ((execOp a.eval o).run P w) v h' := by
  have he : execOp a.eval o = (do Instr.storeAt t (a.eval X) (a.eval Y); pure Next.skip : Sem Next) := by unfold execOp; simp only [hop]
  rw [he]; clear he
  generalize a.eval X = xv at hx
  generalize a.eval Y = yv at hy
  simp only [istep] at hs
  split at hs
  · rename_i id off as hk hsc
    rw [hk] at hx
    obtain ⟨b, hb, rfl⟩ := hx.inv_ptr
    have hcl := scells_sound hsc hy
    split at hs
    · rename_i cs ho
      split at hs
      · rename_i hc
        simp only [Option.some.injEq, Prod.mk.injEq] at hs
        obtain ⟨rfl, rfl⟩ := hs
        obtain ⟨w', hst, HW⟩ := H.store P ho hb hcl (off := off) (by omega)
        refine Res.unit rfl (w' := w') ?_ HW
        have hsz : yv.cells.size = i.size := by have := hcl.len; rw [Array.length_toList] at this; omega
        simp only [Instr.storeAt, Sem.run_bind, Instr.sureAddr, Sem.run_pure, Result.andThen_ok, storeVar, run_sizeOf' hi, hsz, ne_eq, not_true, if_false, hst]
      · cases hs
    · cases hs
  · cases hs
theorem snd_nilc {o : Oper} {X : Operand} (hop : o.op = .nilCheck X) {x : Opd} (hx : RV Γ (e x) (a.eval X)) (H : WR w0 Γ h w) {v : AV} {h' : AH} (hs : istep (.nilc x) e h = some (v, h')) : Res P w0 Γ ((execOp a.eval o).run P w) v h' := by
  simp only [istep] at hs
  split at hs
  · rename_i id off hk
    rw [hk] at hx
    obtain ⟨b, hb, hxv⟩ := hx.inv_ptr
    simp only [Option.some.injEq, Prod.mk.injEq] at hs
    obtain ⟨rfl, rfl⟩ := hs
    exact Res.same (by unfold execOp; simp only [hop, hxv]; rfl) hx H
  · rename_i cs off hk
    rw [hk] at hx
    obtain ⟨b, o', u, hxv, _⟩ := hx.inv_lptr
    simp only [Option.some.injEq, Prod.mk.injEq] at hs
    obtain ⟨rfl, rfl⟩ := hs
    exact Res.same (by unfold execOp; simp only [hop, hxv]; rfl) hx H
  · rename_i fn fs cs hk
    rw [hk] at hx
    obtain ⟨vf, vc, hxv, _⟩ := hx.inv_func
    split at hs
    · simp only [Option.some.injEq, Prod.mk.injEq] at hs
      obtain ⟨rfl, rfl⟩ := hs
      exact Res.same (by unfold execOp; simp only [hop, hxv]; rfl) hx H
    · cases hs
  · cases hs
theorem snd_box {o : Oper} {t : TypeId} {X : Operand} (hop : o.op = .box t X) {x : Opd} (hx : RV Γ (e x) (a.eval X)) (H : WR w0 Γ h w) {v : AV} {h' : AH} (hs : istep (.box x) e h = some (v, h')) : Res P w0 Γ ((execOp a.eval o).run P w) v h' := by
  have he : execOp a.eval o = (do pure (Next.value (← Instr.box t (a.eval X))) : Sem Next) := by unfold execOp; simp only [hop]
  rw [he]; clear he
  generalize a.eval X = xv at hx
  simp only [istep] at hs
  split at hs
  · rename_i cs hsc
    simp only [Option.some.injEq, Prod.mk.injEq] at hs
    obtain ⟨rfl, rfl⟩ := hs
    have hcl := scells_sound hsc hx
    refine Res.valw rfl (s := Instr.box t xv) (x := .pointer (some ⟨w.heap.size, 0, none⟩)) (w' := w.alloc (.cells xv.cells t)) (by simp [Instr.box, newVar, newRow]) (H.le_obj _) (.ptr (by simp [Con.withObj])) (H.new _ _ (fun w' hw' => objAt_cells hw' (hcl.mono (H.le_obj _))))
  · cases hs
theorem snd_new {o : Oper} {t : TypeId} (hop : o.op = .alloc t) {z : List AV} (hz : zeroOf P t = some z) (H : WR w0 Γ h w) {v : AV} {h' : AH} (hs : istep (.new z) e h = some (v, h')) : Res P w0 Γ ((execOp a.eval o).run P w) v h' := by
  have he : execOp a.eval o = (do pure (Next.value (← Instr.alloc t true (.tuple #[]))) : Sem Next) := by unfold execOp; simp only [hop]
  rw [he]; clear he
  simp only [istep, Option.some.injEq, Prod.mk.injEq] at hs
  obtain ⟨rfl, rfl⟩ := hs
  obtain ⟨i, zv, hi, hzv, _, _, hc⟩ := zeroOf_inv hz
  refine Res.valw rfl (s := Instr.alloc t true (.tuple #[])) (x := .pointer (some ⟨w.heap.size, 0, none⟩)) (w' := w.alloc (.cells zv.cells t)) (by simp [Instr.alloc, zeroValue, typeInfo, hi, hzv, newVar, newRow]) (H.le_obj _) (.ptr (by simp [Con.withObj])) (H.new _ _ (fun w' hw' => objAt_cells hw' (hc _)))
theorem snd_newT {o : Oper} {t : TypeId} (hop : o.op = .alloc t) {z : List AV} (hz : zeroOf P t = some z) (hb : bldZ z = true) (H : WR w0 Γ h w) {v : AV} {h' : AH} (hs : istep (.newT t z) e h = some (v, h')) : Res P w0 Γ ((execOp a.eval o).run P w) v h' := by
  have he : execOp a.eval o = (do pure (Next.value (← Instr.alloc t true (.tuple #[]))) : Sem Next) := by unfold execOp; simp only [hop]
  rw [he]; clear he
  simp only [istep, Option.some.injEq, Prod.mk.injEq] at hs
  obtain ⟨rfl, rfl⟩ := hs
  obtain ⟨i, zv, hi, hzv, _, _, hc⟩ := zeroOf_inv hz
  obtain rfl := bldZ_out hb
  refine Res.valw rfl (s := Instr.alloc t true (.tuple #[])) (x := .pointer (some ⟨w.heap.size, 0, none⟩)) (w' := w.alloc (.cells zv.cells t)) (by simp [Instr.alloc, zeroValue, typeInfo, hi, hzv, newVar, newRow]) (H.le_obj _) (.ptr (by simp [Con.withObj])) (H.new _ _ (fun w' hw' => ?_))
  have hcc := hc Γ
  have hl : zv.cells.size = 2 := by simpa using hcc.len
  have h0 : RV Γ (.v (.pointer none)) (zv.cells[0]'(by omega)) := by
    have := hcc.at_ 0 (by simp) (by simp; omega)
    simpa using this
  have h1 : RV Γ (.list 1 [] .full) (zv.cells[1]'(by omega)) := by
    have := hcc.at_ 1 (by simp) (by simp; omega)
    simpa using this
  obtain ⟨base, hbase⟩ : ∃ base, zv.cells[1]'(by omega) = .slice base 0 0 := by
    rcases h1.inv_list with ⟨base, hb', _, _⟩ | ⟨b, o', c, us, hb', hc', _, _, _, _, hto⟩
    · exact ⟨base, hb'⟩
    · have hto' : (0 : Nat) = c := hto
      subst hto'
      exact ⟨_, hb'⟩
  have harr : zv.cells = #[.pointer none, .slice base 0 0] := by
    apply Array.ext
    · simpa using hl
    · intro k hk hk'
      have hk2 : k < 2 := by omega
      rcases (show k = 0 ∨ k = 1 by omega) with rfl | rfl
      · simpa using h0.inv_v
      · simpa using hbase
  rw [harr] at hw'
  exact ⟨_, _, _, hw', by simp [free], by simp [free], .inl rfl, .inl ⟨rfl, rfl, rfl, base, rfl⟩⟩
theorem snd_bin {o : Oper} {op : BinOp} {t u : TypeId} {X Y : Operand} (hop : o.op = .binOp op t X Y u) {k : EqK} (hk : eqOf P t X Y = some k) {x y : Opd} (hx : RV Γ (e x) (a.eval X)) (hy : RV Γ (e y) (a.eval Y)) (H : WR w0 Γ h w) {v : AV} {h' : AH}
    (hs : istep (.bin op k x y) e h = some (v, h')) : Res P w0 Γ ((execOp a.eval o).run P w) v h' := by
  simp only [istep, Option.map_eq_some_iff, Prod.mk.injEq] at hs
  obtain ⟨c, hc, rfl, rfl⟩ := hs
  obtain ⟨z, hz, hzv⟩ := run_abin (w := w) hk hx hy (fun v hv => by subst hv; rfl) hc
  exact Res.val (by unfold execOp; simp only [hop]) hz hzv H
theorem snd_un {o : Oper} {op : UnOp} {t : TypeId} {X : Operand} (hop : o.op = .unOp op t X) {x : Opd} (hx : RV Γ (e x) (a.eval X)) (H : WR w0 Γ h w) {v : AV} {h' : AH} (hs : istep (.un op x) e h = some (v, h')) : Res P w0 Γ ((execOp a.eval o).run P w) v h' := by
  simp only [istep, Option.map_eq_some_iff, Prod.mk.injEq] at hs
  obtain ⟨c, hc, rfl, rfl⟩ := hs
  obtain ⟨z, hz, hzv⟩ := run_aun (P := P) (w := w) hx hc
  exact Res.val (by unfold execOp; simp only [hop]) hz hzv H
theorem snd_convI {o : Oper} {s d : TypeId} {X : Operand} (hop : o.op = .convert s d X) {ks k : IntKind} (hss : P.underlying s = some (.int ks)) (hd : P.underlying d = some (.int k)) {x : Opd} (hx : RV Γ (e x) (a.eval X)) (H : WR w0 Γ h w) {v : AV} {h' : AH}
    (hs : istep (.convI k x) e h = some (v, h')) : Res P w0 Γ ((execOp a.eval o).run P w) v h' := by
  simp only [istep] at hs
  split at hs
  · rename_i n hk
    rw [hk] at hx
    simp only [Option.some.injEq, Prod.mk.injEq] at hs
    obtain ⟨rfl, rfl⟩ := hs
    refine Res.val (s := convert s d (a.eval X)) (by unfold execOp; simp only [hop]) ?_ (.v _) H
    rw [hx.inv_v]
    simp [convert, run_underlying hss, run_underlying hd, Conv.intToInt]
  · cases hs
theorem snd_convS {o : Oper} {s d : TypeId} {X : Operand} (hop : o.op = .convert s d X) (hss : P.underlying s = some .string) (hd : P.underlying d = some .string) {x : Opd} (hx : RV Γ (e x) (a.eval X)) (H : WR w0 Γ h w) {v : AV} {h' : AH}
    (hs : istep (.convS x) e h = some (v, h')) : Res P w0 Γ ((execOp a.eval o).run P w) v h' := by
  simp only [istep] at hs
  split at hs
  · rename_i n hk
    rw [hk] at hx
    simp only [Option.some.injEq, Prod.mk.injEq] at hs
    obtain ⟨rfl, rfl⟩ := hs
    refine Res.val (s := convert s d (a.eval X)) (by unfold execOp; simp only [hop]) ?_ (.v _) H
    rw [hx.inv_v]
    simp [convert, run_underlying hss, run_underlying hd]
  · cases hs
theorem snd_s2b {o : Oper} {s d el : TypeId} {X : Operand} (hop : o.op = .convert s d X) (hss : P.underlying s = some .string) (hd : P.underlying d = some (.slice el)) (hel : isU8 P el = true) {x : Opd} (hx : RV Γ (e x) (a.eval X)) (H : WR w0 Γ h w) {row : Bool} {v : AV} {h' : AH}
    (hs : istep (.s2b row x) e h = some (v, h')) : Res P w0 Γ ((execOp a.eval o).run P w) v h' := by
  have hu : P.underlying el = some (.int .u8) := by
    unfold isU8 at hel
    split at hel
    · assumption
    · cases hel
  simp only [istep] at hs
  split at hs
  · rename_i n hk
    rw [hk] at hx
    obtain ⟨z, w', hrun, ⟨Γ1, hl1, hv1, HW1⟩, Γ2, hl2, hv2, HW2⟩ := run_s2b (P := P) hss hd hu H n
    have hr : (execOp a.eval o).run P w = (do pure (Next.value (← convert s d (.string n))) : Sem Next).run P w := by
      unfold execOp; simp only [hop, hx.inv_v]
    cases row
    · simp only [Bool.false_eq_true, if_false, Option.some.injEq, Prod.mk.injEq] at hs
      obtain ⟨rfl, rfl⟩ := hs
      exact Res.valw hr hrun hl2 hv2 HW2
    · simp only [if_true, Option.some.injEq, Prod.mk.injEq] at hs
      obtain ⟨rfl, rfl⟩ := hs
      exact Res.valw hr hrun hl1 hv1 HW1
  · cases hs
/-- A row that was an object never turns any more. -/
theorem WR.freeze {w0 : World} {Γ : Con} {h : AH} {w : World} (H : WR w0 Γ h w) {id b : Nat} (hb : Γ.rho id = some b) {o : AObj} (ho : h.objs id = some o) {vs : Array Value} {e : TypeId} {fr : Nat × Nat} (hh : w.heap[b]? = some (.cells vs e fr)) (n : Nat) :
    Γ.le (Γ.withRow b fun o => if o < n then vs[o]? else none) ∧ WR w0 (Γ.withRow b fun o => if o < n then vs[o]? else none) (h.drop id) w := by
  obtain ⟨b', hb', hge, hat, hF⟩ := H.obj ho
  obtain rfl : b = b' := by rw [hb] at hb'; injection hb'
  have hle : Γ.le (Γ.withRow b fun o => if o < n then vs[o]? else none) := by
    refine ⟨fun {k o x} hx => ?_, fun x => x, fun x => x⟩
    simp only [Con.withRow]
    rw [if_neg (by rintro rfl; rw [hF] at hx; cases hx)]
    exact hx
  have hobj : ∀ {i}, ((h.drop id).objs i).isSome → (h.objs i).isSome ∧ i ≠ id := by
    intro i hi
    simp only [AH.drop] at hi
    split at hi
    · cases hi
    · exact ⟨hi, by assumption⟩
  have hne : ∀ {i c}, ((h.drop id).objs i).isSome → Γ.rho i = some c → c ≠ b := by
    rintro i c hi hc rfl
    exact (hobj hi).2 (H.inj (hobj hi).1 (by rw [ho]; rfl) hc hb)
  refine ⟨hle, H.below, ?_, ?_, fun hi hj => H.inj (hobj hi).1 (hobj hj).1, H.rlt, ?_, H.tinj, H.tnew⟩
  · intro k o x hx
    simp only [Con.withRow] at hx
    split at hx
    · rename_i hk
      subst hk
      split at hx
      · simp only [World.cell?, hh]
        exact hx
      · cases hx
    · exact H.fcell hx
  · intro i o' hi
    have hi2 : (h.drop id).objs i = h.objs i := by
      simp only [AH.drop] at hi ⊢
      split at hi
      · cases hi
      · rename_i e; rw [if_neg e]
    obtain ⟨c, h1, h2, h3, h4⟩ := H.obj (hi2 ▸ hi)
    refine ⟨c, h1, h2, h3.mono hle, fun off => ?_⟩
    simp only [Con.withRow]
    rw [if_neg (hne (by rw [hi]; rfl) h1)]
    exact h4 off
  · intro t T ht
    obtain ⟨h1, ⟨h2, vs', e', fr', h3, h4, h5⟩, h6⟩ := H.tok ht
    refine ⟨h1, ⟨h2, vs', e', fr', h3, h4, fun off a c => ?_⟩, fun i hi => h6 i (hobj hi).1⟩
    simp only [Con.withRow]
    rw [if_neg (by rintro e; exact h6 id (by rw [ho]; rfl) (by rw [hb, e]))]
    exact h5 off a c
/-- A block that is no object's and no token's: what may not be written there is of no matter. -/
theorem WR.refr {w0 : World} {Γ : Con} {h : AH} {w : World} (H : WR w0 Γ h w) {b : Nat} {vs : Array Value} {e : TypeId} {fr : Nat × Nat} (fr' : Nat × Nat) (hh : w.heap[b]? = some (.cells vs e fr)) (hge : w0.heap.size ≤ b) (hno : ∀ i, (h.objs i).isSome → Γ.rho i ≠ some b)
    (ht : ∀ t T, Γ.tau t (h.ver t) = some T → T.blk ≠ b) : WR w0 Γ h (putBlk w b (.cells vs e fr')) := by
  have hc := putBlk_chg w b (.cells vs e fr')
  have hat := putBlk_at hh (.cells vs e fr')
  refine ⟨⟨hc.os.trans H.below.os, hc.tape.trans H.below.tape, hc.output.trans H.below.output, by rw [hc.size]; exact H.below.size, fun k hk => (hc.other k (by omega)).trans (H.below.block k hk)⟩, ?_, ?_, H.inj, fun hi => ⟨(H.rlt hi).1, by rw [hc.size]; exact (H.rlt hi).2⟩, ?_, H.tinj, H.tnew⟩
  · intro k o x hx
    have h1 := H.fcell hx
    by_cases hk : k = b
    · subst hk
      simp only [World.cell?, hh] at h1
      simp only [World.cell?, hat]
      exact h1
    · exact (World.cell?_of_block (hc.other k hk)).trans h1
  · intro i o ho
    obtain ⟨c, h1, h2, h3, h4⟩ := H.obj ho
    exact ⟨c, h1, h2, h3.at_ (hc.other c fun ec => hno i (by rw [ho]; rfl) (ec ▸ h1)), h4⟩
  · intro t T hT
    obtain ⟨h1, ⟨h2, vs', e', fr2, h3, h4, h5⟩, h6⟩ := H.tok hT
    exact ⟨h1, ⟨h2, vs', e', fr2, (hc.other _ (ht t T hT)).trans h3, h4, h5⟩, h6⟩
theorem flat_ones : ∀ cs : List AV, (cs.map fun c => [c]).flatten = cs
  | [] => rfl
  | c :: cs => by
    show [c] ++ (cs.map fun c => [c]).flatten = _
    rw [flat_ones cs]
    rfl
theorem freeze_putBlk {b : Nat} {vs : Array Value} {e : TypeId} {fr : Nat × Nat} (hb : w.heap[b]? = some (.cells vs e fr)) (n : Nat) :
    w.freeze { block := b, off := n } 1 = putBlk w b (.cells vs e (if fr.1 == fr.2 then (n, n + 1) else (min fr.1 n, max fr.2 (n + 1)))) := by
  unfold World.freeze putBlk
  rw [if_neg (by decide)]
  congr 1
  apply Array.ext_getElem?
  intro i
  rw [Array.getElem?_modify]
  by_cases hi : b = i
  · subst hi
    have hlt := (Array.getElem?_eq_some_iff.1 hb).1
    rw [if_pos rfl, hb, Array.getElem?_setIfInBounds_self_of_lt hlt]
    rfl
  · rw [if_neg hi, Array.getElem?_setIfInBounds_ne hi]
theorem snd_cvb {o : Oper} {s el : TypeId} {X : Operand} (hop : o.op = .convert s s X) (hss : P.underlying s = some (.slice el)) (hel : isU8 P el = true) {x : Opd} (hx : RV Γ (e x) (a.eval X)) (H : WR w0 Γ h w) {v : AV} {h' : AH}
    (hs : istep (.cvb x) e h = some (v, h')) : Res P w0 Γ ((execOp a.eval o).run P w) v h' := by
  have hu : P.underlying el = some (.int .u8) := by
    unfold isU8 at hel
    split at hel
    · assumption
    · cases hel
  simp only [istep] at hs
  split at hs
  · rename_i id off len cap hk
    split at hs
    · rename_i cs ho
      split at hs
      rotate_left
      · cases hs
      rename_i hol
      obtain ⟨rfl, rfl⟩ := hol
      simp only [Option.some.injEq, Prod.mk.injEq] at hs
      obtain ⟨rfl, rfl⟩ := hs
      rw [hk] at hx
      have hr : (execOp a.eval o).run P w = (do pure (Next.value (← convert s s (a.eval X))) : Sem Next).run P w := by unfold execOp; simp only [hop]
      obtain ⟨b, c, hb, hval, hlc, hcap⟩ := hx.inv_row
      obtain ⟨b', hb', hge, ⟨vs, ee, fr, hh, hvl, hat⟩, hF⟩ := H.obj ho
      obtain rfl : b = b' := by rw [hb] at hb'; injection hb'
      obtain ⟨hle, HW1⟩ := H.freeze hb ho hh cs.length
      have HW := HW1.refr (if fr.1 == fr.2 then (vs.size, vs.size + 1) else (min fr.1 vs.size, max fr.2 (vs.size + 1))) hh hge (fun i hi e => by
          simp only [AH.drop] at hi
          split at hi
          · cases hi
          · rename_i hne
            exact hne (H.inj hi (by rw [ho]; rfl) e hb)) (fun t T hT e => (H.tok hT).2.2 id (by rw [ho]; rfl) (by rw [hb, e]))
      refine Res.valw hr (x := a.eval X) ?_ hle ?_ HW
      rotate_left
      · rw [hval]
        have hml := RV.mk_list (Γ := Γ.withRow b fun o => if o < cs.length then vs[o]? else none) (sz := 1) (rows := cs.map fun c => [c]) (tok := .no) (b := b) (o := 0) (c := c) (us := vs.toList.take cs.length)
          (by rw [List.length_map]; exact hlc) (fun r hr => by obtain ⟨y, _, rfl⟩ := List.mem_map.1 hr; rfl)
          (by
            rw [flat_ones]
            refine ⟨by rw [List.length_take, Array.length_toList]; exact Nat.min_eq_left hvl, fun i h1 h2 => ?_, fun y hy => ?_⟩
            · rw [List.getElem_take, Array.getElem_toList]
              exact ((hat i h1 (by omega)).1).mono hle
            · obtain ⟨k, hk, rfl⟩ := List.getElem_of_mem hy
              have hk2 : k < cs.length := by rw [List.length_take] at hk; omega
              rw [List.getElem_take, Array.getElem_toList]
              exact (hat k hk2 (by omega)).2.1)
          (fun k hk => by
            have hk2 : k < cs.length := by rw [List.length_take] at hk; omega
            simp only [Con.withRow, if_true, Nat.zero_add]
            rw [if_pos hk2, List.getElem_take, Array.getElem_toList, Array.getElem?_eq_getElem (by omega)]) trivial
        rwa [List.length_map] at hml
      rw [hval, ← freeze_putBlk hh]
      simp [convert, run_underlying hss, run_underlying hu, markStringish, World.shape?, hh]
    · cases hs
  · cases hs
theorem srcRows_slice {sz : Nat} {A : AV} {rows : List (List AV)} (hr : srcRows sz h A = some rows) {x : Value} (hx : RV Γ A x) (hn : ∀ s, x ≠ .string s) : ∃ b n c, x = .slice b n c := by
  unfold srcRows at hr
  split at hr
  · rcases hx.inv_list with ⟨base, rfl, _⟩ | ⟨b, o, c, us, rfl, _⟩
    · exact ⟨_, _, _, rfl⟩
    · exact ⟨_, _, _, rfl⟩
  · exact absurd hx.inv_v (hn _)
  · obtain ⟨b, c, _, rfl, _⟩ := hx.inv_row
    exact ⟨_, _, _, rfl⟩
  · cases hr
theorem snd_b2s {o : Oper} {s d el : TypeId} {X : Operand} (hop : o.op = .convert s d X) (hss : P.underlying s = some (.slice el)) (hd : P.underlying d = some .string) (hel : isU8 P el = true) {x : Opd} (hx : RV Γ (e x) (a.eval X)) (H : WR w0 Γ h w) {v : AV} {h' : AH}
    (hs : istep (.b2s x) e h = some (v, h')) : Res P w0 Γ ((execOp a.eval o).run P w) v h' := by
  have hu : P.underlying el = some (.int .u8) := by
    unfold isU8 at hel
    split at hel
    · assumption
    · cases hel
  have hr : (execOp a.eval o).run P w = (do pure (Next.value (← convert s d (a.eval X))) : Sem Next).run P w := by unfold execOp; simp only [hop]
  simp only [istep] at hs
  split at hs
  · rename_i rows hrows
    split at hs
    · rename_i l hl
      simp only [Option.some.injEq, Prod.mk.injEq] at hs
      obtain ⟨rfl, rfl⟩ := hs
      by_cases hstr : ∃ q, a.eval X = .string q
      · -- a string's bytes, told as bytes: no such conversion is compiled, but it is the same string
        obtain ⟨q, hq⟩ := hstr
        rw [hq] at hx
        have hAv : ∃ y, e x = .v y := by
          unfold srcRows at hrows
          split at hrows
          · rename_i hk; rw [hk] at hx; rcases hx.inv_list with ⟨_, hh, _⟩ | ⟨_, _, _, _, hh, _⟩ <;> cases hh
          · exact ⟨_, by assumption⟩
          · rename_i hk; rw [hk] at hx; obtain ⟨_, _, _, hh, _⟩ := hx.inv_row; cases hh
          · cases hrows
        obtain ⟨y, hy⟩ := hAv
        rw [hy] at hx hrows
        have hyq := hx.inv_v
        subst hyq
        simp only [srcRows] at hrows
        simp only [if_true, Option.some.injEq] at hrows
        subst hrows
        refine Res.val (s := convert s d (a.eval X)) hr (x := .string q) ?_ ?_ H
        · rw [hq]; simp [convert, run_underlying hss, run_underlying hd]
        · rw [byteRows_flat] at hl
          have : ∀ (l : List UInt8), bytesOfCells (l.map fun b => .v (.int .u8 b.toNat)) = some l := by
            intro l
            induction l with
            | nil => rfl
            | cons b l ih => simp [bytesOfCells, ih]
          rw [this] at hl
          injection hl with hl
          subst hl
          have e2 : (⟨q.data.toList.toArray⟩ : ByteArray) = q := by apply ByteArray.ext; simp
          rw [e2]; exact .v _
      · exact Res.val hr (run_b2s (P := P) hss hu hd H hx hrows (srcRows_slice hrows hx (fun s hs => hstr ⟨s, hs⟩)) hl) (.v _) H
    · cases hs
  · cases hs
theorem snd_mki {o : Oper} {t : TypeId} {X : Operand} (hop : o.op = .makeInterface t X) {d : TypeDesc} (ht : P.underlying t = some d) (hd : ∀ ms, d ≠ .interface ms) {x : Opd} (hx : RV Γ (e x) (a.eval X)) (H : WR w0 Γ h w) {v : AV} {h' : AH} (hs : istep (.mki t x) e h = some (v, h')) :
    Res P w0 Γ ((execOp a.eval o).run P w) v h' := by
  simp only [istep] at hs
  split at hs
  · simp only [Option.some.injEq, Prod.mk.injEq] at hs
    obtain ⟨rfl, rfl⟩ := hs
    refine Res.val (s := Instr.makeInterface t (a.eval X)) (x := .iface t (a.eval X)) (by unfold execOp; simp only [hop]) ?_ (.iface hx) H
    unfold Instr.makeInterface
    rw [Sem.run_bind, run_underlying ht]
    cases d <;> first | rfl | exact absurd rfl (hd _)
  · cases hs
end
end Go.Abs
/- A program logic over abstract states, 13: more operations. -/
namespace Go.Abs
open Go Go.RowKit
set_option linter.unusedVariables false
set_option linter.unusedSimpArgs false

section
variable {P : Program} {w0 : World} {Γ : Con} {h : AH} {w : World} {fr : List AV} {a : Act} {e : Opd → AV}

theorem agg_of_cells {cs : List AV} {vs : Array Value} (hc : Cells Γ cs vs.toList) : RV Γ (.agg cs) (.agg vs) := by
  have hl := hc.len
  refine .agg (by simpa using hl) (fun j hj => hc.one _ (by simp)) (fun j hj hj' => ?_)
  have := hc.at_ j hj (by simpa using hj')
  rwa [Array.getElem_toList] at this
theorem snd_buildS {o : Oper} {t : TypeId} {ps : Array (Nat × Operand)} (hop : o.op = .build t ps) {fs : Array Field} (ht : P.underlying t = some (.struct fs)) {z : List AV} (hz : zeroOf P t = some z) (hall : fs.toList.all (fun f => (P.info? f.type).isSome) = true) {qs : List (Nat × Nat × Opd)}
    (hq : cpartsS P fs ps.toList = some qs) (hf : FR Γ fr a) (H : WR w0 Γ h w) {v : AV} {h' : AH} (hs : istep (.build z qs) (ev fr) h = some (v, h')) : Res P w0 Γ ((execOp a.eval o).run P w) v h' := by
  obtain ⟨i, zv, hi, hzv, _, _, hc⟩ := zeroOf_inv hz
  simp only [istep] at hs
  split at hs
  · rename_i cs hfa
    simp only [Option.some.injEq, Prod.mk.injEq] at hs
    obtain ⟨rfl, rfl⟩ := hs
    have hpl : ∃ places, fs.toList.mapM (fun f => (P.info? f.type).map fun i => (f.offset, i.size)) = some places := by
      revert hall
      induction fs.toList with
      | nil => intro _; exact ⟨[], rfl⟩
      | cons f l ih =>
        intro hall
        simp only [List.all_cons, Bool.and_eq_true] at hall
        obtain ⟨inf, hinf⟩ := Option.isSome_iff_exists.1 hall.1
        obtain ⟨pl, hpl⟩ := ih hall.2
        exact ⟨(f.offset, inf.size) :: pl, by simp [List.mapM_cons, hinf, hpl]⟩
    obtain ⟨places, hpl⟩ := hpl
    obtain ⟨cc, hfill, hcc⟩ := fill_sound (cpartsS_inv hpl hf hq) hfa (hc Γ)
    refine Res.val (s := Instr.build t (ps.map fun (i, x) => (i, a.eval x))) (by unfold execOp; simp only [hop]) (run_build w t _ cc ?_) (agg_of_cells hcc) H
    unfold Program.built
    simp only [hi, ht, hzv, hpl, Array.toList_map]
    exact hfill
  · cases hs
theorem snd_buildA {o : Oper} {t : TypeId} {ps : Array (Nat × Operand)} (hop : o.op = .build t ps) {n el : Nat} (ht : P.underlying t = some (.array n el)) {z : List AV} (hz : zeroOf P t = some z) {inf : TypeInfo} (hin : P.info? el = some inf) {qs : List (Nat × Nat × Opd)}
    (hq : cpartsA P el inf.size ps.toList = some qs) (hf : FR Γ fr a) (H : WR w0 Γ h w) {v : AV} {h' : AH} (hs : istep (.build z qs) (ev fr) h = some (v, h')) : Res P w0 Γ ((execOp a.eval o).run P w) v h' := by
  obtain ⟨i, zv, hi, hzv, _, _, hc⟩ := zeroOf_inv hz
  simp only [istep] at hs
  split at hs
  · rename_i cs hfa
    simp only [Option.some.injEq, Prod.mk.injEq] at hs
    obtain ⟨rfl, rfl⟩ := hs
    obtain ⟨cc, hfill, hcc⟩ := fill_sound (cpartsA_inv hf hq) hfa (hc Γ)
    refine Res.val (s := Instr.build t (ps.map fun (i, x) => (i, a.eval x))) (by unfold execOp; simp only [hop]) (run_build w t _ cc ?_) (agg_of_cells hcc) H
    unfold Program.built
    simp only [hi, ht, hzv, hin, Array.toList_map]
    exact hfill
  · cases hs
theorem run_lit {t el : TypeId} {n : Nat} {vs : Array (Nat × Value)} (ht : P.underlying t = some (.slice el)) {inf : TypeInfo} (hin : P.info? el = some inf) {zv : Value} (hzv : inf.zero = some zv) (hzs : zv.cells.size = inf.size) (h24 : n * inf.size ≤ 2 ^ 24) {cc : Array Value}
    (hfill : Instr.fill (fun i => some (i * inf.size, inf.size)) ((Array.range (n * zv.cells.size)).map (zv.cells[· % zv.cells.size]!)) vs.toList = some cc) :
    (Instr.buildSlice t n vs).run P w = .ok (.slice (some ⟨w.heap.size, 0, none⟩) n n) (w.alloc (.cells cc el)) := by
  have h24' : ¬ (16777216 < n * inf.size) := by omega
  by_cases h0 : n * inf.size = 0
  · have hfill0 : Instr.fill (fun i => some (i * inf.size, inf.size)) #[] vs.toList = some cc := by
      rw [hzs, h0] at hfill
      simpa [Array.range_zero'] using hfill
    simp [Instr.buildSlice, run_underlying ht, run_sizeOf' hin, h0, Array.range_zero', hfill0, newRow]
  · have e0 : (Array.range (n * inf.size)).map (zv.cells[· % zv.cells.size]!) = (Array.range (n * zv.cells.size)).map (zv.cells[· % zv.cells.size]!) := by rw [hzs]
    rw [← e0] at hfill
    simp only [Instr.buildSlice, Sem.run_bind, run_underlying ht, Result.andThen_ok, run_sizeOf' hin, gt_iff_lt, Nat.reducePow, h24', if_false, h0, zeroValue, typeInfo, run_program, hin, hzv, Sem.run_pure, hfill]
    simp [newRow]
theorem snd_lit {o : Oper} {t el : TypeId} {n : Nat} {ps : Array (Nat × Operand)} (hop : o.op = .buildSlice t n ps) (ht : P.underlying t = some (.slice el)) {inf : TypeInfo} (hin : P.info? el = some inf) {z : List AV} (hz : zeroOf P el = some z) {qs : List (Nat × Opd)} (hq : cpartsL P el ps.toList = some qs)
    (hzl : z.length = inf.size) (h24 : n * inf.size ≤ 2 ^ 24) (hf : FR Γ fr a) (H : WR w0 Γ h w) (row : Bool) {v : AV} {h' : AH} (hs : istep (if row then .litRow inf.size n z qs else .lit inf.size n z qs) (ev fr) h = some (v, h')) : Res P w0 Γ ((execOp a.eval o).run P w) v h' := by
  obtain ⟨i, zv, hi, hzv, _, _, hc⟩ := zeroOf_inv hz
  rw [hin] at hi
  injection hi with hi
  subst hi
  have hzs : zv.cells.size = inf.size := by have := (hc Γ).len; rw [Array.length_toList] at this; omega
  have hr : (execOp a.eval o).run P w = (do pure (Next.value (← Instr.buildSlice t n (ps.map fun (i, x) => (i, a.eval x)))) : Sem Next).run P w := by unfold execOp; simp only [hop]
  have key : ∀ cs, fillA ((List.replicate n z).flatten) (qs.map fun p => (p.1 * inf.size, inf.size, ev fr p.2)) = some cs → ∃ cc, (Instr.buildSlice t n (ps.map fun (i, x) => (i, a.eval x))).run P w = .ok (.slice (some ⟨w.heap.size, 0, none⟩) n n) (w.alloc (.cells cc el)) ∧ Cells Γ cs cc.toList := by
    intro cs hfa
    obtain ⟨cc, hfill, hcc⟩ := fill_sound (cpartsL_inv (sz := inf.size) hf hq) hfa (litCells (hc Γ) n)
    exact ⟨cc, run_lit ht hin hzv hzs h24 (by rw [Array.toList_map]; exact hfill), hcc⟩
  have hlen : ∀ cs, fillA ((List.replicate n z).flatten) (qs.map fun p => (p.1 * inf.size, inf.size, ev fr p.2)) = some cs → cs.length = n * inf.size := by
    have gen : ∀ (ps : List (Nat × Nat × AV)) (z cs : List AV), fillA z ps = some cs → cs.length = z.length := by
      intro ps
      induction ps with
      | nil => intro z cs hh; simp only [fillA, Option.some.injEq] at hh; rw [hh]
      | cons p ps ih =>
        intro z cs hh
        obtain ⟨p1, p2, p3⟩ := p
        simp only [fillA] at hh
        split at hh
        · split at hh
          · rw [ih _ _ hh, wrL_length]
          · cases hh
        · cases hh
    intro cs hfa
    rw [gen _ _ _ hfa, flat_len (sz := z.length) (fun r hr => by rw [List.eq_of_mem_replicate hr]), List.length_replicate, hzl]
  cases row
  · simp only [Bool.false_eq_true, if_false, istep] at hs
    split at hs
    · rename_i cs hfa
      simp only [Option.some.injEq, Prod.mk.injEq] at hs
      obtain ⟨rfl, rfl⟩ := hs
      obtain ⟨cc, hrun, hcc⟩ := key cs hfa
      have hcl := hlen cs hfa
      obtain ⟨HW, hle⟩ := H.row cc el (0, 0) (n * inf.size)
      refine Res.valw hr hrun hle ?_ HW
      have hcs : cc.size = n * inf.size := by have := hcc.len; rw [Array.length_toList] at this; omega
      have := RV.mk_list (Γ := Γ.withRow w.heap.size fun o => if o < n * inf.size then cc[o]? else none) (sz := inf.size) (rows := chunk inf.size n cs) (tok := .full) (b := w.heap.size) (o := 0) (c := n) (us := cc.toList)
        (by rw [chunk_len]; exact Nat.le_refl _) (chunk_row n cs (by omega)) (by rw [chunk_flat n cs (by omega), List.take_of_length_le (by omega)]; exact hcc.mono hle) (fun k hk => by
          have hk2 : k < cc.size := by simpa using hk
          simp only [Con.withRow, if_true, Nat.zero_add]
          rw [if_pos (by omega), Array.getElem?_eq_getElem hk2, Array.getElem_toList]) (by rw [chunk_len]; rfl)
      rwa [chunk_len] at this
    · cases hs
  · simp only [if_true, istep] at hs
    split at hs
    · rename_i cs hfa
      simp only [Option.some.injEq, Prod.mk.injEq] at hs
      obtain ⟨rfl, rfl⟩ := hs
      obtain ⟨cc, hrun, hcc⟩ := key cs hfa
      exact Res.valw hr hrun (H.le_obj _) (.row (by simp [Con.withObj]) (Nat.le_refl _) (fun k hk => by injection hk with hk; exact hk.symm)) (H.new _ _ (fun w' hw' => objAt_cells hw' (hcc.mono (H.le_obj _))))
    · cases hs
theorem snd_mkf {o : Oper} {fn : Fn} {fs cs : Array Operand} (hop : o.op = .makeFunc fn fs cs) {xs ys : List Opd} (hx : clist P fs.toList = some xs) (hy : clist P cs.toList = some ys) (hf : FR Γ fr a) (H : WR w0 Γ h w) {v : AV} {h' : AH} (hs : istep (.mkf fn xs ys) (ev fr) h = some (v, h')) :
    Res P w0 Γ ((execOp a.eval o).run P w) v h' := by
  simp only [istep, Option.some.injEq, Prod.mk.injEq] at hs
  obtain ⟨rfl, rfl⟩ := hs
  have h1 := clist_inv hf hx
  have h2 := clist_inv hf hy
  refine Res.val (s := Instr.makeFunc fn (fs.map a.eval) (cs.map a.eval)) (x := .func fn (fs.map a.eval) (cs.map a.eval)) (by unfold execOp; simp only [hop]) rfl (.func ?_ ?_ (fun i hi hi' => ?_) (fun i hi hi' => ?_)) H
  · have := h1.len; simpa using this
  · have := h2.len; simpa using this
  · have := h1.at_ i hi (by simpa using hi')
    simpa using this
  · have := h2.at_ i hi (by simpa using hi')
    simpa using this
theorem snd_mkm {o : Oper} {t : TypeId} (hop : o.op = .makeMap t none) (H : WR w0 Γ h w) {v : AV} {h' : AH} (hs : istep .mkm e h = some (v, h')) : Res P w0 Γ ((execOp a.eval o).run P w) v h' := by
  simp only [istep, Option.some.injEq, Prod.mk.injEq] at hs
  obtain ⟨rfl, rfl⟩ := hs
  refine Res.valw (s := Instr.makeMap t none) (x := .map (some w.heap.size)) (w' := w.alloc (.map #[] 0)) (by unfold execOp; simp only [hop]; rfl) (by simp [Instr.makeMap]) (H.le_obj _) (.mapr (by simp [Con.withObj])) (H.new _ _ (fun w' hw' => ⟨#[], 0, hw', rfl, fun i hi => by simp at hi⟩))
theorem snd_mks {o : Oper} {t el : TypeId} {L C : Operand} (hop : o.op = .makeSlice t L C) (ht : P.underlying t = some (.slice el)) {inf : TypeInfo} (hin : P.info? el = some inf) {z : List AV} (hz : zeroOf P el = some z) (hzl : z.length = inf.size) {l c : Opd} (hl : RV Γ (e l) (a.eval L)) (hc : RV Γ (e c) (a.eval C))
    (H : WR w0 Γ h w) {v : AV} {h' : AH} (hs : istep (.mks inf.size inf.bytes z l c) e h = some (v, h')) : Res P w0 Γ ((execOp a.eval o).run P w) v h' := by
  obtain ⟨i, zv, hi, hzv, hall, hze, hcz⟩ := zeroOf_inv hz
  rw [hin] at hi
  injection hi with hi
  subst hi
  have hzs : zv.cells.size = inf.size := by have := (hcz Γ).len; rw [Array.length_toList] at this; omega
  simp only [istep] at hs
  split at hs
  · rename_i lv cv hlk hck
    rw [hlk] at hl
    rw [hck] at hc
    split at hs
    · rename_i hb
      simp only [Option.some.injEq, Prod.mk.injEq] at hs
      obtain ⟨rfl, rfl⟩ := hs
      obtain ⟨v, w', Γ', hrun, hle, hv, HW⟩ := run_mks (P := P) ht hin hzv hzs hall (szsOf P 20 el) H hb.1 hb.2.1 hb.2.2.1 hb.2.2.2
      rw [← hze] at HW
      exact Res.valw (by unfold execOp; simp only [hop, hl.inv_v, hc.inv_v]) hrun hle hv HW
    · cases hs
  · cases hs
theorem snd_slS {o : Oper} {t : TypeId} {X : Operand} {LO HI : Option Operand} (hop : o.op = .slice t X LO HI none) (ht : P.underlying t = some .string) {x : Opd} (hx : RV Γ (e x) (a.eval X)) {lo hi : Option Opd} (hl : BndOk Γ e lo (LO.map a.eval)) (hh : BndOk Γ e hi (HI.map a.eval)) (H : WR w0 Γ h w) {v : AV} {h' : AH}
    (hs : istep (.slS x lo hi) e h = some (v, h')) : Res P w0 Γ ((execOp a.eval o).run P w) v h' := by
  simp only [istep] at hs
  split at hs
  · rename_i s hk
    rw [hk] at hx
    split at hs
    · rename_i b hb
      split at hs
      · rename_i a' ha
        simp only [Option.some.injEq, Prod.mk.injEq] at hs
        obtain ⟨rfl, rfl⟩ := hs
        exact Res.val (by unfold execOp; simp only [hop, Option.map_none, hx.inv_v]) (run_cutS (P := P) ht hl hh hb ha) (.v _) H
      · cases hs
    · cases hs
  · cases hs
theorem snd_slA {o : Oper} {t el : TypeId} {n : Nat} {X : Operand} {LO HI : Option Operand} (hop : o.op = .slice t X LO HI none) (ht : P.underlying t = some (.array n el)) {inf : TypeInfo} (hin : P.info? el = some inf) {x : Opd} (hx : RV Γ (e x) (a.eval X)) {lo hi : Option Opd} (hl : BndOk Γ e lo (LO.map a.eval)) (hh : BndOk Γ e hi (HI.map a.eval))
    (H : WR w0 Γ h w) {v : AV} {h' : AH} (hs : istep (.slA n inf.size x lo hi) e h = some (v, h')) : Res P w0 Γ ((execOp a.eval o).run P w) v h' := by
  simp only [istep] at hs
  split at hs
  · rename_i id off hk
    rw [hk] at hx
    split at hs
    · rename_i b hb
      split at hs
      · rename_i a' ha
        simp only [Option.some.injEq, Prod.mk.injEq] at hs
        obtain ⟨rfl, rfl⟩ := hs
        obtain ⟨v, hrun, hv⟩ := run_cutA (P := P) (w := w) ht hin rfl hx hl hh hb ha
        exact Res.val (by unfold execOp; simp only [hop, Option.map_none]) hrun hv H
      · cases hs
    · cases hs
  · cases hs
theorem snd_fad {o : Oper} {s : TypeId} {X : Operand} {f : Nat} (hop : o.op = .fieldAddr s X f) {fs : Array Field} (ht : P.underlying s = some (.struct fs)) {fd : Field} (hfd : fs[f]? = some fd) {inf : TypeInfo} (hin : P.info? fd.type = some inf) (h0 : inf.size ≠ 0) {x : Opd} (hx : RV Γ (e x) (a.eval X)) (H : WR w0 Γ h w) {v : AV} {h' : AH}
    (hs : istep (.fad x fd.offset) e h = some (v, h')) : Res P w0 Γ ((execOp a.eval o).run P w) v h' := by
  have hr : (execOp a.eval o).run P w = (do pure (Next.value (← Instr.fieldAt s (a.eval X) f)) : Sem Next).run P w := by unfold execOp; simp only [hop]
  have hrun : ∀ b off, a.eval X = .pointer (some ⟨b, off, none⟩) → (Instr.fieldAt s (a.eval X) f).run P w = .ok (.pointer (some ⟨b, off + fd.offset, none⟩)) w := by
    intro b off hX
    rw [hX]
    simp only [Instr.fieldAt, Sem.run_bind, run_underlying ht, Result.andThen_ok, hfd, Instr.sureAddr, Sem.run_pure, fieldPlace, run_sizeOf' hin, h0, if_false, addr_add]
  simp only [istep] at hs
  split at hs
  · rename_i id off hk
    rw [hk] at hx
    simp only [Option.some.injEq, Prod.mk.injEq] at hs
    obtain ⟨rfl, rfl⟩ := hs
    obtain ⟨b, hb, hxv⟩ := hx.inv_ptr
    exact Res.val hr (hrun b off hxv) (.ptr hb) H
  · rename_i cs off hk
    rw [hk] at hx
    simp only [Option.some.injEq, Prod.mk.injEq] at hs
    obtain ⟨rfl, rfl⟩ := hs
    obtain ⟨b, o', u, hxv, h1, h2, h3⟩ := hx.inv_lptr
    refine Res.val hr (hrun b (o' + off) hxv) ?_ H
    rw [Nat.add_assoc]
    exact .lptr h1 h2 h3
  · cases hs
theorem snd_fld {o : Oper} {s : TypeId} {X : Operand} {f : Nat} (hop : o.op = .field s X f) {fs : Array Field} (ht : P.underlying s = some (.struct fs)) {fd : Field} (hfd : fs[f]? = some fd) {sz : Option Nat} (hin : aggSz P fd.type = some sz) {x : Opd} (hx : RV Γ (e x) (a.eval X)) (H : WR w0 Γ h w) {v : AV} {h' : AH}
    (hs : istep (.fld x fd.offset sz) e h = some (v, h')) : Res P w0 Γ ((execOp a.eval o).run P w) v h' := by
  simp only [istep] at hs
  split at hs
  · rename_i cs hk
    rw [hk] at hx
    simp only [Option.map_eq_some_iff, Prod.mk.injEq] at hs
    obtain ⟨v', hv', rfl, rfl⟩ := hs
    obtain ⟨vs, hxv, hs1, h1, hr⟩ := hx.inv_agg
    obtain ⟨y, hy, hyv⟩ := run_part (P := P) (w := w) hin hs1 h1 hr hv'
    refine Res.val (s := Instr.field s (a.eval X) f) (by unfold execOp; simp only [hop]) ?_ hyv H
    rw [hxv]
    simp only [Instr.field, Sem.run_bind, run_underlying ht, Result.andThen_ok, hfd, asAgg, Sem.run_pure, hy]
  · cases hs
theorem snd_iaL {o : Oper} {t el : TypeId} {X I : Operand} (hop : o.op = .indexAddr t X I) (ht : P.underlying t = some (.slice el)) {inf : TypeInfo} (hin : P.info? el = some inf) {x i : Opd} (hx : RV Γ (e x) (a.eval X)) (hi : RV Γ (e i) (a.eval I)) (H : WR w0 Γ h w) {v : AV} {h' : AH}
    (hs : istep (.iaL inf.size x i) e h = some (v, h')) : Res P w0 Γ ((execOp a.eval o).run P w) v h' := by
  simp only [istep] at hs
  split at hs
  · rename_i sz' rows tok k j hk hik
    rw [hk] at hx
    rw [hik] at hi
    split at hs
    · rename_i hsz
      split at hs
      · rename_i h0
        split at hs
        · rename_i r hr
          simp only [Option.some.injEq, Prod.mk.injEq] at hs
          obtain ⟨rfl, rfl⟩ := hs
          obtain ⟨v, hrun, hv⟩ := run_iaL (P := P) (w := w) ⟨_, _, ht, hin, rfl⟩ hsz hx h0 hr (k := k)
          exact Res.val (by unfold execOp; simp only [hop, hi.inv_v]) hrun hv H
        · cases hs
      · cases hs
    · cases hs
  · rename_i id off len cap k j hk hik
    rw [hk] at hx
    rw [hik] at hi
    split at hs
    · rename_i hj
      simp only [Option.some.injEq, Prod.mk.injEq] at hs
      obtain ⟨rfl, rfl⟩ := hs
      obtain ⟨v, hrun, hv⟩ := run_iaR (P := P) (w := w) ⟨_, _, ht, hin, rfl⟩ hx hj.1 hj.2 (k := k)
      exact Res.val (by unfold execOp; simp only [hop, hi.inv_v]) hrun hv H
    · cases hs
  · cases hs
theorem snd_iaA {o : Oper} {t el : TypeId} {n : Nat} {X I : Operand} (hop : o.op = .indexAddr t X I) (ht : P.underlying t = some (.array n el)) {inf : TypeInfo} (hin : P.info? el = some inf) {x i : Opd} (hx : RV Γ (e x) (a.eval X)) (hi : RV Γ (e i) (a.eval I)) (H : WR w0 Γ h w) {v : AV} {h' : AH}
    (hs : istep (.iaA n inf.size x i) e h = some (v, h')) : Res P w0 Γ ((execOp a.eval o).run P w) v h' := by
  simp only [istep] at hs
  split at hs
  · rename_i id off k j hk hik
    rw [hk] at hx
    rw [hik] at hi
    split at hs
    · rename_i hj
      simp only [Option.some.injEq, Prod.mk.injEq] at hs
      obtain ⟨rfl, rfl⟩ := hs
      obtain ⟨b, hb, hxv⟩ := hx.inv_ptr
      have hrun := run_iaA (P := P) (w := w) ht hin rfl hxv hj.1 hj.2 (k := k)
      rw [addr_add] at hrun
      exact Res.val (by unfold execOp; simp only [hop, hi.inv_v]) hrun (.ptr hb) H
    · cases hs
  · rename_i cs off k j hk hik
    rw [hk] at hx
    rw [hik] at hi
    split at hs
    · rename_i hj
      simp only [Option.some.injEq, Prod.mk.injEq] at hs
      obtain ⟨rfl, rfl⟩ := hs
      obtain ⟨b, o', u, hxv, h1, h2, h3⟩ := hx.inv_lptr
      have hrun := run_iaA (P := P) (w := w) ht hin rfl hxv hj.1 hj.2 (k := k)
      rw [addr_add, Nat.add_assoc] at hrun
      exact Res.val (by unfold execOp; simp only [hop, hi.inv_v]) hrun (.lptr h1 h2 h3) H
    · cases hs
  · cases hs
theorem snd_ixS {o : Oper} {t : TypeId} {X I : Operand} (hop : o.op = .index t X I) (ht : P.underlying t = some .string) {x i : Opd} (hx : RV Γ (e x) (a.eval X)) (hi : RV Γ (e i) (a.eval I)) (H : WR w0 Γ h w) {v : AV} {h' : AH} (hs : istep (.ixS x i) e h = some (v, h')) : Res P w0 Γ ((execOp a.eval o).run P w) v h' := by
  simp only [istep] at hs
  split at hs
  · rename_i s k j hk hik
    rw [hk] at hx
    rw [hik] at hi
    split at hs
    · rename_i h0
      split at hs
      · rename_i b hb
        simp only [Option.some.injEq, Prod.mk.injEq] at hs
        obtain ⟨rfl, rfl⟩ := hs
        exact Res.val (by unfold execOp; simp only [hop, hi.inv_v, hx.inv_v]) (run_ixS (P := P) ht h0 hb (k := k)) (.v _) H
      · cases hs
    · cases hs
  · cases hs
theorem snd_ixA {o : Oper} {t el : TypeId} {n : Nat} {X I : Operand} (hop : o.op = .index t X I) (ht : P.underlying t = some (.array n el)) {inf : TypeInfo} (hin : P.info? el = some inf) {sz : Option Nat} (hag : aggSz P el = some sz) {x i : Opd} (hx : RV Γ (e x) (a.eval X)) (hi : RV Γ (e i) (a.eval I)) (H : WR w0 Γ h w) {v : AV} {h' : AH}
    (hs : istep (.ixA n inf.size sz.isSome x i) e h = some (v, h')) : Res P w0 Γ ((execOp a.eval o).run P w) v h' := by
  have hsz : (if sz.isSome then some inf.size else none) = sz := by
    obtain ⟨i2, hi2, hh⟩ := aggSz_info hag
    rw [hin] at hi2
    injection hi2 with hi2
    subst hi2
    cases sz with
    | none => rfl
    | some m => simp [hh m rfl]
  simp only [istep] at hs
  split at hs
  · rename_i cs k j hk hik
    rw [hk] at hx
    rw [hik] at hi
    split at hs
    · rename_i hj
      rw [hsz] at hs
      simp only [Option.map_eq_some_iff, Prod.mk.injEq] at hs
      obtain ⟨v', hv', rfl, rfl⟩ := hs
      obtain ⟨vs, hxv, hs1, h1, hr⟩ := hx.inv_agg
      obtain ⟨y, hy, hyv⟩ := run_ixA (P := P) (w := w) ht hin hag hs1 h1 hr hj.1 hj.2 hv' (k := k)
      exact Res.val (by unfold execOp; simp only [hop, hi.inv_v, hxv]) hy hyv H
    · cases hs
  · cases hs
theorem snd_ext {o : Oper} {X : Operand} {i : Nat} (hop : o.op = .extract X i) {x : Opd} (hx : RV Γ (e x) (a.eval X)) (H : WR w0 Γ h w) {v : AV} {h' : AH} (hs : istep (.ext x i) e h = some (v, h')) : Res P w0 Γ ((execOp a.eval o).run P w) v h' := by
  simp only [istep] at hs
  split at hs
  · rename_i vs hk
    rw [hk] at hx
    simp only [Option.map_eq_some_iff, Prod.mk.injEq] at hs
    obtain ⟨v', hv', rfl, rfl⟩ := hs
    obtain ⟨us, hxv, hs1, hr⟩ := hx.inv_tup
    obtain ⟨hlt, rfl⟩ := List.getElem?_eq_some_iff.1 hv'
    have hlt2 : i < us.size := by omega
    refine Res.val (s := Instr.extract (a.eval X) i) (x := us[i]) (by unfold execOp; simp only [hop]) ?_ (hr i hlt hlt2) H
    rw [hxv]
    simp [Instr.extract, hlt2]
  · cases hs
theorem snd_rng {o : Oper} {t : TypeId} {X : Operand} (hop : o.op = .range t X) (ht : P.underlying t = some .string) {x : Opd} (hx : RV Γ (e x) (a.eval X)) (H : WR w0 Γ h w) {v : AV} {h' : AH} (hs : istep (.rng x) e h = some (v, h')) : Res P w0 Γ ((execOp a.eval o).run P w) v h' := by
  simp only [istep] at hs
  split at hs
  · rename_i s hk
    rw [hk] at hx
    simp only [Option.some.injEq, Prod.mk.injEq] at hs
    obtain ⟨rfl, rfl⟩ := hs
    exact Res.valw (w := w) (s := Instr.range t (a.eval X)) (x := .pointer (some ⟨w.heap.size, 0, none⟩)) (w' := w.alloc (.stringIter s 0)) (by unfold execOp; simp only [hop]) (by rw [hx.inv_v]; simp only [Instr.range, Sem.run_bind, run_underlying ht, Result.andThen_ok, Sem.run_pure, run_newObj]; rfl) (H.le_obj _) (.ptr (by simp [Con.withObj])) (H.new _ _ (fun w' hw' => hw'))
  · cases hs
theorem snd_nxt {o : Oper} {X : Operand} (hop : o.op = .next X true) {x : Opd} (hx : RV Γ (e x) (a.eval X)) (H : WR w0 Γ h w) {v : AV} {h' : AH} (hs : istep (.nxt x) e h = some (v, h')) : Res P w0 Γ ((execOp a.eval o).run P w) v h' := by
  simp only [istep] at hs
  split at hs
  · rename_i id hk
    rw [hk] at hx
    split at hs
    · rename_i s pos ho
      obtain ⟨w', hrun, HW⟩ := run_nxt (P := P) H hx ho o.type
      have hr : (execOp a.eval o).run P w = (do pure (Next.value (← Instr.next (a.eval X) true o.type)) : Sem Next).run P w := by unfold execOp; simp only [hop]
      split at hs
      · rename_i hp
        rw [if_pos hp] at hrun HW
        simp only [Option.some.injEq, Prod.mk.injEq] at hs
        obtain ⟨rfl, rfl⟩ := hs
        refine Res.valw hr hrun (.refl _) (.tup rfl (fun i hi hi' => ?_)) HW
        match i, hi with
        | 0, _ => exact .v _
        | 1, _ => exact .v _
        | 2, _ => exact .v _
      · rename_i hp
        rw [if_neg hp] at hrun HW
        simp only [Option.some.injEq, Prod.mk.injEq] at hs
        obtain ⟨rfl, rfl⟩ := hs
        refine Res.valw hr hrun (.refl _) (.tup rfl (fun i hi hi' => ?_)) HW
        match i, hi with
        | 0, _ => exact .v _
    · cases hs
  · cases hs
theorem snd_look {o : Oper} {mt kt et : TypeId} {X K : Operand} {ok : Bool} (hop : o.op = .lookup mt X K ok) (ht : P.underlying mt = some (.map kt et)) {ck : CK} (hk : ckOf P kt = some ck) {z : AV} (hz : zeroV P et = some z) {x k : Opd} (hx : RV Γ (e x) (a.eval X)) (hkk : RV Γ (e k) (a.eval K)) (H : WR w0 Γ h w) {v : AV} {h' : AH}
    (hs : istep (.look ck z ok x k) e h = some (v, h')) : Res P w0 Γ ((execOp a.eval o).run P w) v h' := by
  obtain ⟨i, zv, hi, hzv, hzr⟩ := zeroV_inv hz
  simp only [istep] at hs
  split at hs
  · rename_i kv hkv
    rw [hkv] at hkk
    simp only [Option.map_eq_some_iff, Prod.mk.injEq] at hs
    obtain ⟨v', hv', rfl, rfl⟩ := hs
    obtain ⟨y, hy, hyv⟩ := run_look (P := P) ht hk hi hzv hzr ok H hx hv'
    exact Res.val (by unfold execOp; simp only [hop, hkk.inv_v]) hy hyv H
  · cases hs
theorem snd_upd {o : Oper} {mt kt et : TypeId} {M K X : Operand} (hop : o.op = .mapUpdate mt M K X ∨ o.op = .insert mt M K X) (ht : P.underlying mt = some (.map kt et)) {ck : CK} (hk : ckOf P kt = some ck) {m k x : Opd} (hm : RV Γ (e m) (a.eval M)) (hkk : RV Γ (e k) (a.eval K)) (hx : RV Γ (e x) (a.eval X)) (H : WR w0 Γ h w) {v : AV} {h' : AH}
    (hs : istep (.upd ck m k x) e h = some (v, h')) : Res P w0 Γ ((execOp a.eval o).run P w) v h' := by
  simp only [istep] at hs
  split at hs
  · rename_i id kv hmv hkv
    rw [hkv] at hkk
    rw [hmv] at hm
    split at hs
    · rename_i es ho
      simp only [Option.map_eq_some_iff, Prod.mk.injEq] at hs
      obtain ⟨h1, hh1, rfl, rfl⟩ := hs
      obtain ⟨w', hrun, HW⟩ := run_upd (P := P) ht hk H hm hx ho hh1
      refine Res.unit (s := Instr.mapUpdate mt (a.eval M) kv (a.eval X)) ?_ hrun HW
      rcases hop with hop | hop <;> (unfold execOp; simp only [hop, hkk.inv_v])
    · cases hs
  · cases hs
end
end Go.Abs
