/- What the proof needs, part 3: A program logic over abstract states, 4: comparisons, arithmetic, conversions. -/
import Derived.Test.YtlmgpkopcgcbgaaGreatDoorQServeParts2
import Derived.Laws.StructEq
import Derived.Laws.Strings
/- A program logic over abstract states, 4: comparisons, arithmetic, conversions. -/
namespace Go.Abs
open Go Go.RowKit
set_option linter.unusedVariables false
set_option linter.unusedSimpArgs false

def isConst : Operand → Bool
  | .const _ => true
  | _ => false
def ckOf (P : Program) (t : TypeId) : Option CK :=
  match P.underlying t with
  | some (.int _) => some .int
  | some .string => some .str
  | some .bool => some .bool
  | _ => none
def fieldKs (P : Program) : Nat → List Field → Option (List CK)
  | _, [] => some []
  | i, f :: fs => if f.name != "_" && f.offset == i then match ckOf P f.type, fieldKs P (i + 1) fs with
      | some k, some ks => some (k :: ks)
      | _, _ => none
    else none
/-- How '==' compares at a type. -/
def eqOf (P : Program) (t : TypeId) (X Y : Operand) : Option EqK :=
  match P.underlying t with
  | some .bool => some .bool
  | some (.pointer _) => some .ptr
  | some (.interface _) => if isConst X || isConst Y then some .iface else none
  | some (.slice _) => match Y with
    | .const (.slice none 0 0) => some .slice
    | _ => none
  | some (.func _ _ _) => some .func
  | some (.struct fs) => if !P.stoodInHeld t && !P.eqGuardType P.depth t then (fieldKs P 0 fs.toList).map .agg else none
  | some _ => some .other
  | none => none

section
variable {P : Program} {w0 : World} {Γ : Con} {h : AH} {w : World}

theorem equalIn_cell {d : Nat} {t : TypeId} {k : CK} (ht : ckOf P t = some k) {A B : AV} {x y : Value} {b : Bool} (hx : RV Γ A x) (hy : RV Γ B y) (he : cellEq k A B = some b) :
    (Op.equalIn (d + 1) t x y).run P w = .ok b w := by
  unfold ckOf at ht
  unfold cellEq at he
  split at he
  · split at he
    · rename_i k a k' b' hkk
      injection he with he
      subst he; subst hkk
      rw [hx.inv_v, hy.inv_v]
      split at ht <;> simp at ht
      rename_i k0 hu; exact run_equalIn_int w d t k k0 a b' hu
    · cases he
  · rename_i a b'
    injection he with he
    subst he
    rw [hx.inv_v, hy.inv_v]
    split at ht <;> simp at ht
    rename_i hu; exact run_equalIn_string w d t a b' hu
  · rename_i a b'
    injection he with he
    subst he
    rw [hx.inv_v, hy.inv_v]
    split at ht <;> simp at ht
    rename_i hu; exact run_equalIn_bool' w d t a b' hu
  · cases he

theorem run_part_one {t : TypeId} {k : CK} (ht : ckOf P t = some k) {vs : Array Value} {i : Nat} (hi : i < vs.size) : (part t vs i).run P w = .ok vs[i] w := by
  unfold part isAgg
  unfold ckOf at ht
  split at ht <;> simp at ht <;> (rename_i hu; simp [run_underlying hu, hi])

theorem eqFields_cells {d : Nat} (xs ys : Array Value) : ∀ (fs : List Field) (i : Nat) (ks : List CK) (as bs : List AV) (b : Bool), fieldKs P i fs = some ks → cellsEq ks as bs = some b →
    (∀ (j : Nat) (h : j < as.length), ∃ h' : i + j < xs.size, RV Γ as[j] xs[i + j]) → (∀ (j : Nat) (h : j < bs.length), ∃ h' : i + j < ys.size, RV Γ bs[j] ys[i + j]) →
    (Op.eqFields (d + 1) xs ys fs).run P w = .ok b w
  | [], i, ks, as, bs, b, hk, hc, _, _ => by
    simp only [fieldKs, Option.some.injEq] at hk
    subst hk
    cases as <;> cases bs <;> simp [cellsEq] at hc
    subst hc
    rfl
  | f :: fs, i, ks, as, bs, b, hk, hc, hx, hy => by
    simp only [fieldKs] at hk
    split at hk
    · rename_i hn
      simp only [Bool.and_eq_true, bne_iff_ne, ne_eq, beq_iff_eq] at hn
      split at hk
      · rename_i k ks' h1 h2
        injection hk with hk
        subst hk
        cases as with
        | nil => simp [cellsEq] at hc
        | cons a as =>
          cases bs with
          | nil => simp [cellsEq] at hc
          | cons b' bs =>
            obtain ⟨hx0, hx1⟩ := hx 0 (by simp)
            obtain ⟨hy0, hy1⟩ := hy 0 (by simp)
            simp only [Nat.add_zero, List.getElem_cons_zero] at hx0 hx1 hy0 hy1
            simp only [cellsEq] at hc
            simp only [Op.eqFields, ne_eq, hn.1, not_false_eq_true, if_true, hn.2]
            rw [Sem.run_bind, run_part_one h1 hx0]
            simp only [Result.andThen_ok]
            rw [Sem.run_bind, run_part_one h1 hy0]
            simp only [Result.andThen_ok]
            split at hc
            · rename_i he
              rw [Sem.run_bind, equalIn_cell h1 hx1 hy1 he]
              simp only [Result.andThen_ok, Bool.not_true, Bool.false_eq_true, if_false]
              refine eqFields_cells xs ys fs (i + 1) ks' as bs b h2 hc (fun j hj => ?_) (fun j hj => ?_)
              · obtain ⟨u1, u2⟩ := hx (j + 1) (by simpa using hj)
                have e : i + (j + 1) = i + 1 + j := by omega
                refine ⟨by omega, ?_⟩
                simp only [List.getElem_cons_succ] at u2
                simpa only [e] using u2
              · obtain ⟨u1, u2⟩ := hy (j + 1) (by simpa using hj)
                have e : i + (j + 1) = i + 1 + j := by omega
                refine ⟨by omega, ?_⟩
                simp only [List.getElem_cons_succ] at u2
                simpa only [e] using u2
            · rename_i he
              injection hc with hc
              subst hc
              rw [Sem.run_bind, equalIn_cell h1 hx1 hy1 he]
              simp
            · cases hc
      · cases hk
    · cases hk

theorem run_eqB {t : TypeId} {X Y : Operand} {k : EqK} (hk : eqOf P t X Y = some k) {A B : AV} {x y : Value} {b : Bool} (hx : RV Γ A x) (hy : RV Γ B y) (he : eqB k A B = some b) (hyc : ∀ v, Y = .const v → y = v) (op : BinOp) (d : Nat) :
    (eqGuard op t X Y x y).run P w = .ok () w ∧ (Op.equalIn (d + 1 + 1) t x y).run P w = .ok b w ∧ binOp .eql t x y = (do pure (.bool (← Op.equal t x y))) ∧ binOp .neq t x y = (do pure (.bool (!(← Op.equal t x y)))) := by
  have hnil : ∀ {X Y : Operand}, (isConst X || isConst Y) = true → ∀ op, eqGuard op t X Y .nilIface .nilIface = pure () := by
    intro X Y hc op
    cases X <;> cases Y <;> simp [isConst] at hc <;> cases op <;> rfl
  unfold eqB at he
  unfold eqOf at hk
  split at he <;> first | (simp at he; done) | (simp only [Option.some.injEq] at he) | skip
  -- bool
  · subst he
    rw [hx.inv_v, hy.inv_v]
    have hu : P.underlying t = some .bool := by split at hk <;> first | assumption | (simp at hk; done) | (split at hk <;> simp at hk)
    refine ⟨by rw [eqGuard_at_bool]; rfl, ?_, rfl, rfl⟩
    exact run_equalIn_bool' w (d + 1) t _ _ hu
  -- pointers
  · subst he
    rw [hx.inv_v, hy.inv_v]
    obtain ⟨e, hu⟩ : ∃ e, P.underlying t = some (.pointer e) := by split at hk <;> first | exact ⟨_, by assumption⟩ | (simp at hk; done) | (split at hk <;> simp at hk)
    exact ⟨by rw [eqGuard_at_pointer]; rfl, by rw [Op.equalIn, Sem.run_bind, run_underlying hu]; rfl, rfl, rfl⟩
  · subst he
    obtain ⟨bb, _, rfl⟩ := hy.inv_ptr
    rw [hx.inv_v]
    obtain ⟨e, hu⟩ : ∃ e, P.underlying t = some (.pointer e) := by split at hk <;> first | exact ⟨_, by assumption⟩ | (simp at hk; done) | (split at hk <;> simp at hk)
    exact ⟨by rw [eqGuard_at_pointer]; rfl, by rw [Op.equalIn, Sem.run_bind, run_underlying hu]; rfl, rfl, rfl⟩
  · subst he
    obtain ⟨bb, oo, uu, rfl, _⟩ := hy.inv_lptr
    rw [hx.inv_v]
    obtain ⟨e, hu⟩ : ∃ e, P.underlying t = some (.pointer e) := by split at hk <;> first | exact ⟨_, by assumption⟩ | (simp at hk; done) | (split at hk <;> simp at hk)
    exact ⟨by rw [eqGuard_at_pointer]; rfl, by rw [Op.equalIn, Sem.run_bind, run_underlying hu]; rfl, rfl, rfl⟩
  · subst he
    obtain ⟨bb, _, rfl⟩ := hx.inv_ptr
    rw [hy.inv_v]
    obtain ⟨e, hu⟩ : ∃ e, P.underlying t = some (.pointer e) := by split at hk <;> first | exact ⟨_, by assumption⟩ | (simp at hk; done) | (split at hk <;> simp at hk)
    exact ⟨by rw [eqGuard_at_pointer]; rfl, by rw [Op.equalIn, Sem.run_bind, run_underlying hu]; rfl, rfl, rfl⟩
  · subst he
    obtain ⟨bb, oo, uu, rfl, _⟩ := hx.inv_lptr
    rw [hy.inv_v]
    obtain ⟨e, hu⟩ : ∃ e, P.underlying t = some (.pointer e) := by split at hk <;> first | exact ⟨_, by assumption⟩ | (simp at hk; done) | (split at hk <;> simp at hk)
    exact ⟨by rw [eqGuard_at_pointer]; rfl, by rw [Op.equalIn, Sem.run_bind, run_underlying hu]; rfl, rfl, rfl⟩
  -- interfaces
  · subst he
    rw [hx.inv_v, hy.inv_v]
    obtain ⟨⟨ms, hu⟩, hc⟩ : (∃ e, P.underlying t = some (.interface e)) ∧ (isConst X || isConst Y) = true := by
      split at hk <;> first | (rename_i hu; split at hk <;> first | (simp at hk; done) | exact ⟨⟨_, hu⟩, by assumption⟩) | (simp at hk; done) | (split at hk <;> simp at hk)
    exact ⟨by rw [hnil hc]; rfl, by rw [Op.equalIn, Sem.run_bind, run_underlying hu]; rfl, rfl, rfl⟩
  · subst he
    obtain ⟨z, rfl, _⟩ := hx.inv_iface
    rw [hy.inv_v]
    obtain ⟨⟨ms, hu⟩, hc⟩ : (∃ e, P.underlying t = some (.interface e)) ∧ (isConst X || isConst Y) = true := by
      split at hk <;> first | (rename_i hu; split at hk <;> first | (simp at hk; done) | exact ⟨⟨_, hu⟩, by assumption⟩) | (simp at hk; done) | (split at hk <;> simp at hk)
    exact ⟨by rw [eqGuard_at_iface]; rfl, by rw [Op.equalIn, Sem.run_bind, run_underlying hu]; rfl, rfl, rfl⟩
  · subst he
    obtain ⟨z, rfl, _⟩ := hy.inv_iface
    rw [hx.inv_v]
    obtain ⟨⟨ms, hu⟩, hc⟩ : (∃ e, P.underlying t = some (.interface e)) ∧ (isConst X || isConst Y) = true := by
      split at hk <;> first | (rename_i hu; split at hk <;> first | (simp at hk; done) | exact ⟨⟨_, hu⟩, by assumption⟩) | (simp at hk; done) | (split at hk <;> simp at hk)
    exact ⟨by rw [eqGuard_nil_iface]; rfl, by rw [Op.equalIn, Sem.run_bind, run_underlying hu]; rfl, rfl, rfl⟩
  -- slices
  · subst he
    obtain ⟨⟨e, hu⟩, hn⟩ : (∃ e, P.underlying t = some (.slice e)) ∧ y = .slice none 0 0 := by
      split at hk <;> first | (rename_i hu; split at hk <;> first | (simp at hk; done) | exact ⟨⟨_, hu⟩, hyc _ rfl⟩) | (simp at hk; done) | (split at hk <;> simp at hk)
    subst hn
    cases hx with
    | list hc hsz hF h1 hr ht => exact ⟨by rw [eqGuard_at_slice]; rfl, by rw [Op.equalIn, Sem.run_bind, run_underlying hu]; rfl, rfl, rfl⟩
  · subst he
    obtain ⟨⟨e, hu⟩, hn⟩ : (∃ e, P.underlying t = some (.slice e)) ∧ y = .slice none 0 0 := by
      split at hk <;> first | (rename_i hu; split at hk <;> first | (simp at hk; done) | exact ⟨⟨_, hu⟩, hyc _ rfl⟩) | (simp at hk; done) | (split at hk <;> simp at hk)
    subst hn
    obtain ⟨bb, c, _, rfl, _⟩ := hx.inv_row
    exact ⟨by rw [eqGuard_at_slice]; rfl, by rw [Op.equalIn, Sem.run_bind, run_underlying hu]; rfl, rfl, rfl⟩
  -- functions
  · subst he
    obtain ⟨vf, vc, rfl, _⟩ := hx.inv_func
    rw [hy.inv_v]
    obtain ⟨e, e', e'', hu⟩ : ∃ e e' e'', P.underlying t = some (.func e e' e'') := by split at hk <;> first | exact ⟨_, _, _, by assumption⟩ | (simp at hk; done) | (split at hk <;> simp at hk)
    exact ⟨by rw [eqGuard_at_func]; rfl, by rw [Op.equalIn, Sem.run_bind, run_underlying hu]; rfl, rfl, rfl⟩
  · subst he
    rw [hx.inv_v, hy.inv_v]
    obtain ⟨e, e', e'', hu⟩ : ∃ e e' e'', P.underlying t = some (.func e e' e'') := by split at hk <;> first | exact ⟨_, _, _, by assumption⟩ | (simp at hk; done) | (split at hk <;> simp at hk)
    exact ⟨by rw [eqGuard_at_nilFunc]; rfl, by rw [Op.equalIn, Sem.run_bind, run_underlying hu]; rfl, rfl, rfl⟩
  -- structs
  · obtain ⟨xs, rfl, hxs, _, hxr⟩ := hx.inv_agg
    obtain ⟨ys, rfl, hys, _, hyr⟩ := hy.inv_agg
    split at hk <;> first | (simp at hk; done) | skip
    · split at hk <;> simp at hk
    · rename_i fs hu
      split at hk
      · rename_i hg
        simp only [Bool.and_eq_true, Bool.not_eq_true'] at hg
        simp only [Option.map_eq_some_iff] at hk
        obtain ⟨ks, hks, hk⟩ := hk
        injection hk with hk
        subst hk
        have hfo : P.fieldsOf t = fs := by simp [Program.fieldsOf, hu]
        have hu' : P.underlying t = some (.struct (P.fieldsOf t)) := by rw [hfo]; exact hu
        refine ⟨run_eqGuard_agg w op t X Y xs ys hg.2, ?_, rfl, rfl⟩
        rw [run_equalIn_struct w (d + 1) t xs ys hu' hg.1, hfo]
        refine eqFields_cells (Γ := Γ) (d := d) xs ys fs.toList 0 ks _ _ b hks he (fun j hj => ?_) (fun j hj => ?_)
        · exact ⟨by omega, by simpa using hxr j hj (by omega)⟩
        · exact ⟨by omega, by simpa using hyr j hj (by omega)⟩
      · cases hk
theorem run_intBin {op : BinOp} {k : IntKind} {a b : Int} {z : Value} (hz : intBin op k a b = some z) (t : TypeId) : (binOp op t (.int k a) (.int k b)).run P w = .ok z w := by
  unfold intBin at hz
  split at hz <;> first
    | (cases hz; done)
    | (injection hz with hz; subst hz; simp [binOp, Op.intArith, Op.intBits, Op.intCmp, bits]; done)
    | (split at hz <;> first | (cases hz; done) | (rename_i hb; injection hz with hz; subst hz; simp [binOp, Op.intDiv, hb]; done))
theorem run_shiftBin {op : BinOp} {k yk : IntKind} {a b : Int} {z : Value} (hz : shiftBin op k a b = some z) (t : TypeId) : (binOp op t (.int k a) (.int yk b)).run P w = .ok z w := by
  unfold shiftBin at hz
  split at hz
  · rename_i hb
    split at hz
    · injection hz with hz; subst hz
      rw [binOp_shl, shift_shl k yk a b hb.1 hb.2]; rfl
    · injection hz with hz; subst hz
      rw [binOp_shr, shift_shr k yk a b hb.1 hb.2]; rfl
    · cases hz
  · cases hz
theorem run_strBin {op : BinOp} {a b : ByteArray} {z : Value} (hz : strBin op a b = some z) (t : TypeId) : (binOp op t (.string a) (.string b)).run P w = .ok z w := by
  unfold strBin at hz
  split at hz
  · split at hz
    · rename_i hle
      injection hz with hz; subst hz
      have : ¬ ((a.size + b.size : Nat) : Int) > IntKind.i64.max := by rw [IntKind.max_i64]; omega
      simp only [binOp, Op.stringOp, this, if_false]
      rfl
    · cases hz
  all_goals first | (cases hz; done) | (injection hz with hz; subst hz; simp [binOp, Op.stringOp]; done)

/-- What '==', '+', '<' .. come to. -/
theorem run_abin {op : BinOp} {t : TypeId} {X Y : Operand} {k : EqK} (hk : eqOf P t X Y = some k) {A B C : AV} {x y : Value} (hx : RV Γ A x) (hy : RV Γ B y) (hyc : ∀ v, Y = .const v → y = v) (hc : abin op k A B = some C) :
    ∃ z, (do eqGuard op t X Y x y; binOp op t x y : Sem Value).run P w = .ok z w ∧ RV Γ C z := by
  unfold abin at hc
  split at hc
  · rename_i ka a kb b
    rw [hx.inv_v, hy.inv_v]
    split at hc
    · simp only [Option.map_eq_some_iff] at hc
      obtain ⟨z, hz, rfl⟩ := hc
      exact ⟨z, by rw [eqGuard_at_int]; exact run_shiftBin (yk := kb) hz t, .v z⟩
    · simp only [Option.map_eq_some_iff] at hc
      obtain ⟨z, hz, rfl⟩ := hc
      exact ⟨z, by rw [eqGuard_at_int]; exact run_shiftBin (yk := kb) hz t, .v z⟩
    · split at hc
      · rename_i hkk
        subst hkk
        simp only [Option.map_eq_some_iff] at hc
        obtain ⟨z, hz, rfl⟩ := hc
        exact ⟨z, by rw [eqGuard_at_int]; exact run_intBin hz t, .v z⟩
      · cases hc
  · rename_i a b
    rw [hx.inv_v, hy.inv_v]
    simp only [Option.map_eq_some_iff] at hc
    obtain ⟨z, hz, rfl⟩ := hc
    exact ⟨z, by rw [eqGuard_at_string]; exact run_strBin hz t, .v z⟩
  · split at hc
    · simp only [Option.map_eq_some_iff] at hc
      obtain ⟨b, hb, rfl⟩ := hc
      obtain ⟨h1, h2, h3, h4⟩ := run_eqB (w := w) hk hx hy hb hyc .eql 9998
      refine ⟨_, ?_, .v _⟩
      rw [Sem.run_bind, h1]
      simp only [Result.andThen_ok, h3, Sem.run_bind]
      rw [show (Op.equal t x y).run P w = .ok b w from h2]
      rfl
    · simp only [Option.map_eq_some_iff] at hc
      obtain ⟨b, hb, rfl⟩ := hc
      obtain ⟨h1, h2, h3, h4⟩ := run_eqB (w := w) hk hx hy hb hyc .neq 9998
      refine ⟨_, ?_, .v _⟩
      rw [Sem.run_bind, h1]
      simp only [Result.andThen_ok, h4, Sem.run_bind]
      rw [show (Op.equal t x y).run P w = .ok b w from h2]
      rfl
    · cases hc
theorem run_aun {op : UnOp} {A C : AV} {x : Value} (hx : RV Γ A x) (hc : aun op A = some C) : ∃ z, (Op.unary op x).run P w = .ok z w ∧ RV Γ C z := by
  unfold aun at hc
  split at hc
  · rw [hx.inv_v]
    split at hc <;> first | (cases hc; done) | (injection hc with hc; subst hc; exact ⟨_, rfl, .v _⟩)
  · rw [hx.inv_v]
    split at hc <;> first | (cases hc; done) | (injection hc with hc; subst hc; exact ⟨_, by simp [Op.unary, Op.intArith, Op.intBits, bits], .v _⟩)
  · cases hc

end
end Go.Abs
