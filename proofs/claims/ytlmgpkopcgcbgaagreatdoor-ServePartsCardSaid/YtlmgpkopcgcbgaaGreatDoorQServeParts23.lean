/- What the proof needs, part 23: A program logic over abstract states, 23: arguments opened as plain data. -/
import Derived.Test.YtlmgpkopcgcbgaaGreatDoorQServeParts11
import Derived.ChangeSame
import Derived.ChangeArms
import Derived.SizedLaws
/- A program logic over abstract states, 23: arguments opened as plain data. -/
namespace Go.Abs
open Go Go.RowKit
set_option linter.unusedVariables false
set_option linter.unusedSimpArgs false

/-- Types of plain data. -/
inductive Ty where
  | int (k : IntKind)
  | bool
  | str
  | slice (e : Ty)
  | unit
  | pair (a b : Ty)
def Ty.D : Ty → Type
  | .int _ => Int
  | .bool => Bool
  | .str => List UInt8
  | .slice e => List e.D
  | .unit => Unit
  | .pair a b => a.D × b.D
def Ty.sz : Ty → Nat
  | .int _ | .bool | .str | .slice _ => 1
  | .unit => 0
  | .pair a b => a.sz + b.sz
def Ty.enc : (t : Ty) → t.D → List AV
  | .int k, n => [.v (.int k n)]
  | .bool, b => [.v (.bool b)]
  | .str, l => [.v (.string (bs l))]
  | .slice e, l => [.list e.sz (l.map e.enc) .no]
  | .unit, _ => []
  | .pair a b, x => a.enc x.1 ++ b.enc x.2
def Ty.val : (t : Ty) → t.D → AV
  | .int k, n => .v (.int k n)
  | .bool, b => .v (.bool b)
  | .str, l => .v (.string (bs l))
  | .slice e, l => .list e.sz (l.map e.enc) .no
  | .unit, _ => .agg []
  | .pair a b, x => .agg (a.enc x.1 ++ b.enc x.2)
def Ty.wf : (t : Ty) → t.D → Prop
  | .int k, n => (Lit.int k n).wf = true
  | .bool, _ => True
  | .str, l => l.length ≤ 9223372036854775807
  | .slice e, l => List.length l ≤ 9223372036854775807 ∧ ∀ x, List.Mem x l → e.wf x
  | .unit, _ => True
  | .pair a b, x => a.wf x.1 ∧ b.wf x.2

/-- Its strings and slices have at most so many bytes and elements. -/
def Ty.fit (B : Nat) : (t : Ty) → t.D → Prop
  | .int _, _ => True
  | .bool, _ => True
  | .str, l => l.length ≤ B
  | .slice e, l => List.length l ≤ B ∧ ∀ x, List.Mem x l → e.fit B x
  | .unit, _ => True
  | .pair a b, x => a.fit B x.1 ∧ b.fit B x.2

def tyFs (P : Program) (g : TypeId → Option Ty) : List Field → Nat → Option Ty
  | [], _ => some .unit
  | f :: fs, off => match g f.type with
    | some T => if f.offset = off ∧ P.cellsOf f.type = T.sz then (tyFs P g fs (off + T.sz)).map (.pair T) else none
    | none => none
def tyOf (P : Program) : Nat → TypeId → Option Ty
  | 0, _ => none
  | n + 1, t => match P.underlying t with
    | some .bool => some .bool
    | some (.int k) => some (.int k)
    | some .string => some .str
    | some (.slice e) => match tyOf P n e with
      | some T => if P.cellsOf e = T.sz ∧ T.sz ≠ 0 ∧ P.bytesOf e ≠ 0 then some (.slice T) else none
      | none => none
    | some (.struct fs) => match tyFs P (tyOf P n) fs.toList 0 with
      | some T => if P.cellsOf t = T.sz then some T else none
      | none => none
    | _ => none

theorem Ty.enc_len : ∀ (T : Ty) (d : T.D), (T.enc d).length = T.sz
  | .int _, _ | .bool, _ | .str, _ | .slice _, _ | .unit, _ => rfl
  | .pair a b, x => by simp only [Ty.enc, List.length_append, Ty.sz, Ty.enc_len a x.1, Ty.enc_len b x.2]
theorem Ty.enc_one : ∀ (T : Ty) (d : T.D), ∀ a ∈ T.enc d, a.one = true
  | .int _, _, a, h | .bool, _, a, h | .str, _, a, h | .slice _, _, a, h => by
    simp only [Ty.enc, List.mem_singleton] at h
    subst h; rfl
  | .unit, _, a, h => by simp [Ty.enc] at h
  | .pair p q, x, a, h => by
    simp only [Ty.enc, List.mem_append] at h
    rcases h with h | h
    · exact Ty.enc_one p x.1 a h
    · exact Ty.enc_one q x.2 a h

theorem RVs.single {Γ : Con} {a : AV} {v : Value} (h : RV Γ a v) : RVs Γ [a] [v] := .cons h .nil

theorem mapM_some {α β : Type} {f : α → Option β} : ∀ {l : List α} {ys : List β}, l.mapM f = some ys → ys.length = l.length ∧ ∀ (i : Nat) (h : i < l.length), ∃ y, f l[i] = some y
  | [], ys, h => by simp at h; subst h; exact ⟨rfl, fun i hi => by simp at hi⟩
  | x :: l, ys, h => by
    rw [List.mapM_cons] at h
    cases hx : f x with
    | none => rw [hx] at h; simp at h
    | some y =>
      cases hl : l.mapM f with
      | none => rw [hx, hl] at h; simp at h
      | some zs =>
        rw [hx, hl] at h
        simp at h
        subst h
        obtain ⟨h1, h2⟩ := mapM_some hl
        refine ⟨by simp [h1], fun i hi => ?_⟩
        cases i with
        | zero => exact ⟨y, hx⟩
        | succ i => exact h2 i (by simpa using hi)
theorem mapM_at {α β : Type} {f : α → Option β} : ∀ {l : List α} {ys : List β}, l.mapM f = some ys → ∀ (i : Nat) (h : i < l.length) (h' : i < ys.length), f l[i] = some ys[i]
  | [], ys, h => by intro i hi; simp at hi
  | x :: l, ys, h => by
    rw [List.mapM_cons] at h
    cases hx : f x with
    | none => rw [hx] at h; simp at h
    | some y =>
      cases hl : l.mapM f with
      | none => rw [hx, hl] at h; simp at h
      | some zs =>
        rw [hx, hl] at h
        simp at h
        subst h
        intro i hi hi'
        cases i with
        | zero => simpa using hx
        | succ i => simpa using mapM_at hl i (by simpa using hi) (by simpa using hi')

/-- One for each. -/
theorem choose_list {α : Type} {p : Nat → α → Prop} : ∀ (n : Nat), (∀ i, i < n → ∃ d, p i d) → ∃ ds : List α, ds.length = n ∧ ∀ (i : Nat) (h : i < ds.length), p i ds[i]
  | 0, _ => ⟨[], rfl, fun i h => by simp at h⟩
  | n + 1, h => by
    obtain ⟨ds, h1, h2⟩ := choose_list n fun i hi => h i (by omega)
    obtain ⟨d, hd⟩ := h n (by omega)
    refine ⟨ds ++ [d], by simp [h1], fun i hi => ?_⟩
    by_cases hlt : i < ds.length
    · rw [List.getElem_append_left hlt]; exact h2 i hlt
    · have : i = n := by simp at hi; omega
      subst this
      rw [List.getElem_append_right (by omega)]
      simpa [h1] using hd

section
variable {P : Program} {w : World} {H : Type} {enc : TypeId × Value → H} {held : Bool}

theorem RVs.append_inv {Γ : Con} {xs ys : List AV} {vs : List Value} (h : RVs Γ xs (vs.take xs.length)) (h' : RVs Γ ys (vs.drop xs.length)) : RVs Γ (xs ++ ys) vs := by
  have := h.append h'
  rwa [List.take_append_drop] at this

theorem cells_some {w : World} {base : Nat} {a : Addr} {n : Nat} {cs : List Value} (h : w.cells? base a n = some cs) : cs.length = n ∧ ∀ (j : Nat) (hj : j < cs.length), w.cell? (a.add j) = some cs[j] := by
  unfold World.cells? at h
  split at h
  · obtain ⟨h1, _⟩ := mapM_some h
    refine ⟨by simpa using h1, fun j hj => ?_⟩
    have := mapM_at h j (by simpa [h1] using hj) hj
    simpa using this
  · cases h
theorem cell_spot {w : World} {a : Addr} {v : Value} (h : w.cell? a = some v) : a.spot = none := by
  unfold World.cell? at h
  split at h
  · split at h
    · cases h
    · rename_i hs; simpa using hs
  · cases h

theorem mem_weightsAll {e : TypeId} {d : DataW H} {k : Nat} (hk : k ∈ d.weights P e) : ∀ {l : List (DataW H)}, d ∈ l → k ∈ DataW.weightsAll P e l
  | x :: l, h => by
    rw [DataW.weightsAll]
    rcases List.mem_cons.1 h with rfl | h
    · exact List.mem_append.2 (.inl hk)
    · exact List.mem_append.2 (.inr (mem_weightsAll hk h))
theorem trod_open : ∀ (n : Nat) {t : TypeId} {T : Ty}, tyOf P n t = some T → ∀ {fuel : Nat} {base : Nat} {cs : List Value} {x : DataW H × List MemPlace}, DataW.trod enc P w base (fun _ => true) held fuel t cs = some x →
    cs.length = T.sz ∧ ∃ d : T.D, RVs (Con.start w) (T.enc d) cs ∧ T.wf d ∧ ∀ B : Nat, (∀ k ∈ x.1.weights P t, k ≤ B) → T.fit B d := by
  intro n
  induction n with
  | zero => intro t T h; simp [tyOf] at h
  | succ n ih =>
    intro t T hT fuel base cs x hx
    simp only [tyOf] at hT
    split at hT
    · rename_i hu
      injection hT with hT; subst hT
      obtain ⟨b, rfl, _⟩ := DataW.trod_bool hu hx
      exact ⟨rfl, b, .single (.v _), trivial, fun _ _ => trivial⟩
    · rename_i k hu
      injection hT with hT; subst hT
      obtain ⟨m, rfl, _, hw⟩ := DataW.trod_int hu hx
      exact ⟨rfl, m, .single (.v _), hw, fun _ _ => trivial⟩
    · rename_i hu
      injection hT with hT; subst hT
      obtain ⟨s, rfl, rfl, hw⟩ := DataW.trod_string hu hx
      refine ⟨rfl, s.data.toList, .single ?_, ?_, fun B hB => hB _ (by simp [DataW.weights])⟩
      · rw [bs_of]; exact .v _
      · have h1 : s.data.toList.length = s.size := by simp
        have h2 : maxLen = 9223372036854775807 := by decide
        show s.data.toList.length ≤ 9223372036854775807
        rw [h1, ← h2]; exact hw
    · rename_i e hu
      split at hT
      · rename_i E hE
        split at hT
        · rename_i hsz
          injection hT with hT; subst hT
          refine ⟨by rcases DataW.trod_slice hu hx with ⟨rfl, _⟩ | ⟨a, len, cap, elems, rest, m, _, rfl, _⟩ <;> rfl, ?_⟩
          rcases DataW.trod_slice hu hx with ⟨rfl, _⟩ | ⟨a, len, cap, elems, rest, m, _, rfl, rfl, hba, hlc, hcm, hel, hat, hrest, _⟩
          · exact ⟨([] : List E.D), .single .niln, (show (0 : Nat) ≤ 9223372036854775807 ∧ ∀ x : E.D, List.Mem x [] → E.wf x from ⟨by omega, fun x hx => by cases hx⟩), fun B _ => (show (0 : Nat) ≤ B ∧ ∀ x : E.D, List.Mem x [] → E.fit B x from ⟨Nat.zero_le _, fun x hx => by cases hx⟩)⟩
          · have hml : maxLen = 9223372036854775807 := by decide
            have each : ∀ i, i < len → ∃ d : E.D, (∃ ci, ci.length = E.sz ∧ (∀ (j : Nat) (hj : j < ci.length), w.cell? ((a.add (i * E.sz)).add j) = some ci[j]) ∧ RVs (Con.start w) (E.enc d) ci) ∧ E.wf d ∧ ∀ B : Nat, (∀ y, elems[i]? = some y → ∀ k ∈ y.1.weights P e, k ≤ B) → E.fit B d := by
              intro i hi
              have h1 := hat i hi
              have hie : i < elems.length := by omega
              rw [List.getElem?_eq_getElem hie] at h1
              cases hc : w.cells? base (a.add (i * P.cellsOf e)) (P.cellsOf e) with
              | none => rw [hc] at h1; cases h1
              | some ci =>
                rw [hc] at h1
                simp only [Option.bind_some] at h1
                obtain ⟨hl, d, hd, hwf, hft⟩ := ih hE h1
                obtain ⟨_, hcell⟩ := cells_some hc
                rw [hsz.1] at hcell
                exact ⟨d, ⟨ci, hl, hcell, hd⟩, hwf, fun B hB => hft B (hB _ (List.getElem?_eq_getElem hie))⟩
            obtain ⟨ds, hdl, hds⟩ := choose_list len each
            refine ⟨ds, .single ?_, ⟨by show ds.length ≤ _; omega, fun x hx => ?_⟩, fun B hB => (show ds.length ≤ B ∧ ∀ x : E.D, List.Mem x ds → E.fit B x from ⟨?_, fun x hx => ?_⟩)⟩
            · by_cases h0 : len = 0
              · subst h0
                have : ds = [] := List.eq_nil_of_length_eq_zero hdl
                subst this
                -- no element; whatever room
                by_cases hc0 : cap = 0
                · subst hc0; exact .niln
                · have hsp : a.spot = none := by
                    obtain ⟨hrl, hr0⟩ := hrest rfl
                    have h1 := hr0 0 (by omega)
                    have hlt : 0 < rest.length := by omega
                    rw [List.getElem?_eq_getElem hlt] at h1
                    cases hc : w.cells? base (a.add ((0 + 0) * P.cellsOf e)) (P.cellsOf e) with
                    | none => rw [hc] at h1; cases h1
                    | some ci =>
                      obtain ⟨hl, hcell⟩ := cells_some hc
                      have := cell_spot (hcell 0 (by rw [hl, hsz.1]; omega))
                      simpa [Addr.add] using this
                  obtain ⟨b, o, spt⟩ := a
                  simp only at hsp
                  subst hsp
                  exact RV.list (Γ := Con.start w) (sz := E.sz) (rows := []) (tok := .no) (b := b) (o := o) (c := cap) (u := fun _ _ => undef) (Nat.zero_le _) (fun i hi => by simp at hi) (fun i hi => by simp at hi) (fun i hi => by simp at hi) (fun i hi => by simp at hi) trivial
              · have hsp : a.spot = none := by
                  obtain ⟨⟨ci, hl, hcell, _⟩, _⟩ := hds 0 (by omega)
                  have := cell_spot (hcell 0 (by omega))
                  simpa [Addr.add] using this
                obtain ⟨b, o, spt⟩ := a
                simp only at hsp
                subst hsp
                have key : ∀ i (hi : i < ds.length) j, j < E.sz → ∃ v, w.cell? ⟨b, o + (i * E.sz + j), none⟩ = some v ∧ ∀ (hj : j < (E.enc ds[i]).length), RV (Con.start w) (E.enc ds[i])[j] v := by
                  intro i hi j hj
                  obtain ⟨⟨ci, hl, hcell, hr⟩, _⟩ := hds i hi
                  have := hcell j (by omega)
                  rw [addr_add, addr_add, Nat.add_assoc] at this
                  exact ⟨_, this, fun hj' => hr.at_ j hj' (by omega)⟩
                have hlen : (ds.map E.enc).length = len := by simp [hdl]
                have := RV.list (Γ := Con.start w) (sz := E.sz) (rows := ds.map E.enc) (tok := .no) (b := b) (o := o) (c := cap) (u := fun i j => (w.cell? ⟨b, o + (i * E.sz + j), none⟩).getD undef) (by rw [hlen]; exact hlc)
                  (fun i hi => by simp only [List.getElem_map]; exact Ty.enc_len E _)
                  (fun i hi j hj => by
                    obtain ⟨v, hv, _⟩ := key i (by simpa using hi) j hj
                    show w.cell? _ = _
                    rw [hv]; rfl)
                  (fun i hi j hj => by
                    have hi' : i < ds.length := by simpa using hi
                    obtain ⟨v, hv, hr⟩ := key i hi' j hj
                    have hj' : j < (E.enc ds[i]).length := by rw [Ty.enc_len]; exact hj
                    simp only [hv, Option.getD_some]
                    exact (hr hj').one (Ty.enc_one E _ _ (List.getElem_mem hj')))
                  (fun i hi j hj => by
                    have hi' : i < ds.length := by simpa using hi
                    simp only [List.getElem_map] at hj ⊢
                    obtain ⟨v, hv, hr⟩ := key i hi' j (by rw [Ty.enc_len] at hj; exact hj)
                    simp only [hv, Option.getD_some]
                    exact hr hj)
                  trivial
                rw [hlen] at this
                exact this
            · obtain ⟨i, hi, rfl⟩ := List.getElem_of_mem (l := ds) hx
              exact (hds i (by omega)).2.1
            · have h1 := hB ((elems.length + rest.length) * P.bytesOf e) (by simp [DataW.weights, hu])
              have h2 : 0 < P.bytesOf e := Nat.pos_of_ne_zero hsz.2.2
              have h3 : elems.length + rest.length ≤ (elems.length + rest.length) * P.bytesOf e := Nat.le_mul_of_pos_right _ h2
              omega
            · obtain ⟨i, hi, rfl⟩ := List.getElem_of_mem (l := ds) hx
              refine (hds i (by omega)).2.2 B fun y hy k hk => hB k ?_
              simp only [DataW.weights, hu]
              refine List.mem_cons.2 (.inr (List.mem_append.2 (.inl (mem_weightsAll hk ?_))))
              exact List.mem_map.2 ⟨y, List.mem_of_getElem? hy, rfl⟩
        · cases hT
      · cases hT
    · rename_i fs hu
      split at hT
      · rename_i T' hF
        split at hT
        · rename_i hsz
          injection hT with hT; subst hT
          obtain ⟨xs, m, _, rfl, hcl, hxl, hat⟩ := DataW.trod_struct hu hx
          refine ⟨by rw [hcl, hsz], ?_⟩
          -- field by field
          have go : ∀ (l : List Field) (off : Nat) (S : Ty), tyFs P (tyOf P n) l off = some S → (∀ (k : Nat) (f : Field), l[k]? = some f → ∃ y, DataW.trod enc P w base (fun _ => true) held m f.type ((cs.drop f.offset).take (P.cellsOf f.type)) = some y ∧ ∀ k' ∈ y.1.weights P f.type, k' ∈ DataW.weightsEach P (fs.toList.map (·.type)) (xs.map (·.1))) → off + S.sz = cs.length →
              ∃ d : S.D, RVs (Con.start w) (S.enc d) (cs.drop off) ∧ S.wf d ∧ ∀ B : Nat, (∀ k ∈ DataW.weightsEach P (fs.toList.map (·.type)) (xs.map (·.1)), k ≤ B) → S.fit B d := by
            intro l
            induction l with
            | nil =>
              intro off S hS _ hoff
              simp only [tyFs, Option.some.injEq] at hS
              subst hS
              refine ⟨(), ?_, trivial, fun _ _ => trivial⟩
              have : cs.drop off = [] := List.drop_eq_nil_of_le (by simp only [Ty.sz] at hoff; omega)
              rw [this]; exact .nil
            | cons f l ihl =>
              intro off S hS hall hoff
              simp only [tyFs] at hS
              split at hS
              · rename_i F hFt
                split at hS
                · rename_i hf
                  simp only [Option.map_eq_some_iff] at hS
                  obtain ⟨S', hS', rfl⟩ := hS
                  obtain ⟨y, hy, hyw⟩ := hall 0 f rfl
                  rw [hf.1, hf.2] at hy
                  obtain ⟨hl1, d1, hr1, hw1, hf1⟩ := ih hFt hy
                  obtain ⟨d2, hr2, hw2, hf2⟩ := ihl (off + F.sz) S' hS' (fun k f' hk => hall (k + 1) f' (by simpa using hk)) (by simp only [Ty.sz] at hoff; omega)
                  refine ⟨(d1, d2), ?_, ⟨hw1, hw2⟩, fun B hB => ⟨hf1 B fun k hk => hB k (hyw k hk), hf2 B hB⟩⟩
                  show RVs _ (F.enc d1 ++ S'.enc d2) _
                  refine RVs.append_inv ?_ ?_
                  · rw [Ty.enc_len]; exact hr1
                  · rw [Ty.enc_len, List.drop_drop]; exact hr2
                · cases hS
              · cases hS
          have := go fs.toList 0 T' hF (fun k f hk => by
            have hk' : fs[k]? = some f := by simpa using hk
            have h1 := hat k f hk'
            have hkl : k < xs.length := by rw [hxl]; exact (Array.getElem?_eq_some_iff.1 hk').1
            rw [List.getElem?_eq_getElem hkl] at h1
            exact ⟨_, h1, fun k' hk' => DataW.weights_mem_each (j := k) (by rw [List.getElem?_map, hk]; rfl) (by rw [List.getElem?_map, List.getElem?_eq_getElem hkl]; rfl) k' hk'⟩) (by rw [Nat.zero_add, hcl, hsz])
          simp only [DataW.weights, hu]
          simpa using this
        · cases hT
      · cases hT
    · cases hT

/-- An argument, opened. -/
theorem open_arg {n : Nat} {t : TypeId} {T : Ty} (hT : tyOf P n t = some T) {base b0 : Nat} {v : Value} (hok : Value.okWide P w .any b0 t v) {d : DataW H} {ps : List MemPlace} (h : DataW.Trod enc P w base (fun _ => true) held t v d ps) : ∃ x : T.D, RV (Con.start w) (T.val x) v ∧ T.wf x ∧ ∀ B : Nat, (∀ k ∈ d.weights P t, k ≤ B) → T.fit B x := by
  obtain ⟨fuel, hf⟩ := h
  obtain ⟨hl, x, hr, hw, hft⟩ := trod_open n hT hf
  refine ⟨x, ?_, hw, hft⟩
  cases n with
  | zero => simp [tyOf] at hT
  | succ n =>
    have agg : (∃ fs, P.underlying t = some (.struct fs)) → ∀ {S : Ty} (y : S.D), RVs (Con.start w) (S.enc y) v.cells.toList → RV (Con.start w) (.agg (S.enc y)) v := by
      rintro ⟨fs, hu⟩ S y hy
      simp only [Value.okWide, hu] at hok
      obtain ⟨cs, rfl, _, _⟩ := hok
      simp only [Value.cells] at hy
      refine .agg (by simpa using hy.len) (fun i hi => ?_) (fun i hi hi' => by have := hy.at_ i hi (by simpa using hi'); rwa [Array.getElem_toList] at this)
      have hi2 : i < (S.enc y).length := by rw [← hy.len]; simpa using hi
      have := (hy.at_ i hi2 (by simpa using hi)).one (Ty.enc_one S y _ (List.getElem_mem hi2))
      simpa using this
    have one : ∀ {a : AV}, v.cells.toList = [v] → RVs (Con.start w) [a] v.cells.toList → RV (Con.start w) a v := by
      intro a hv hy
      rw [hv] at hy
      exact hy.at_ 0 (by simp) (by simp)
    simp only [tyOf] at hT
    split at hT
    · rename_i hu; injection hT with hT; subst hT; exact one (by cases v <;> first | rfl | (simp [Value.okWide, hu, Cell.okWide, Cell.ok] at hok)) hr
    · rename_i hu; injection hT with hT; subst hT; exact one (by cases v <;> first | rfl | (simp [Value.okWide, hu, Cell.okWide, Cell.ok] at hok)) hr
    · rename_i hu; injection hT with hT; subst hT; exact one (by cases v <;> first | rfl | (simp [Value.okWide, hu, Cell.okWide, Cell.ok] at hok)) hr
    · rename_i e hu
      split at hT
      · split at hT
        · injection hT with hT; subst hT; exact one (by cases v <;> first | rfl | (simp [Value.okWide, hu, Cell.okWide, Cell.ok] at hok)) hr
        · cases hT
      · cases hT
    · rename_i fs hu
      split at hT
      · rename_i T' hF
        split at hT
        · injection hT with hT; subst hT
          have hA := agg ⟨fs, hu⟩ x hr
          have : ∀ (l : List Field) (off : Nat) (S : Ty), tyFs P (tyOf P n) l off = some S → ∀ y : S.D, S.val y = .agg (S.enc y) := by
            intro l off S hS y
            cases l with
            | nil => simp only [tyFs, Option.some.injEq] at hS; subst hS; rfl
            | cons f l =>
              simp only [tyFs] at hS
              split at hS
              · split at hS
                · simp only [Option.map_eq_some_iff] at hS
                  obtain ⟨S', _, rfl⟩ := hS
                  rfl
                · cases hS
              · cases hS
          rw [this _ _ _ hF]; exact hA
        · cases hT
      · cases hT
    · cases hT
end
end Go.Abs
