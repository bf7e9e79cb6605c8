/- What the proof needs, part 26: A program logic over abstract states, 29: arguments of bounded bulk. -/
import Derived.Test.YtlmgpkopcgcbgaaGreatDoorQServeMail25
import Derived.Test.YtlmgpkopcgcbgaaGreatDoorRows
/- A program logic over abstract states, 29: arguments of bounded bulk. -/
namespace Go.Abs
open Go Go.RowKit
set_option linter.unusedVariables false
set_option linter.unusedSimpArgs false
/-- How many letters its strings and slices hold. -/
def sumBy {α : Type} (f : α → Nat) : List α → Nat
  | [] => 0
  | x :: l => f x + sumBy f l
def Ty.blk : (t : Ty) → t.D → Nat
  | .int _, _ => 0
  | .bool, _ => 0
  | .str, l => List.length l + 1
  | .slice e, l => sumBy e.blk l + 1
  | .unit, _ => 0
  | .pair a b, x => a.blk x.1 + b.blk x.2
open Go.Proofs.YtlmgpkopcgcbgaaGreatDoor.Rows (uptoBulk uptoBulkAll)
theorem sum_le {α H : Type} {f : α → Nat} : ∀ (ds : List α) (es : List (DataW H)), ds.length ≤ es.length → (∀ (i : Nat) (h : i < ds.length) (h' : i < es.length), f ds[i] ≤ uptoBulk es[i]) → sumBy f ds ≤ uptoBulkAll es
  | [], es, _, _ => Nat.zero_le _
  | d :: ds, [], h, _ => by simp at h
  | d :: ds, y :: es, h, hh => by
    have h1 := hh 0 (by simp) (by simp)
    have h2 := sum_le ds es (by simpa using h) fun i hi hi' => by
      have := hh (i + 1) (by simpa using hi) (by simpa using hi')
      simpa using this
    simp only [List.getElem_cons_zero] at h1
    simp only [sumBy, uptoBulkAll]
    omega
section
variable {P : Program} {w : World} {H : Type} {enc : TypeId × Value → H} {held : Bool}

theorem trod_blk : ∀ (n : Nat) {t : TypeId} {T : Ty}, tyOf P n t = some T → ∀ {fuel : Nat} {base : Nat} {cs : List Value} {x : DataW H × List MemPlace}, DataW.trod enc P w base (fun _ => true) held fuel t cs = some x →
    cs.length = T.sz ∧ ∃ d : T.D, RVs (Con.start w) (T.enc d) cs ∧ T.wf d ∧ (∀ B : Nat, (∀ k ∈ x.1.weights P t, k ≤ B) → T.fit B d) ∧ T.blk d ≤ uptoBulk x.1 := by
  intro n
  induction n with
  | zero => intro t T h; simp [tyOf] at h
  | succ n ih =>
    intro t T hT fuel base cs x hx
    simp only [tyOf] at hT
    split at hT
    · rename_i hu
      injection hT with hT; subst hT
      obtain ⟨b, rfl, _⟩ := DataW.trod_bool hu hx
      exact ⟨rfl, b, .single (.v _), trivial, fun _ _ => trivial, Nat.zero_le _⟩
    · rename_i k hu
      injection hT with hT; subst hT
      obtain ⟨m, rfl, _, hw⟩ := DataW.trod_int hu hx
      exact ⟨rfl, m, .single (.v _), hw, fun _ _ => trivial, Nat.zero_le _⟩
    · rename_i hu
      injection hT with hT; subst hT
      obtain ⟨s, rfl, rfl, hw⟩ := DataW.trod_string hu hx
      refine ⟨rfl, s.data.toList, .single ?_, ?_, fun B hB => hB _ (by simp [DataW.weights]), Nat.le_refl _⟩
      · rw [bs_of]; exact .v _
      · have h1 : s.data.toList.length = s.size := by simp
        have h2 : maxLen = 9223372036854775807 := by decide
        show s.data.toList.length ≤ 9223372036854775807
        rw [h1, ← h2]; exact hw
    · rename_i e hu
      split at hT
      · rename_i E hE
        split at hT
        · rename_i hsz
          injection hT with hT; subst hT
          refine ⟨by rcases DataW.trod_slice hu hx with ⟨rfl, _⟩ | ⟨a, len, cap, elems, rest, m, _, rfl, _⟩ <;> rfl, ?_⟩
          rcases DataW.trod_slice hu hx with ⟨rfl, hxn⟩ | ⟨a, len, cap, elems, rest, m, _, rfl, rfl, hba, hlc, hcm, hel, hat, hrest, _⟩
          · exact ⟨([] : List E.D), .single .niln, (show (0 : Nat) ≤ 9223372036854775807 ∧ ∀ x : E.D, List.Mem x [] → E.wf x from ⟨by omega, fun x hx => by cases hx⟩), fun B _ => (show (0 : Nat) ≤ B ∧ ∀ x : E.D, List.Mem x [] → E.fit B x from ⟨Nat.zero_le _, fun x hx => by cases hx⟩), by first | (rw [hxn]; exact Nat.le_refl _) | (rw [hxn.1]; exact Nat.le_refl _) | trace_state⟩
          · have hml : maxLen = 9223372036854775807 := by decide
            have each : ∀ i, i < len → ∃ d : E.D, (∃ ci, ci.length = E.sz ∧ (∀ (j : Nat) (hj : j < ci.length), w.cell? ((a.add (i * E.sz)).add j) = some ci[j]) ∧ RVs (Con.start w) (E.enc d) ci) ∧ E.wf d ∧ (∀ B : Nat, (∀ y, elems[i]? = some y → ∀ k ∈ y.1.weights P e, k ≤ B) → E.fit B d) ∧ ∀ y, elems[i]? = some y → E.blk d ≤ uptoBulk y.1 := by
              intro i hi
              have h1 := hat i hi
              have hie : i < elems.length := by omega
              rw [List.getElem?_eq_getElem hie] at h1
              cases hc : w.cells? base (a.add (i * P.cellsOf e)) (P.cellsOf e) with
              | none => rw [hc] at h1; cases h1
              | some ci =>
                rw [hc] at h1
                simp only [Option.bind_some] at h1
                obtain ⟨hl, d, hd, hwf, hft, hbk⟩ := ih hE h1
                obtain ⟨_, hcell⟩ := cells_some hc
                rw [hsz.1] at hcell
                exact ⟨d, ⟨ci, hl, hcell, hd⟩, hwf, fun B hB => hft B (hB _ (List.getElem?_eq_getElem hie)), fun y hy => by rw [List.getElem?_eq_getElem hie] at hy; cases hy; exact hbk⟩
            obtain ⟨ds, hdl, hds⟩ := choose_list len each
            refine ⟨ds, .single ?_, ⟨by show ds.length ≤ _; omega, fun x hx => ?_⟩, fun B hB => (show ds.length ≤ B ∧ ∀ x : E.D, List.Mem x ds → E.fit B x from ⟨?_, fun x hx => ?_⟩), ?_⟩
            · by_cases h0 : len = 0
              · subst h0
                have : ds = [] := List.eq_nil_of_length_eq_zero hdl
                subst this
                -- no element; whatever room
                by_cases hc0 : cap = 0
                · subst hc0; exact .niln
                · have hsp : a.spot = none := by
                    obtain ⟨hrl, hr0⟩ := hrest rfl
                    have h1 := hr0 0 (by omega)
                    have hlt : 0 < rest.length := by omega
                    rw [List.getElem?_eq_getElem hlt] at h1
                    cases hc : w.cells? base (a.add ((0 + 0) * P.cellsOf e)) (P.cellsOf e) with
                    | none => rw [hc] at h1; cases h1
                    | some ci =>
                      obtain ⟨hl, hcell⟩ := cells_some hc
                      have := cell_spot (hcell 0 (by rw [hl, hsz.1]; omega))
                      simpa [Addr.add] using this
                  obtain ⟨b, o, spt⟩ := a
                  simp only at hsp
                  subst hsp
                  exact RV.list (Γ := Con.start w) (sz := E.sz) (rows := []) (tok := .no) (b := b) (o := o) (c := cap) (u := fun _ _ => undef) (Nat.zero_le _) (fun i hi => by simp at hi) (fun i hi => by simp at hi) (fun i hi => by simp at hi) (fun i hi => by simp at hi) trivial
              · have hsp : a.spot = none := by
                  obtain ⟨⟨ci, hl, hcell, _⟩, _⟩ := hds 0 (by omega)
                  have := cell_spot (hcell 0 (by omega))
                  simpa [Addr.add] using this
                obtain ⟨b, o, spt⟩ := a
                simp only at hsp
                subst hsp
                have key : ∀ i (hi : i < ds.length) j, j < E.sz → ∃ v, w.cell? ⟨b, o + (i * E.sz + j), none⟩ = some v ∧ ∀ (hj : j < (E.enc ds[i]).length), RV (Con.start w) (E.enc ds[i])[j] v := by
                  intro i hi j hj
                  obtain ⟨⟨ci, hl, hcell, hr⟩, _⟩ := hds i hi
                  have := hcell j (by omega)
                  rw [addr_add, addr_add, Nat.add_assoc] at this
                  exact ⟨_, this, fun hj' => hr.at_ j hj' (by omega)⟩
                have hlen : (ds.map E.enc).length = len := by simp [hdl]
                have := RV.list (Γ := Con.start w) (sz := E.sz) (rows := ds.map E.enc) (tok := .no) (b := b) (o := o) (c := cap) (u := fun i j => (w.cell? ⟨b, o + (i * E.sz + j), none⟩).getD undef) (by rw [hlen]; exact hlc)
                  (fun i hi => by simp only [List.getElem_map]; exact Ty.enc_len E _)
                  (fun i hi j hj => by
                    obtain ⟨v, hv, _⟩ := key i (by simpa using hi) j hj
                    show w.cell? _ = _
                    rw [hv]; rfl)
                  (fun i hi j hj => by
                    have hi' : i < ds.length := by simpa using hi
                    obtain ⟨v, hv, hr⟩ := key i hi' j hj
                    have hj' : j < (E.enc ds[i]).length := by rw [Ty.enc_len]; exact hj
                    simp only [hv, Option.getD_some]
                    exact (hr hj').one (Ty.enc_one E _ _ (List.getElem_mem hj')))
                  (fun i hi j hj => by
                    have hi' : i < ds.length := by simpa using hi
                    simp only [List.getElem_map] at hj ⊢
                    obtain ⟨v, hv, hr⟩ := key i hi' j (by rw [Ty.enc_len] at hj; exact hj)
                    simp only [hv, Option.getD_some]
                    exact hr hj)
                  trivial
                rw [hlen] at this
                exact this
            · obtain ⟨i, hi, rfl⟩ := List.getElem_of_mem (l := ds) hx
              exact (hds i (by omega)).2.1
            · have h1 := hB ((elems.length + rest.length) * P.bytesOf e) (by simp [DataW.weights, hu])
              have h2 : 0 < P.bytesOf e := Nat.pos_of_ne_zero hsz.2.2
              have h3 : elems.length + rest.length ≤ (elems.length + rest.length) * P.bytesOf e := Nat.le_mul_of_pos_right _ h2
              omega
            · obtain ⟨i, hi, rfl⟩ := List.getElem_of_mem (l := ds) hx
              refine (hds i (by omega)).2.2.1 B fun y hy k hk => hB k ?_
              simp only [DataW.weights, hu]
              refine List.mem_cons.2 (.inr (List.mem_append.2 (.inl (mem_weightsAll hk ?_))))
              exact List.mem_map.2 ⟨y, List.mem_of_getElem? hy, rfl⟩
            · have hsum := sum_le (f := E.blk) ds (elems.map (·.1)) (by rw [List.length_map]; omega) fun i hi hi' => by
                have hie : i < elems.length := by rw [List.length_map] at hi'; exact hi'
                have := (hds i hi).2.2.2 elems[i] (List.getElem?_eq_getElem hie)
                rw [List.getElem_map]; exact this
              show sumBy E.blk ds + 1 ≤ _
              simp only [uptoBulk]
              omega
        · cases hT
      · cases hT
    · rename_i fs hu
      split at hT
      · rename_i T' hF
        split at hT
        · rename_i hsz
          injection hT with hT; subst hT
          obtain ⟨xs, m, _, rfl, hcl, hxl, hat⟩ := DataW.trod_struct hu hx
          refine ⟨by rw [hcl, hsz], ?_⟩
          -- field by field
          have go : ∀ (l : List Field) (off : Nat) (S : Ty) (ys : List (DataW H)), tyFs P (tyOf P n) l off = some S → (∀ (k : Nat) (f : Field), l[k]? = some f → ∃ y, DataW.trod enc P w base (fun _ => true) held m f.type ((cs.drop f.offset).take (P.cellsOf f.type)) = some y ∧ (∀ k' ∈ y.1.weights P f.type, k' ∈ DataW.weightsEach P (fs.toList.map (·.type)) (xs.map (·.1))) ∧ ys[k]? = some y.1) → off + S.sz = cs.length →
              ∃ d : S.D, RVs (Con.start w) (S.enc d) (cs.drop off) ∧ S.wf d ∧ (∀ B : Nat, (∀ k ∈ DataW.weightsEach P (fs.toList.map (·.type)) (xs.map (·.1)), k ≤ B) → S.fit B d) ∧ S.blk d ≤ uptoBulkAll ys := by
            intro l
            induction l with
            | nil =>
              intro off S ys hS _ hoff
              simp only [tyFs, Option.some.injEq] at hS
              subst hS
              refine ⟨(), ?_, trivial, fun _ _ => trivial, Nat.zero_le _⟩
              have : cs.drop off = [] := List.drop_eq_nil_of_le (by simp only [Ty.sz] at hoff; omega)
              rw [this]; exact .nil
            | cons f l ihl =>
              intro off S ys hS hall hoff
              simp only [tyFs] at hS
              split at hS
              · rename_i F hFt
                split at hS
                · rename_i hf
                  simp only [Option.map_eq_some_iff] at hS
                  obtain ⟨S', hS', rfl⟩ := hS
                  obtain ⟨y, hy, hyw, hyb⟩ := hall 0 f rfl
                  obtain ⟨ys', rfl⟩ : ∃ ys', ys = y.1 :: ys' := by
                    cases ys with
                    | nil => simp at hyb
                    | cons z ys => simp at hyb; exact ⟨ys, by rw [hyb]⟩
                  rw [hf.1, hf.2] at hy
                  obtain ⟨hl1, d1, hr1, hw1, hf1, hb1⟩ := ih hFt hy
                  obtain ⟨d2, hr2, hw2, hf2, hb2⟩ := ihl (off + F.sz) S' ys' hS' (fun k f' hk => by simpa using hall (k + 1) f' (by simpa using hk)) (by simp only [Ty.sz] at hoff; omega)
                  refine ⟨(d1, d2), ?_, ⟨hw1, hw2⟩, fun B hB => ⟨hf1 B fun k hk => hB k (hyw k hk), hf2 B hB⟩, by simp only [Ty.blk, uptoBulkAll]; omega⟩
                  show RVs _ (F.enc d1 ++ S'.enc d2) _
                  refine RVs.append_inv ?_ ?_
                  · rw [Ty.enc_len]; exact hr1
                  · rw [Ty.enc_len, List.drop_drop]; exact hr2
                · cases hS
              · cases hS
          have := go fs.toList 0 T' (xs.map (·.1)) hF (fun k f hk => by
            have hk' : fs[k]? = some f := by simpa using hk
            have h1 := hat k f hk'
            have hkl : k < xs.length := by rw [hxl]; exact (Array.getElem?_eq_some_iff.1 hk').1
            rw [List.getElem?_eq_getElem hkl] at h1
            exact ⟨_, h1, fun k' hk' => DataW.weights_mem_each (j := k) (by rw [List.getElem?_map, hk]; rfl) (by rw [List.getElem?_map, List.getElem?_eq_getElem hkl]; rfl) k' hk', by rw [List.getElem?_map, List.getElem?_eq_getElem hkl]; rfl⟩) (by rw [Nat.zero_add, hcl, hsz])
          simp only [DataW.weights, hu]
          simp only [List.drop_zero] at this
          obtain ⟨d, hd1, hd2, hd3, hd4⟩ := this
          exact ⟨d, hd1, hd2, hd3, by simp only [uptoBulk]; omega⟩
        · cases hT
      · cases hT
    · cases hT

/-- An argument, opened. -/
theorem open_blk {n : Nat} {t : TypeId} {T : Ty} (hT : tyOf P n t = some T) {base b0 : Nat} {v : Value} (hok : Value.okWide P w .any b0 t v) {d : DataW H} {ps : List MemPlace} (h : DataW.Trod enc P w base (fun _ => true) held t v d ps) : ∃ x : T.D, RV (Con.start w) (T.val x) v ∧ T.wf x ∧ (∀ B : Nat, (∀ k ∈ d.weights P t, k ≤ B) → T.fit B x) ∧ T.blk x ≤ uptoBulk d := by
  obtain ⟨fuel, hf⟩ := h
  obtain ⟨hl, x, hr, hw, hft, hbk⟩ := trod_blk n hT hf
  refine ⟨x, ?_, hw, hft, hbk⟩
  cases n with
  | zero => simp [tyOf] at hT
  | succ n =>
    have agg : (∃ fs, P.underlying t = some (.struct fs)) → ∀ {S : Ty} (y : S.D), RVs (Con.start w) (S.enc y) v.cells.toList → RV (Con.start w) (.agg (S.enc y)) v := by
      rintro ⟨fs, hu⟩ S y hy
      simp only [Value.okWide, hu] at hok
      obtain ⟨cs, rfl, _, _⟩ := hok
      simp only [Value.cells] at hy
      refine .agg (by simpa using hy.len) (fun i hi => ?_) (fun i hi hi' => by have := hy.at_ i hi (by simpa using hi'); rwa [Array.getElem_toList] at this)
      have hi2 : i < (S.enc y).length := by rw [← hy.len]; simpa using hi
      have := (hy.at_ i hi2 (by simpa using hi)).one (Ty.enc_one S y _ (List.getElem_mem hi2))
      simpa using this
    have one : ∀ {a : AV}, v.cells.toList = [v] → RVs (Con.start w) [a] v.cells.toList → RV (Con.start w) a v := by
      intro a hv hy
      rw [hv] at hy
      exact hy.at_ 0 (by simp) (by simp)
    simp only [tyOf] at hT
    split at hT
    · rename_i hu; injection hT with hT; subst hT; exact one (by cases v <;> first | rfl | (simp [Value.okWide, hu, Cell.okWide, Cell.ok] at hok)) hr
    · rename_i hu; injection hT with hT; subst hT; exact one (by cases v <;> first | rfl | (simp [Value.okWide, hu, Cell.okWide, Cell.ok] at hok)) hr
    · rename_i hu; injection hT with hT; subst hT; exact one (by cases v <;> first | rfl | (simp [Value.okWide, hu, Cell.okWide, Cell.ok] at hok)) hr
    · rename_i e hu
      split at hT
      · split at hT
        · injection hT with hT; subst hT; exact one (by cases v <;> first | rfl | (simp [Value.okWide, hu, Cell.okWide, Cell.ok] at hok)) hr
        · cases hT
      · cases hT
    · rename_i fs hu
      split at hT
      · rename_i T' hF
        split at hT
        · injection hT with hT; subst hT
          have hA := agg ⟨fs, hu⟩ x hr
          have : ∀ (l : List Field) (off : Nat) (S : Ty), tyFs P (tyOf P n) l off = some S → ∀ y : S.D, S.val y = .agg (S.enc y) := by
            intro l off S hS y
            cases l with
            | nil => simp only [tyFs, Option.some.injEq] at hS; subst hS; rfl
            | cons f l =>
              simp only [tyFs] at hS
              split at hS
              · split at hS
                · simp only [Option.map_eq_some_iff] at hS
                  obtain ⟨S', _, rfl⟩ := hS
                  rfl
                · cases hS
              · cases hS
          rw [this _ _ _ hF]; exact hA
        · cases hT
      · cases hT
    · cases hT
end
end Go.Abs
