/- What the proof needs, part 5: A program logic over abstract states, 6: lists read, cut and appended to; A program logic over abstract states, 7: append. -/
import Derived.Test.YtlmgpkopcgcbgaaGreatDoorQServeParts4
import Derived.Laws.AppendOwn
import Derived.Laws.BytesArg
/- A program logic over abstract states, 6: lists read, cut and appended to. -/
namespace Go.Abs
open Go Go.RowKit
set_option linter.unusedVariables false
set_option linter.unusedSimpArgs false

/-! rows laid end to end -/
theorem flat_len {α : Type} {sz : Nat} : ∀ {rows : List (List α)}, (∀ r ∈ rows, r.length = sz) → rows.flatten.length = rows.length * sz
  | [], _ => by simp
  | r :: rows, h => by
    rw [List.flatten_cons, List.length_append, h r (by simp), flat_len (fun r' hr' => h r' (by simp [hr'])), List.length_cons, Nat.add_mul]
    omega
theorem flat_at {α : Type} {sz : Nat} : ∀ {rows : List (List α)}, (∀ r ∈ rows, r.length = sz) → ∀ (i : Nat) (hi : i < rows.length) (j : Nat) (hj : j < rows[i].length), rows.flatten[i * sz + j]? = some rows[i][j]
  | [], _, i, hi, _, _ => by simp at hi
  | r :: rows, h, 0, hi, j, hj => by
    simp only [List.getElem_cons_zero] at hj ⊢
    rw [Nat.zero_mul, Nat.zero_add, List.flatten_cons, List.getElem?_append_left hj, List.getElem?_eq_getElem hj]
  | r :: rows, h, i + 1, hi, j, hj => by
    simp only [List.getElem_cons_succ] at hj ⊢
    have hr := h r (by simp)
    rw [List.flatten_cons, List.getElem?_append_right (by rw [hr, Nat.add_mul]; omega), hr, show (i + 1) * sz + j - sz = i * sz + j by rw [Nat.add_mul]; omega]
    exact flat_at (fun r' hr' => h r' (by simp [hr'])) i (by simpa using hi) j hj
theorem lt_rows {i j sz n : Nat} (hi : i < n) (hj : j < sz) : i * sz + j < n * sz := by
  have : (i + 1) * sz ≤ n * sz := Nat.mul_le_mul_right _ hi
  rw [Nat.add_mul] at this
  omega

section
variable {P : Program} {w0 : World} {Γ : Con} {h : AH} {w : World}

theorem run_firstCells_zero {P : Program} (w : World) (size : Nat) (base : Option Addr) (len cap : Nat) : (Builtin.firstCells size 0 (.slice base len cap)).run P w = .ok #[] w := by
  cases base with
  | none => rfl
  | some a => simp [Builtin.firstCells, loadCells, loadCellsFrom]
/-- A list's value: nil, or cells that never turn. -/
theorem RV.inv_list {sz : Nat} {rows : List (List AV)} {tok : Tok} {y : Value} (h : RV Γ (.list sz rows tok) y) :
    (∃ base, y = .slice base 0 0 ∧ rows = [] ∧ (tok = .full ∨ tok = .no)) ∨
    ∃ b o c us, y = .slice (some ⟨b, o, none⟩) rows.length c ∧ rows.length ≤ c ∧ (∀ r ∈ rows, r.length = sz) ∧ Cells Γ rows.flatten us ∧ us.length = rows.length * sz ∧
      (∀ k (hk : k < us.length), Γ.F b (o + k) = some us[k]) ∧ TokOk Γ tok b o rows.length c sz := by
  cases h with
  | nilf => exact .inl ⟨_, rfl, rfl, .inl rfl⟩
  | niln => exact .inl ⟨_, rfl, rfl, .inr rfl⟩
  | list hc hsz hF h1 hr ht =>
    rename_i b o c u
    have hlen : ∀ r ∈ rows, r.length = sz := by
      intro r hr'
      obtain ⟨i, hi, rfl⟩ := List.getElem_of_mem hr'
      exact hsz i hi
    have hfl := flat_len hlen
    refine .inr ⟨b, o, c, (List.range (rows.length * sz)).map fun k => u (k / sz) (k % sz), rfl, hc, hlen, ⟨by simp [hfl], fun k hk hk' => ?_, fun x hx => ?_⟩, by simp, fun k hk => ?_, ht⟩
    · have hkn : k < rows.length * sz := by rw [hfl] at hk; exact hk
      have hsz0 : 0 < sz := Nat.pos_of_ne_zero (by rintro rfl; simp at hkn)
      have hdm := Nat.div_add_mod k sz
      have hq : k / sz < rows.length := by rw [Nat.div_lt_iff_lt_mul hsz0]; exact hkn
      have hm : k % sz < sz := Nat.mod_lt _ hsz0
      have hj : k % sz < rows[k / sz].length := by rw [hsz _ hq]; exact hm
      have := flat_at hlen (k / sz) hq (k % sz) hj
      rw [show k / sz * sz + k % sz = k by rw [Nat.mul_comm]; exact hdm] at this
      rw [List.getElem?_eq_getElem hk] at this
      injection this with this
      rw [this]
      simp only [List.getElem_map, List.getElem_range]
      exact hr _ hq _ hj
    · simp only [List.mem_map, List.mem_range] at hx
      obtain ⟨k, hk, rfl⟩ := hx
      have hsz0 : 0 < sz := Nat.pos_of_ne_zero (by rintro rfl; simp at hk)
      exact h1 _ (by rw [Nat.div_lt_iff_lt_mul hsz0]; exact hk) _ (Nat.mod_lt _ hsz0)
    · simp only [List.length_map, List.length_range] at hk
      have hsz0 : 0 < sz := Nat.pos_of_ne_zero (by rintro rfl; simp at hk)
      have := hF (k / sz) (by rw [Nat.div_lt_iff_lt_mul hsz0]; exact hk) (k % sz) (Nat.mod_lt _ hsz0)
      rw [show k / sz * sz + k % sz = k by rw [Nat.mul_comm]; exact Nat.div_add_mod k sz] at this
      simpa using this
/-- A list out of cells that never turn. -/
theorem RV.mk_list {sz : Nat} {rows : List (List AV)} {tok : Tok} {b o c : Nat} {us : List Value} (hc : rows.length ≤ c) (hsz : ∀ r ∈ rows, r.length = sz) (hcs : Cells Γ rows.flatten us)
    (hF : ∀ k (hk : k < us.length), Γ.F b (o + k) = some us[k]) (ht : TokOk Γ tok b o rows.length c sz) : RV Γ (.list sz rows tok) (.slice (some ⟨b, o, none⟩) rows.length c) := by
  have hfl := flat_len hsz
  have hul : us.length = rows.length * sz := by rw [hcs.len, hfl]
  have key : ∀ i, i < rows.length → ∀ j, j < sz → i * sz + j < us.length := fun i hi j hj => by rw [hul]; exact lt_rows hi hj
  refine .list (u := fun i j => us.getD (i * sz + j) undef) hc (fun i hi => hsz _ (List.getElem_mem hi)) (fun i hi j hj => ?_) (fun i hi j hj => ?_) (fun i hi j hj => ?_) ht
  · have hk := key i hi j hj
    rw [hF _ hk]; simp [hk]
  · have hk := key i hi j hj
    simpa [hk] using hcs.one _ (List.getElem_mem hk)
  · have hj' : j < sz := by rw [← hsz _ (List.getElem_mem hi)]; exact hj
    have hk := key i hi j hj'
    have hfa := flat_at hsz i hi j hj
    obtain ⟨hk2, he⟩ := List.getElem?_eq_some_iff.1 hfa
    have := hcs.at_ (i * sz + j) hk2 hk
    rw [he] at this
    simpa [hk] using this

theorem Cells.append {cs cs' : List AV} {us us' : List Value} (h : Cells Γ cs us) (h' : Cells Γ cs' us') : Cells Γ (cs ++ cs') (us ++ us') := by
  have hl := h.len; have hl' := h'.len
  refine ⟨by simp [hl, hl'], fun i hi hi' => ?_, fun x hx => ?_⟩
  · by_cases hlt : i < cs.length
    · rw [List.getElem_append_left hlt, List.getElem_append_left (by omega)]
      exact h.at_ i hlt (by omega)
    · rw [List.getElem_append_right (by omega), List.getElem_append_right (by omega)]
      have := h'.at_ (i - cs.length) (by simp at hi; omega) (by simp at hi'; omega)
      simpa only [hl] using this
  · rcases List.mem_append.1 hx with hx | hx
    · exact h.one x hx
    · exact h'.one x hx

theorem chunk_len {sz : Nat} : ∀ (n : Nat) (cs : List AV), (chunk sz n cs).length = n
  | 0, _ => rfl
  | n + 1, cs => by simp [chunk, chunk_len n]
theorem chunk_row {sz : Nat} : ∀ (n : Nat) (cs : List AV), n * sz ≤ cs.length → ∀ r ∈ chunk sz n cs, r.length = sz
  | 0, _, _, r, hr => by simp [chunk] at hr
  | n + 1, cs, hl, r, hr => by
    rw [Nat.add_mul] at hl
    simp only [chunk, List.mem_cons] at hr
    rcases hr with rfl | hr
    · simp; omega
    · exact chunk_row n _ (by simp; omega) r hr
theorem chunk_flat {sz : Nat} : ∀ (n : Nat) (cs : List AV), n * sz ≤ cs.length → (chunk sz n cs).flatten = cs.take (n * sz)
  | 0, _, _ => by simp [chunk]
  | n + 1, cs, hl => by
    rw [Nat.add_mul] at hl
    simp only [chunk, List.flatten_cons]
    rw [chunk_flat n _ (by simp; omega), Nat.add_mul, Nat.one_mul, Nat.add_comm, List.take_add]

theorem byteRows_len (s : ByteArray) : (byteRows s).length = s.size := by simp [byteRows]
theorem byteRows_row (s : ByteArray) : ∀ r ∈ byteRows s, r.length = 1 := by
  intro r hr
  simp only [byteRows, List.mem_map] at hr
  obtain ⟨b, _, rfl⟩ := hr; rfl
theorem byteRows_flat (s : ByteArray) : (byteRows s).flatten = s.data.toList.map fun b => .v (.int .u8 b.toNat) := by
  unfold byteRows
  induction s.data.toList with
  | nil => rfl
  | cons a l ih => simp [ih]
theorem Cells_bytes (l : List UInt8) : Cells Γ (l.map fun b => .v (.int .u8 b.toNat)) (l.map fun b => .int .u8 b.toNat) := by
  refine ⟨by simp, fun i hi hi' => ?_, fun x hx => ?_⟩
  · simp only [List.getElem_map]; exact .v _
  · simp only [List.mem_map] at hx
    obtain ⟨b, _, rfl⟩ := hx; rfl

/-- What is appended, copied or made a string of. -/
theorem srcRows_sound (H : WR w0 Γ h w) {sz : Nat} {A : AV} {x : Value} {rows : List (List AV)} (hr : srcRows sz h A = some rows) (hx : RV Γ A x) :
    ∃ us, (Builtin.lenOf x).run P w = .ok rows.length w ∧ (∀ w', (∀ a v, w.cell? a = some v → w'.cell? a = some v) → (Builtin.firstCells sz rows.length x).run P w' = .ok us.toArray w') ∧
      Cells Γ rows.flatten us ∧ us.length = rows.length * sz ∧ (∀ r ∈ rows, r.length = sz) ∧ (∀ b o n c, x = .slice (some ⟨b, o, none⟩) n c → ∀ k (hk : k < us.length), w.cell? ⟨b, o + k, none⟩ = some us[k]) := by
  unfold srcRows at hr
  split at hr
  · split at hr
    · rename_i hs
      injection hr with hr
      subst hr; subst hs
      rcases hx.inv_list with ⟨base, rfl, rfl, _⟩ | ⟨b, o, c, us, rfl, hc, hsz, hcs, hul, hF, _⟩
      · exact ⟨[], rfl, fun w' _ => run_firstCells_zero w' _ _ _ _, ⟨rfl, fun i hi => by simp at hi, fun x hx => by cases hx⟩, by simp, by simp, by intro b o n c hx k hk; simp at hk⟩
      · have hcell : ∀ j v, us[j]? = some v → w.cell? ((⟨b, o, none⟩ : Addr).add j) = some v := by
          intro j v hv
          obtain ⟨hj, rfl⟩ := List.getElem?_eq_some_iff.1 hv
          rw [addr_add]; exact H.fcell (hF j hj)
        refine ⟨us, rfl, fun w' hw' => ?_, hcs, hul, hsz, fun b' o' n c' hx k hk => ?_⟩
        · exact run_firstCells_some (P := P) w' _ _ ⟨b, o, none⟩ _ c us hul (fun j v hv => hw' _ _ (hcell j v hv))
        · injection hx with h1 h2 h3
          injection h1 with h1
          injection h1 with h1 h4
          subst h1; subst h4
          exact H.fcell (hF k hk)
    · cases hr
  · split at hr
    · rename_i s hs
      injection hr with hr
      subst hr; subst hs
      rw [hx.inv_v]
      refine ⟨s.data.toList.map fun b => .int .u8 b.toNat, by rw [byteRows_len]; rfl, fun w' _ => ?_, by rw [byteRows_flat]; exact Cells_bytes _, by simp [byteRows_len], byteRows_row s, by intro b o n c hx; cases hx⟩
      rw [byteRows_len]
      simp only [Builtin.firstCells, Sem.run_pure]
      congr 1
      have e : s.extract 0 s.size = s := by
        apply ByteArray.ext
        simp [ByteArray.data_extract]
      rw [e]
      apply Array.ext'
      simp
    · cases hr
  · split at hr
    · rename_i id off len cap _ cs ho
      split at hr
      · rename_i hle
        injection hr with hr
        subst hr
        obtain ⟨b, c, hb, rfl, _⟩ := hx.inv_row
        obtain ⟨u, hu, h1, hrv⟩ := H.here ho hb
        have hlen : len * sz ≤ (cs.drop off).length := by simp; omega
        have hul : ((List.range (len * sz)).map fun k => u (off + k)).length = len * sz := by simp
        have hcell : ∀ k, k < len * sz → w.cell? ⟨b, off + k, none⟩ = some (u (off + k)) := fun k hk => by
          have := hu (off + k) (by omega)
          rwa [Nat.zero_add] at this
        refine ⟨(List.range (len * sz)).map fun k => u (off + k), by rw [chunk_len]; rfl, fun w' hw' => ?_, ?_, by rw [chunk_len]; exact hul, chunk_row len _ hlen, fun b' o' n c' hx k hk => ?_⟩
        · rw [chunk_len]
          refine run_firstCells_some (P := P) w' sz len ⟨b, off, none⟩ len c _ hul (fun j v hv => ?_)
          obtain ⟨hj, rfl⟩ := List.getElem?_eq_some_iff.1 hv
          rw [hul] at hj
          rw [addr_add]
          simpa using hw' _ _ (hcell j hj)
        · rw [chunk_flat len _ hlen]
          refine ⟨by simp; omega, fun i hi hi' => ?_, fun x hx => ?_⟩
          · simp only [List.length_take, List.length_drop] at hi
            simpa using hrv (off + i) (by omega)
          · simp only [List.mem_map, List.mem_range] at hx
            obtain ⟨k, hk, rfl⟩ := hx
            exact h1 _ (by omega)
        · injection hx with h1' h2 h3
          injection h1' with h1'
          injection h1' with h1' h4
          subst h1'; subst h4
          rw [hul] at hk
          simpa using hcell k hk
      · cases hr
    · cases hr
  · cases hr
end
end Go.Abs
/- A program logic over abstract states, 7: append. -/
namespace Go.Abs
open Go Go.RowKit
set_option linter.unusedVariables false
set_option linter.unusedSimpArgs false

section
variable {P : Program} {w0 : World} {Γ : Con} {h : AH} {w : World}

/-- The token's new version. -/
theorem le_withTok {t v : Nat} (hv : Γ.tau t v = none) (T : TokAt) : Γ.le (Γ.withTok t v T) := by
  refine ⟨fun x => x, fun x => x, fun {t' v' T'} hT => ?_⟩
  simp only [Con.withTok]
  split
  · rename_i e; rw [e.1, e.2, hv] at hT; cases hT
  · exact hT
theorem tau_none (H : WR w0 Γ h w) {t v : Nat} (hv : h.nt ≤ t ∨ h.ver t < v) : Γ.tau t v = none := by
  cases hx : Γ.tau t v with
  | none => rfl
  | some T => have := H.tnew hx; omega

/-- A token takes a new row (fresh: no object's, no token's). -/
theorem WR.retok (H : WR w0 Γ h w) {h' : AH} {t : Nat} {T : TokAt} (ho : h'.objs = h.objs) (hsh : h'.sh = h.sh) (hn : h'.n = h.n) (hnt : h.nt ≤ h'.nt) (htn : t < h'.nt) (hver : ∀ s, s ≠ t → s < h.nt → h'.ver s = h.ver s)
    (hv : h.nt ≤ t ∨ h.ver t < h'.ver t) (hge : w0.heap.size ≤ T.blk) (hblk : TokBlk Γ w T) (hobj : ∀ i, (h.objs i).isSome → Γ.rho i ≠ some T.blk)
    (hfresh : ∀ {s S}, Γ.tau s (h.ver s) = some S → s ≠ t → S.blk ≠ T.blk) : WR w0 (Γ.withTok t (h'.ver t) T) h' w := by
  have hle := le_withTok (tau_none H hv) T
  have hcur : ∀ {s S}, (Γ.withTok t (h'.ver t) T).tau s (h'.ver s) = some S → (s = t ∧ S = T) ∨ (s ≠ t ∧ Γ.tau s (h.ver s) = some S) := by
    intro s S hS
    simp only [Con.withTok] at hS
    split at hS
    · rename_i e; injection hS with hS; exact .inl ⟨e.1, hS.symm⟩
    · rename_i e
      by_cases hs : s = t
      · subst hs; exact absurd ⟨rfl, rfl⟩ e
      · have := H.tnew hS
        rw [hver s hs this.1] at hS
        exact .inr ⟨hs, hS⟩
  refine ⟨H.below, H.fcell, ?_, ?_, ?_, ?_, ?_, ?_⟩
  · intro i o hi
    rw [ho] at hi
    obtain ⟨b, h1, h2, h3, h4⟩ := H.obj hi
    exact ⟨b, h1, h2, h3.mono hle, h4⟩
  · intro i j b hi hj
    rw [ho] at hi hj
    exact H.inj hi hj
  · intro i b hi
    rw [hn]; exact H.rlt hi
  · intro s S hS
    rcases hcur hS with ⟨rfl, rfl⟩ | ⟨hs, hS'⟩
    · exact ⟨hge, hblk, fun i hi => by rw [ho] at hi; exact hobj i hi⟩
    · obtain ⟨h1, h2, h3⟩ := H.tok hS'
      exact ⟨h1, h2, fun i hi => by rw [ho] at hi; exact h3 i hi⟩
  · intro s s' S S' hS hS' he
    rcases hcur hS with ⟨rfl, rfl⟩ | ⟨hs, hS1⟩ <;> rcases hcur hS' with ⟨rfl, rfl⟩ | ⟨hs', hS1'⟩
    · rfl
    · exact absurd he.symm (hfresh hS1' hs')
    · exact absurd he (hfresh hS1 hs)
    · exact H.tinj hS1 hS1' he
  · intro s v S hS
    simp only [Con.withTok] at hS
    split at hS
    · rename_i e
      rw [e.1, e.2]
      exact ⟨htn, Nat.le_refl _⟩
    · have hh := H.tnew hS
      refine ⟨by omega, ?_⟩
      by_cases hs : s = t
      · subst hs
        rcases hv with hv | hv <;> omega
      · rw [hver s hs hh.1]; exact hh.2

def Con.grow (Γ : Con) (b e : Nat) (us : List Value) : Con := { Γ with F := fun k o => if k = b ∧ e ≤ o ∧ o < e + us.length then us[o - e]? else Γ.F k o }
/-- Cells are written behind the end of a token's row. -/
theorem WR.grow (H : WR w0 Γ h w) {t : Nat} {T : TokAt} (hT : Γ.tau t (h.ver t) = some T) {us : List Value} (h1 : ∀ x ∈ us, x.oneCell' = true) (hle : T.endc + us.length ≤ T.size) :
    ∃ w', (storeCells ⟨T.blk, T.endc, none⟩ us).run P w = .ok () w' ∧ Γ.le ((Γ.grow T.blk T.endc us).withTok t (h.ver t + 1) { T with endc := T.endc + us.length }) ∧
      WR w0 ((Γ.grow T.blk T.endc us).withTok t (h.ver t + 1) { T with endc := T.endc + us.length }) (h.bump t) w' := by
  obtain ⟨hge, ⟨he, vs, el, fr, hh, hsz, hfree⟩, hobj⟩ := H.tok hT
  have hr := run_storeCells P (off := T.endc) us 0 vs w hh h1 (by omega) (fun k a c => (hfree k (by omega) (by omega)).2)
  simp only [Nat.add_zero] at hr
  have hchg := putBlk_chg w T.blk (.cells (wrA vs T.endc us) el fr)
  have hat := putBlk_at hh (.cells (wrA vs T.endc us) el fr)
  generalize putBlk w T.blk (.cells (wrA vs T.endc us) el fr) = w' at hr hchg hat
  have hFend : ∀ {o x}, Γ.F T.blk o = some x → o < T.endc := by
    intro o x hx
    refine Nat.lt_of_not_le fun hc => ?_
    by_cases ho : o < T.size
    · rw [(hfree o hc ho).1] at hx; cases hx
    · have := H.fcell hx
      simp [World.cell?, hh, show vs.size ≤ o by omega] at this
  have hle1 : Γ.le (Γ.grow T.blk T.endc us) := by
    refine ⟨fun {b o x} hx => ?_, fun x => x, fun x => x⟩
    simp only [Con.grow]
    split
    · rename_i hc
      obtain ⟨rfl, h2, _⟩ := hc
      have := hFend hx; omega
    · exact hx
  have hvn : Γ.tau t (h.ver t + 1) = none := tau_none H (.inr (by omega))
  have hle2 : Γ.le ((Γ.grow T.blk T.endc us).withTok t (h.ver t + 1) { T with endc := T.endc + us.length }) := hle1.trans (le_withTok (show (Γ.grow T.blk T.endc us).tau t (h.ver t + 1) = none from hvn) _)
  have hcur : ∀ {s S}, ((Γ.grow T.blk T.endc us).withTok t (h.ver t + 1) { T with endc := T.endc + us.length }).tau s ((h.bump t).ver s) = some S →
      (s = t ∧ S = { T with endc := T.endc + us.length }) ∨ (s ≠ t ∧ Γ.tau s (h.ver s) = some S) := by
    intro s S hS
    simp only [Con.withTok, Con.grow, AH.bump] at hS
    by_cases hs : s = t
    · subst hs
      simp only [if_true, and_self, Option.some.injEq] at hS
      exact .inl ⟨rfl, hS.symm⟩
    · simp only [hs, if_false, false_and] at hS
      exact .inr ⟨hs, hS⟩
  refine ⟨w', hr, hle2, hchg.below hge H.below, ?_, ?_, H.inj, fun hi => by rw [hchg.size]; exact H.rlt hi, ?_, ?_, ?_⟩
  · intro b o x hx
    simp only [Con.grow, Con.withTok] at hx
    split at hx
    · rename_i hc
      obtain ⟨rfl, h2, h3⟩ := hc
      simp only [World.cell?, hat]
      rw [show (none : Option Nat).isSome = false from rfl]
      simp only [Bool.false_eq_true, if_false]
      rw [wrA_at, if_pos (by omega)]
      exact hx
    · rename_i hc
      by_cases hb : b = T.blk
      · subst hb
        have hlt := hFend hx
        have hc0 := H.fcell hx
        simp only [World.cell?, hh] at hc0
        simp only [World.cell?, hat]
        rw [show (none : Option Nat).isSome = false from rfl] at hc0 ⊢
        simp only [Bool.false_eq_true, if_false] at hc0 ⊢
        rw [wrA_at, if_neg (by omega)]
        exact hc0
      · exact (hchg.cell (a := ⟨b, o, none⟩) hb).trans (H.fcell hx)
  · intro i o hi
    obtain ⟨b, g1, g2, g3, g4⟩ := H.obj hi
    have hbne : b ≠ T.blk := by rintro rfl; exact hobj i (by rw [show h.objs i = some o from hi]; rfl) g1
    refine ⟨b, g1, g2, (g3.at_ (hchg.other b hbne)).mono hle2, fun off => ?_⟩
    simp only [Con.grow, Con.withTok]
    rw [if_neg (by intro hc; exact hbne hc.1)]
    exact g4 off
  · intro s S hS
    rcases hcur hS with ⟨rfl, rfl⟩ | ⟨hs, hS'⟩
    · refine ⟨hge, ⟨hle, _, el, fr, hat, by rw [wrA_size]; exact hsz, fun off a b => ⟨?_, (hfree off (by simp only at a; omega) b).2⟩⟩, hobj⟩
      simp only [Con.grow, Con.withTok]
      simp only at a b
      rw [if_neg (by omega)]
      exact (hfree off (by omega) b).1
    · have hne : S.blk ≠ T.blk := fun he' => hs (H.tinj hS' hT he')
      obtain ⟨g1, ⟨g2, vs', e', fr', g3, g4, g5⟩, g6⟩ := H.tok hS'
      refine ⟨g1, ⟨g2, vs', e', fr', (hchg.other _ hne).trans g3, g4, fun off a b => ⟨?_, (g5 off a b).2⟩⟩, g6⟩
      simp only [Con.grow, Con.withTok]
      rw [if_neg (by intro hc; exact hne hc.1)]
      exact (g5 off a b).1
  · intro s s' S S' hS hS' he'
    rcases hcur hS with ⟨rfl, rfl⟩ | ⟨hs, hS1⟩ <;> rcases hcur hS' with ⟨rfl, rfl⟩ | ⟨hs', hS1'⟩
    · rfl
    · exact absurd (H.tinj hS1' hT he'.symm) hs'
    · exact absurd (H.tinj hS1 hT he') hs
    · exact H.tinj hS1 hS1' he'
  · intro s v S hS
    simp only [Con.withTok, Con.grow] at hS
    split at hS
    · rename_i e
      rw [e.1, e.2]
      exact ⟨(H.tnew hT).1, by simp [AH.bump]⟩
    · have hh2 := H.tnew hS
      refine ⟨hh2.1, ?_⟩
      simp only [AH.bump]
      split
      · rename_i e; subst e; omega
      · exact hh2.2

/-- The slice's element type, as append looks at it. -/
structure ElemAt (P : Program) (t : TypeId) (sz eb : Nat) : Prop where
  out : ∃ e i z, P.underlying t = some (.slice e) ∧ P.info? e = some i ∧ i.zero = some z ∧ i.size = sz ∧ z.cells.size = sz ∧ i.bytes = eb
def slOrStr (P : Program) (t : TypeId) : Prop := (∃ e, P.underlying t = some (.slice e)) ∨ P.underlying t = some .string

theorem append_grow {t tx ty : TypeId} {e : TypeId} {i : TypeInfo} {z : Value} (ht : P.underlying t = some (.slice e)) (hi : P.info? e = some i) (hz : i.zero = some z) (hxt : slOrStr P tx) {base : Option Addr} {n c k : Nat} {x : Value}
    {us new : List Value} (hlx : (Builtin.lenOf x).run P w = .ok k w) (hold : (Builtin.firstCells i.size n (.slice base n c)).run P w.drew = .ok us.toArray w.drew) (hnew : (Builtin.firstCells i.size k x).run P w.drew = .ok new.toArray w.drew)
    (hroom : c < n + k) (hb : (n + k) * i.bytes ≤ 140737488355328) (h63 : 0 < i.bytes) :
    (Builtin.append_ #[t, tx] ty #[.slice base n c, x]).run P w = .ok (.slice (some ⟨w.heap.size, 0, none⟩) (n + k) (grownCap w (n + k) c e)) (w.drew.alloc (.cells ((us ++ new).toArray ++ Builtin.zeroCells z.cells (grownCap w (n + k) c e - (n + k))) e)) := by
  have hcap := growslice_fits hroom hb
  have hfit : ¬ n + k ≤ c := by omega
  have h64 : n + k ≤ (n + k) * i.bytes := Nat.le_mul_of_pos_right _ h63
  have h63' : ¬ (9223372036854775807 < ((n : Int) + (k : Int))) := by omega
  have h48' : ¬ (281474976710656 < Builtin.nextslicecap (n + k) c * i.bytes) := by omega
  rcases hxt with ⟨e', hd⟩ | hd <;>
    simp [Builtin.append_, run_underlying ht, run_underlying hd, sizeOf, typeInfo, zeroValue, hi, hz, hlx, hfit, h63', h48', Question.forced, hold, hnew, newRow, grownCap] <;> rw [← List.append_toArray, Array.append_assoc]
theorem append_room {t tx ty : TypeId} {e : TypeId} {i : TypeInfo} (ht : P.underlying t = some (.slice e)) (hi : P.info? e = some i) (hxt : slOrStr P tx) {b o n c k : Nat} {x : Value} {new : List Value} {w' : World}
    (hlx : (Builtin.lenOf x).run P w = .ok k w) (hnew : (Builtin.firstCells i.size k x).run P w = .ok new.toArray w) (hroom : n + k ≤ c) (hst : (storeCells ⟨b, o + n * i.size, none⟩ new).run P w = .ok () w') :
    (Builtin.append_ #[t, tx] ty #[.slice (some ⟨b, o, none⟩) n c, x]).run P w = .ok (.slice (some ⟨b, o, none⟩) (n + k) c) w' := by
  rcases hxt with ⟨e', hd⟩ | hd <;>
    simp [Builtin.append_, run_underlying ht, run_underlying hd, sizeOf, typeInfo, hi, hlx, hroom, hnew, addr_add, hst]
theorem append_none {t tx ty : TypeId} {e : TypeId} {i : TypeInfo} (ht : P.underlying t = some (.slice e)) (hi : P.info? e = some i) (hxt : slOrStr P tx) {base : Option Addr} {n c : Nat} {x : Value}
    (hlx : (Builtin.lenOf x).run P w = .ok 0 w) (hnew : (Builtin.firstCells i.size 0 x).run P w = .ok #[] w) (hroom : n ≤ c) :
    (Builtin.append_ #[t, tx] ty #[.slice base n c, x]).run P w = .ok (.slice base n c) w := by
  cases base with
  | none =>
    rcases hxt with ⟨e', hd⟩ | hd <;>
      simp [Builtin.append_, run_underlying ht, run_underlying hd, sizeOf, typeInfo, hi, hlx, hroom, hnew]
  | some a =>
    rcases hxt with ⟨e', hd⟩ | hd <;>
      simp [Builtin.append_, run_underlying ht, run_underlying hd, sizeOf, typeInfo, hi, hlx, hroom, hnew, storeCells]

/-- What append comes to. -/
theorem run_app {t tx ty : TypeId} {sz eb : Nat} (ht : ElemAt P t sz eb) (hxt : slOrStr P tx) (heb : 0 < eb) (H : WR w0 Γ h w) {rows new : List (List AV)} {tok : Tok} {A : AV} {x y : Value} (hx : RV Γ (.list sz rows tok) x) (hy : RV Γ A y)
    (hs : srcRows sz h A = some new) {tok' : Tok} {h' : AH} (hr : if new = [] then tok' = tok ∧ h' = h else appTok h tok = some (tok', h') ∧ (rows.length + new.length) * eb ≤ 140737488355328) :
    ∃ Γ' v w', (Builtin.append_ #[t, tx] ty #[x, y]).run P w = .ok v w' ∧ Γ.le Γ' ∧ RV Γ' (.list sz (rows ++ new) tok') v ∧ WR w0 Γ' h' w' := by
  obtain ⟨e, i, z, hte, hi, hz, rfl, hzs, rfl⟩ := ht.out
  obtain ⟨ns, hly, hfn, hcn, hnl, hnsz, _⟩ := srcRows_sound (P := P) H hs hy
  by_cases hne : new = []
  · subst hne
    rw [if_pos rfl] at hr
    obtain ⟨rfl, rfl⟩ := hr
    have hn0 : ns = [] := List.eq_nil_of_length_eq_zero (by simpa using hnl)
    subst hn0
    have hfn' := hfn w (fun a v hv => hv)
    refine ⟨Γ, x, w, ?_, .refl Γ, by simpa using hx, H⟩
    rcases hx.inv_list with ⟨base, rfl, _, _⟩ | ⟨b, o, c, us, rfl, hc, _⟩
    · exact append_none hte hi hxt hly hfn' (Nat.le_refl _)
    · exact append_none hte hi hxt hly hfn' hc
  · rw [if_neg hne] at hr
    obtain ⟨htok, hbd⟩ := hr
    have hpos : 0 < new.length := List.length_pos_iff.2 hne
    -- a new row is made
    have grows : ∀ (base : Option Addr) (n c : Nat) (us : List Value) (t' : Nat) (h' : AH), n = rows.length → x = .slice base n c → c < n + new.length → Cells Γ rows.flatten us → us.length = rows.length * i.size → (∀ r ∈ rows, r.length = i.size) →
        (Builtin.firstCells i.size n (.slice base n c)).run P w.drew = .ok us.toArray w.drew → h'.objs = h.objs → h'.sh = h.sh → h'.n = h.n → h.nt ≤ h'.nt → t' < h'.nt → (∀ s, s ≠ t' → s < h.nt → h'.ver s = h.ver s) → (h.nt ≤ t' ∨ h.ver t' < h'.ver t') →
        ∃ Γ' v w', (Builtin.append_ #[t, tx] ty #[x, y]).run P w = .ok v w' ∧ Γ.le Γ' ∧ RV Γ' (.list i.size (rows ++ new) (.own t' (h'.ver t'))) v ∧ WR w0 Γ' h' w' := by
      intro base n c us t' h' hn hxv hroom hcs hul hrsz hfo ho hsh' hn' hnt htn hver hv
      subst hn; subst hxv
      have hfn' := hfn w.drew (fun a v hv => hv)
      have hrun := append_grow (ty := ty) hte hi hz hxt hly hfo hfn' hroom hbd heb
      have hcap := grownCap_ge w (rows.length + new.length) c e
      generalize hcapv : grownCap w (rows.length + new.length) c e = cap at hrun hcap
      have hcells := hcs.append hcn
      have hall : ∀ r ∈ rows ++ new, r.length = i.size := fun r hr => by rcases List.mem_append.1 hr with hr | hr; exact hrsz r hr; exact hnsz r hr
      have hlen2 : (us ++ ns).length = (rows ++ new).length * i.size := by rw [List.length_append, List.length_append, hul, hnl, Nat.add_mul]
      obtain ⟨HW, hle⟩ := H.drew.row ((us ++ ns).toArray ++ Builtin.zeroCells z.cells (cap - (rows.length + new.length))) e (0, 0) ((us ++ ns).length)
      generalize hΓ1 : (Γ.withRow w.drew.heap.size fun o => if o < (us ++ ns).length then ((us ++ ns).toArray ++ Builtin.zeroCells z.cells (cap - (rows.length + new.length)))[o]? else none) = Γ1 at HW hle
      have hsize : ((us ++ ns).toArray ++ Builtin.zeroCells z.cells (cap - (rows.length + new.length))).size = cap * i.size := by
        simp only [Array.size_append, List.size_toArray, List.length_append, size_zeroCells, hzs, hul, hnl, ← Nat.add_mul]
        congr 1
        omega
      have hF : ∀ k (hk : k < (us ++ ns).length), Γ1.F w.heap.size (0 + k) = some (us ++ ns)[k] := by
        intro k hk
        subst hΓ1
        simp only [Con.withRow, World.size_drew, if_true, Nat.zero_add]
        rw [if_pos hk]
        have hk' : k < (us ++ ns).toArray.size := by simpa using hk
        rw [Array.getElem?_append_left hk']
        simp
      have hFn : ∀ off, (us ++ ns).length ≤ off → Γ1.F w.heap.size off = none := by
        intro off hoff
        subst hΓ1
        simp only [Con.withRow, World.size_drew, if_true]
        rw [if_neg (by omega)]
      have hΓobj : ∀ j, Γ1.rho j = Γ.rho j := by intro j; subst hΓ1; rfl
      have hΓtau : ∀ s v, Γ1.tau s v = Γ.tau s v := by intro s v; subst hΓ1; rfl
      have hT : TokBlk Γ1 (w.drew.alloc (.cells ((us ++ ns).toArray ++ Builtin.zeroCells z.cells (cap - (rows.length + new.length))) e)) { blk := w.heap.size, endc := (us ++ ns).length, size := cap * i.size, sz := i.size, elem := e } := by
        refine ⟨?_, _, e, (0, 0), heap_alloc_new w.drew _, hsize, fun off a b => ⟨hFn off a, by simp [free]⟩⟩
        simp only
        rw [hlen2, List.length_append]
        exact Nat.mul_le_mul_right _ hcap
      have HW2 := WR.retok (t := t') (h' := h') HW ho hsh' hn' hnt htn hver hv (by simpa using H.below.size) hT (fun j hj => by rw [hΓobj]; intro hb; have := (H.rlt hb).2; simp only at this; omega)
        (fun {s S} hS hs => by
          rw [hΓtau] at hS
          obtain ⟨_, ⟨_, vs', _, _, h3', _⟩, _⟩ := H.tok hS
          have := size_pos_of h3'
          simp only; omega)
      have hle2 := le_withTok (tau_none HW hv) { blk := w.heap.size, endc := (us ++ ns).length, size := cap * i.size, sz := i.size, elem := e }
      refine ⟨_, _, _, hrun, hle.trans hle2, ?_, HW2⟩
      have hlist : RV (Γ1.withTok t' (h'.ver t') { blk := w.heap.size, endc := (us ++ ns).length, size := cap * i.size, sz := i.size, elem := e }) (.list i.size (rows ++ new) (.own t' (h'.ver t'))) (.slice (some ⟨w.heap.size, 0, none⟩) (rows ++ new).length cap) := by
        refine RV.mk_list (us := us ++ ns) (by simpa using hcap) hall (by rw [List.flatten_append]; exact hcells.mono (hle.trans hle2)) (fun k hk => hle2.F (hF k hk)) ⟨{ blk := w.heap.size, endc := (us ++ ns).length, size := cap * i.size, sz := i.size, elem := e }, by simp only [Con.withTok, and_self, if_true], rfl, .inr ⟨?_, ?_, rfl⟩⟩
        · simp only [Nat.zero_add]; exact hlen2
        · simp
      simpa using hlist
    rcases hx.inv_list with ⟨base, rfl, rfl, ht'⟩ | ⟨b, o, c, us, rfl, hc, hrsz, hcs, hul, hF, hto⟩
    · -- nil
      have hfull : tok = .full := by
        rcases ht' with rfl | rfl
        · rfl
        · simp [appTok] at htok
      subst hfull
      simp only [appTok, Option.some.injEq, Prod.mk.injEq] at htok
      obtain ⟨rfl, rfl⟩ := htok
      have := grows base 0 0 [] h.nt h.newTok rfl rfl (by simpa using hpos) ⟨rfl, fun i hi => by simp at hi, fun x hx => by cases hx⟩ (by simp) (by simp) (run_firstCells_zero (P := P) w.drew _ _ _ _) rfl rfl rfl (by simp [AH.newTok]) (by simp [AH.newTok])
        (fun s hs _ => by simp [AH.newTok, hs]) (.inl (Nat.le_refl _))
      simpa [AH.newTok] using this
    · have hfo : ∀ (W : World), (∀ a v, w.cell? a = some v → W.cell? a = some v) → (Builtin.firstCells i.size rows.length (.slice (some ⟨b, o, none⟩) rows.length c)).run P W = .ok us.toArray W := by
        intro W hW
        refine run_firstCells_some (P := P) W _ _ ⟨b, o, none⟩ _ c us hul (fun j v hv => ?_)
        obtain ⟨hj, rfl⟩ := List.getElem?_eq_some_iff.1 hv
        rw [addr_add]; exact hW _ _ (H.fcell (hF j hj))
      cases tok with
      | no => simp [appTok] at htok
      | full =>
        simp only [appTok, Option.some.injEq, Prod.mk.injEq] at htok
        obtain ⟨rfl, rfl⟩ := htok
        have hce : rows.length = c := hto
        have := grows (some ⟨b, o, none⟩) rows.length c us h.nt h.newTok rfl rfl (by omega) hcs hul hrsz (hfo w.drew (fun a v hv => hv)) rfl rfl rfl (by simp [AH.newTok]) (by simp [AH.newTok]) (fun s hs _ => by simp [AH.newTok, hs]) (.inl (Nat.le_refl _))
        simpa [AH.newTok] using this
      | own tt v =>
        simp only [appTok] at htok
        split at htok
        · rename_i hvv
          simp only [Option.some.injEq, Prod.mk.injEq] at htok
          obtain ⟨rfl, rfl⟩ := htok
          subst hvv
          obtain ⟨T, hT, hTb, hTc⟩ := hto
          by_cases hroom : rows.length + new.length ≤ c
          · rcases hTc with hce | ⟨hTe, hTs, hTz⟩
            · omega
            subst hTb
            have hfit : T.endc + ns.length ≤ T.size := by
              rw [hTe, hnl]
              have : (rows.length + new.length) * i.size ≤ c * i.size := Nat.mul_le_mul_right _ hroom
              rw [Nat.add_mul] at this
              omega
            obtain ⟨w', hst, hle, HW⟩ := H.grow (P := P) hT hcn.one hfit
            rw [hTe] at hst
            have hrun := append_room (ty := ty) hte hi hxt hly (hfn w (fun a v hv => hv)) hroom hst
            refine ⟨_, _, w', hrun, hle, ?_, HW⟩
            have hall : ∀ r ∈ rows ++ new, r.length = i.size := fun r hr => by rcases List.mem_append.1 hr with hr | hr; exact hrsz r hr; exact hnsz r hr
            have hlist : RV ((Γ.grow T.blk T.endc ns).withTok tt (h.ver tt + 1) { T with endc := T.endc + ns.length }) (.list i.size (rows ++ new) (.own tt (h.ver tt + 1))) (.slice (some ⟨T.blk, o, none⟩) (rows ++ new).length c) := by
              refine RV.mk_list (us := us ++ ns) (by simpa using hroom) hall (by rw [List.flatten_append]; exact (hcs.append hcn).mono hle) (fun k hk => ?_) ⟨{ T with endc := T.endc + ns.length }, by simp only [Con.withTok, and_self, if_true], rfl, .inr ⟨?_, hTs, hTz⟩⟩
              · by_cases hku : k < us.length
                · rw [List.getElem_append_left hku]
                  exact hle.F (hF k hku)
                · have hk2 : k - us.length < ns.length := by simp at hk; omega
                  rw [List.getElem_append_right (by omega)]
                  simp only [Con.withTok, Con.grow]
                  have hTe2 : T.endc = o + us.length := by rw [hTe, hul]
                  rw [if_pos ⟨trivial, by omega, by omega⟩, show o + k - T.endc = k - us.length by omega, List.getElem?_eq_getElem hk2]
              · simp only
                rw [hTe, hnl, List.length_append, Nat.add_mul]; omega
            simpa using hlist
          · have := grows (some ⟨b, o, none⟩) rows.length c us tt (h.bump tt) rfl rfl (by omega) hcs hul hrsz (hfo w.drew (fun a v hv => hv)) rfl rfl rfl (Nat.le_refl _) (H.tnew hT).1 (fun s hs _ => by simp [AH.bump, hs]) (.inr (by simp [AH.bump]))
            simpa [AH.bump] using this
        · cases htok
end
end Go.Abs
