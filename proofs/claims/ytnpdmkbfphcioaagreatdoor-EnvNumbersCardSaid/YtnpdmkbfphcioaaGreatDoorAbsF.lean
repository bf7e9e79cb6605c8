/- A program logic over abstract states, 6: lists read, cut and appended to. -/
import Derived.Test.YtnpdmkbfphcioaaGreatDoorAbsE
import Derived.Laws.AppendOwn
import Derived.Laws.BytesArg
namespace Go.Abs
open Go Go.RowKit
set_option linter.unusedVariables false
set_option linter.unusedSimpArgs false

/-! rows laid end to end -/
theorem flat_len {α : Type} {sz : Nat} : ∀ {rows : List (List α)}, (∀ r ∈ rows, r.length = sz) → rows.flatten.length = rows.length * sz
  | [], _ => by simp
  | r :: rows, h => by
    rw [List.flatten_cons, List.length_append, h r (by simp), flat_len (fun r' hr' => h r' (by simp [hr'])), List.length_cons, Nat.add_mul]
    omega
theorem flat_at {α : Type} {sz : Nat} : ∀ {rows : List (List α)}, (∀ r ∈ rows, r.length = sz) → ∀ (i : Nat) (hi : i < rows.length) (j : Nat) (hj : j < rows[i].length), rows.flatten[i * sz + j]? = some rows[i][j]
  | [], _, i, hi, _, _ => by simp at hi
  | r :: rows, h, 0, hi, j, hj => by
    simp only [List.getElem_cons_zero] at hj ⊢
    rw [Nat.zero_mul, Nat.zero_add, List.flatten_cons, List.getElem?_append_left hj, List.getElem?_eq_getElem hj]
  | r :: rows, h, i + 1, hi, j, hj => by
    simp only [List.getElem_cons_succ] at hj ⊢
    have hr := h r (by simp)
    rw [List.flatten_cons, List.getElem?_append_right (by rw [hr, Nat.add_mul]; omega), hr, show (i + 1) * sz + j - sz = i * sz + j by rw [Nat.add_mul]; omega]
    exact flat_at (fun r' hr' => h r' (by simp [hr'])) i (by simpa using hi) j hj
theorem divmod {i j sz : Nat} (hj : j < sz) : (i * sz + j) / sz = i ∧ (i * sz + j) % sz = j := by
  constructor
  · rw [Nat.add_comm, Nat.add_mul_div_right _ _ (by omega), Nat.div_eq_of_lt hj, Nat.zero_add]
  · rw [Nat.add_comm, Nat.add_mul_mod_self_right, Nat.mod_eq_of_lt hj]
theorem lt_rows {i j sz n : Nat} (hi : i < n) (hj : j < sz) : i * sz + j < n * sz := by
  have : (i + 1) * sz ≤ n * sz := Nat.mul_le_mul_right _ hi
  rw [Nat.add_mul] at this
  omega

section
variable {P : Program} {w0 : World} {Γ : Con} {h : AH} {w : World}

theorem run_firstCells_zero {P : Program} (w : World) (size : Nat) (base : Option Addr) (len cap : Nat) : (Builtin.firstCells size 0 (.slice base len cap)).run P w = .ok #[] w := by
  cases base with
  | none => rfl
  | some a => simp [Builtin.firstCells, loadCells, loadCellsFrom]
/-- A list's value: nil, or cells that never turn. -/
theorem RV.inv_list {sz : Nat} {rows : List (List AV)} {tok : Tok} {y : Value} (h : RV Γ (.list sz rows tok) y) :
    (∃ base, y = .slice base 0 0 ∧ rows = [] ∧ (tok = .full ∨ tok = .no)) ∨
    ∃ b o c us, y = .slice (some ⟨b, o, none⟩) rows.length c ∧ rows.length ≤ c ∧ (∀ r ∈ rows, r.length = sz) ∧ Cells Γ rows.flatten us ∧ us.length = rows.length * sz ∧
      (∀ k (hk : k < us.length), Γ.F b (o + k) = some us[k]) ∧ TokOk Γ tok b o rows.length c sz := by
  cases h with
  | nilf => exact .inl ⟨_, rfl, rfl, .inl rfl⟩
  | niln => exact .inl ⟨_, rfl, rfl, .inr rfl⟩
  | list hc hsz hF h1 hr ht =>
    rename_i b o c u
    have hlen : ∀ r ∈ rows, r.length = sz := by
      intro r hr'
      obtain ⟨i, hi, rfl⟩ := List.getElem_of_mem hr'
      exact hsz i hi
    have hfl := flat_len hlen
    refine .inr ⟨b, o, c, (List.range (rows.length * sz)).map fun k => u (k / sz) (k % sz), rfl, hc, hlen, ⟨by simp [hfl], fun k hk hk' => ?_, fun x hx => ?_⟩, by simp, fun k hk => ?_, ht⟩
    · have hkn : k < rows.length * sz := by rw [hfl] at hk; exact hk
      have hsz0 : 0 < sz := Nat.pos_of_ne_zero (by rintro rfl; simp at hkn)
      have hdm := Nat.div_add_mod k sz
      have hq : k / sz < rows.length := by rw [Nat.div_lt_iff_lt_mul hsz0]; exact hkn
      have hm : k % sz < sz := Nat.mod_lt _ hsz0
      have hj : k % sz < rows[k / sz].length := by rw [hsz _ hq]; exact hm
      have := flat_at hlen (k / sz) hq (k % sz) hj
      rw [show k / sz * sz + k % sz = k by rw [Nat.mul_comm]; exact hdm] at this
      rw [List.getElem?_eq_getElem hk] at this
      injection this with this
      rw [this]
      simp only [List.getElem_map, List.getElem_range]
      exact hr _ hq _ hj
    · simp only [List.mem_map, List.mem_range] at hx
      obtain ⟨k, hk, rfl⟩ := hx
      have hsz0 : 0 < sz := Nat.pos_of_ne_zero (by rintro rfl; simp at hk)
      exact h1 _ (by rw [Nat.div_lt_iff_lt_mul hsz0]; exact hk) _ (Nat.mod_lt _ hsz0)
    · simp only [List.length_map, List.length_range] at hk
      have hsz0 : 0 < sz := Nat.pos_of_ne_zero (by rintro rfl; simp at hk)
      have := hF (k / sz) (by rw [Nat.div_lt_iff_lt_mul hsz0]; exact hk) (k % sz) (Nat.mod_lt _ hsz0)
      rw [show k / sz * sz + k % sz = k by rw [Nat.mul_comm]; exact Nat.div_add_mod k sz] at this
      simpa using this
/-- A list out of cells that never turn. -/
theorem RV.mk_list {sz : Nat} {rows : List (List AV)} {tok : Tok} {b o c : Nat} {us : List Value} (hc : rows.length ≤ c) (hsz : ∀ r ∈ rows, r.length = sz) (hcs : Cells Γ rows.flatten us)
    (hF : ∀ k (hk : k < us.length), Γ.F b (o + k) = some us[k]) (ht : TokOk Γ tok b o rows.length c sz) : RV Γ (.list sz rows tok) (.slice (some ⟨b, o, none⟩) rows.length c) := by
  have hfl := flat_len hsz
  have hul : us.length = rows.length * sz := by rw [hcs.len, hfl]
  have key : ∀ i, i < rows.length → ∀ j, j < sz → i * sz + j < us.length := fun i hi j hj => by rw [hul]; exact lt_rows hi hj
  refine .list (u := fun i j => us.getD (i * sz + j) undef) hc (fun i hi => hsz _ (List.getElem_mem hi)) (fun i hi j hj => ?_) (fun i hi j hj => ?_) (fun i hi j hj => ?_) ht
  · have hk := key i hi j hj
    rw [hF _ hk]; simp [hk]
  · have hk := key i hi j hj
    simpa [hk] using hcs.one _ (List.getElem_mem hk)
  · have hj' : j < sz := by rw [← hsz _ (List.getElem_mem hi)]; exact hj
    have hk := key i hi j hj'
    have hfa := flat_at hsz i hi j hj
    obtain ⟨hk2, he⟩ := List.getElem?_eq_some_iff.1 hfa
    have := hcs.at_ (i * sz + j) hk2 hk
    rw [he] at this
    simpa [hk] using this

theorem Cells.append {cs cs' : List AV} {us us' : List Value} (h : Cells Γ cs us) (h' : Cells Γ cs' us') : Cells Γ (cs ++ cs') (us ++ us') := by
  have hl := h.len; have hl' := h'.len
  refine ⟨by simp [hl, hl'], fun i hi hi' => ?_, fun x hx => ?_⟩
  · by_cases hlt : i < cs.length
    · rw [List.getElem_append_left hlt, List.getElem_append_left (by omega)]
      exact h.at_ i hlt (by omega)
    · rw [List.getElem_append_right (by omega), List.getElem_append_right (by omega)]
      have := h'.at_ (i - cs.length) (by simp at hi; omega) (by simp at hi'; omega)
      simpa only [hl] using this
  · rcases List.mem_append.1 hx with hx | hx
    · exact h.one x hx
    · exact h'.one x hx

theorem chunk_len {sz : Nat} : ∀ (n : Nat) (cs : List AV), (chunk sz n cs).length = n
  | 0, _ => rfl
  | n + 1, cs => by simp [chunk, chunk_len n]
theorem chunk_row {sz : Nat} : ∀ (n : Nat) (cs : List AV), n * sz ≤ cs.length → ∀ r ∈ chunk sz n cs, r.length = sz
  | 0, _, _, r, hr => by simp [chunk] at hr
  | n + 1, cs, hl, r, hr => by
    rw [Nat.add_mul] at hl
    simp only [chunk, List.mem_cons] at hr
    rcases hr with rfl | hr
    · simp; omega
    · exact chunk_row n _ (by simp; omega) r hr
theorem chunk_flat {sz : Nat} : ∀ (n : Nat) (cs : List AV), n * sz ≤ cs.length → (chunk sz n cs).flatten = cs.take (n * sz)
  | 0, _, _ => by simp [chunk]
  | n + 1, cs, hl => by
    rw [Nat.add_mul] at hl
    simp only [chunk, List.flatten_cons]
    rw [chunk_flat n _ (by simp; omega), Nat.add_mul, Nat.one_mul, Nat.add_comm, List.take_add]

theorem byteRows_len (s : ByteArray) : (byteRows s).length = s.size := by simp [byteRows]
theorem byteRows_row (s : ByteArray) : ∀ r ∈ byteRows s, r.length = 1 := by
  intro r hr
  simp only [byteRows, List.mem_map] at hr
  obtain ⟨b, _, rfl⟩ := hr; rfl
theorem byteRows_flat (s : ByteArray) : (byteRows s).flatten = s.data.toList.map fun b => .v (.int .u8 b.toNat) := by
  unfold byteRows
  induction s.data.toList with
  | nil => rfl
  | cons a l ih => simp [ih]
theorem Cells_bytes (l : List UInt8) : Cells Γ (l.map fun b => .v (.int .u8 b.toNat)) (l.map fun b => .int .u8 b.toNat) := by
  refine ⟨by simp, fun i hi hi' => ?_, fun x hx => ?_⟩
  · simp only [List.getElem_map]; exact .v _
  · simp only [List.mem_map] at hx
    obtain ⟨b, _, rfl⟩ := hx; rfl

/-- What is appended, copied or made a string of. -/
theorem srcRows_sound (H : WR w0 Γ h w) {sz : Nat} {A : AV} {x : Value} {rows : List (List AV)} (hr : srcRows sz h A = some rows) (hx : RV Γ A x) :
    ∃ us, (Builtin.lenOf x).run P w = .ok rows.length w ∧ (∀ w', (∀ a v, w.cell? a = some v → w'.cell? a = some v) → (Builtin.firstCells sz rows.length x).run P w' = .ok us.toArray w') ∧
      Cells Γ rows.flatten us ∧ us.length = rows.length * sz ∧ (∀ r ∈ rows, r.length = sz) ∧ (∀ b o n c, x = .slice (some ⟨b, o, none⟩) n c → ∀ k (hk : k < us.length), w.cell? ⟨b, o + k, none⟩ = some us[k]) := by
  unfold srcRows at hr
  split at hr
  · split at hr
    · rename_i hs
      injection hr with hr
      subst hr; subst hs
      rcases hx.inv_list with ⟨base, rfl, rfl, _⟩ | ⟨b, o, c, us, rfl, hc, hsz, hcs, hul, hF, _⟩
      · exact ⟨[], rfl, fun w' _ => run_firstCells_zero w' _ _ _ _, ⟨rfl, fun i hi => by simp at hi, fun x hx => by cases hx⟩, by simp, by simp, by intro b o n c hx k hk; simp at hk⟩
      · have hcell : ∀ j v, us[j]? = some v → w.cell? ((⟨b, o, none⟩ : Addr).add j) = some v := by
          intro j v hv
          obtain ⟨hj, rfl⟩ := List.getElem?_eq_some_iff.1 hv
          rw [addr_add]; exact H.fcell (hF j hj)
        refine ⟨us, rfl, fun w' hw' => ?_, hcs, hul, hsz, fun b' o' n c' hx k hk => ?_⟩
        · exact run_firstCells_some (P := P) w' _ _ ⟨b, o, none⟩ _ c us hul (fun j v hv => hw' _ _ (hcell j v hv))
        · injection hx with h1 h2 h3
          injection h1 with h1
          injection h1 with h1 h4
          subst h1; subst h4
          exact H.fcell (hF k hk)
    · cases hr
  · split at hr
    · rename_i s hs
      injection hr with hr
      subst hr; subst hs
      rw [hx.inv_v]
      refine ⟨s.data.toList.map fun b => .int .u8 b.toNat, by rw [byteRows_len]; rfl, fun w' _ => ?_, by rw [byteRows_flat]; exact Cells_bytes _, by simp [byteRows_len], byteRows_row s, by intro b o n c hx; cases hx⟩
      rw [byteRows_len]
      simp only [Builtin.firstCells, Sem.run_pure]
      congr 1
      have e : s.extract 0 s.size = s := by
        apply ByteArray.ext
        simp [ByteArray.data_extract]
      rw [e]
      apply Array.ext'
      simp
    · cases hr
  · split at hr
    · rename_i id off len cap _ cs ho
      split at hr
      · rename_i hle
        injection hr with hr
        subst hr
        obtain ⟨b, c, hb, rfl, _⟩ := hx.inv_row
        obtain ⟨u, hu, h1, hrv⟩ := H.here ho hb
        have hlen : len * sz ≤ (cs.drop off).length := by simp; omega
        have hul : ((List.range (len * sz)).map fun k => u (off + k)).length = len * sz := by simp
        have hcell : ∀ k, k < len * sz → w.cell? ⟨b, off + k, none⟩ = some (u (off + k)) := fun k hk => by
          have := hu (off + k) (by omega)
          rwa [Nat.zero_add] at this
        refine ⟨(List.range (len * sz)).map fun k => u (off + k), by rw [chunk_len]; rfl, fun w' hw' => ?_, ?_, by rw [chunk_len]; exact hul, chunk_row len _ hlen, fun b' o' n c' hx k hk => ?_⟩
        · rw [chunk_len]
          refine run_firstCells_some (P := P) w' sz len ⟨b, off, none⟩ len c _ hul (fun j v hv => ?_)
          obtain ⟨hj, rfl⟩ := List.getElem?_eq_some_iff.1 hv
          rw [hul] at hj
          rw [addr_add]
          simpa using hw' _ _ (hcell j hj)
        · rw [chunk_flat len _ hlen]
          refine ⟨by simp; omega, fun i hi hi' => ?_, fun x hx => ?_⟩
          · simp only [List.length_take, List.length_drop] at hi
            simpa using hrv (off + i) (by omega)
          · simp only [List.mem_map, List.mem_range] at hx
            obtain ⟨k, hk, rfl⟩ := hx
            exact h1 _ (by omega)
        · injection hx with h1' h2 h3
          injection h1' with h1'
          injection h1' with h1' h4
          subst h1'; subst h4
          rw [hul] at hk
          simpa using hcell k hk
      · cases hr
    · cases hr
  · cases hr
end
end Go.Abs
