/- A program logic over abstract states, 13: more operations. -/
import Derived.Test.YtnpdmkbfphcioaaGreatDoorAbsL
namespace Go.Abs
open Go Go.RowKit
set_option linter.unusedVariables false
set_option linter.unusedSimpArgs false

section
variable {P : Program} {w0 : World} {Γ : Con} {h : AH} {w : World} {fr : List AV} {a : Act} {e : Opd → AV}

theorem agg_of_cells {cs : List AV} {vs : Array Value} (hc : Cells Γ cs vs.toList) : RV Γ (.agg cs) (.agg vs) := by
  have hl := hc.len
  refine .agg (by simpa using hl) (fun j hj => hc.one _ (by simp)) (fun j hj hj' => ?_)
  have := hc.at_ j hj (by simpa using hj')
  rwa [Array.getElem_toList] at this
theorem snd_buildS {o : Oper} {t : TypeId} {ps : Array (Nat × Operand)} (hop : o.op = .build t ps) {fs : Array Field} (ht : P.underlying t = some (.struct fs)) {z : List AV} (hz : zeroOf P t = some z) (hall : fs.toList.all (fun f => (P.info? f.type).isSome) = true) {qs : List (Nat × Nat × Opd)}
    (hq : cpartsS P fs ps.toList = some qs) (hf : FR Γ fr a) (H : WR w0 Γ h w) {v : AV} {h' : AH} (hs : istep (.build z qs) (ev fr) h = some (v, h')) : Res P w0 Γ ((execOp a.eval o).run P w) v h' := by
  obtain ⟨i, zv, hi, hzv, _, _, hc⟩ := zeroOf_inv hz
  simp only [istep] at hs
  split at hs
  · rename_i cs hfa
    simp only [Option.some.injEq, Prod.mk.injEq] at hs
    obtain ⟨rfl, rfl⟩ := hs
    have hpl : ∃ places, fs.toList.mapM (fun f => (P.info? f.type).map fun i => (f.offset, i.size)) = some places := by
      revert hall
      induction fs.toList with
      | nil => intro _; exact ⟨[], rfl⟩
      | cons f l ih =>
        intro hall
        simp only [List.all_cons, Bool.and_eq_true] at hall
        obtain ⟨inf, hinf⟩ := Option.isSome_iff_exists.1 hall.1
        obtain ⟨pl, hpl⟩ := ih hall.2
        exact ⟨(f.offset, inf.size) :: pl, by simp [List.mapM_cons, hinf, hpl]⟩
    obtain ⟨places, hpl⟩ := hpl
    obtain ⟨cc, hfill, hcc⟩ := fill_sound (cpartsS_inv hpl hf hq) hfa (hc Γ)
    refine Res.val (s := Instr.build t (ps.map fun (i, x) => (i, a.eval x))) (by unfold execOp; simp only [hop]) (run_build w t _ cc ?_) (agg_of_cells hcc) H
    unfold Program.built
    simp only [hi, ht, hzv, hpl, Array.toList_map]
    exact hfill
  · cases hs
theorem snd_buildA {o : Oper} {t : TypeId} {ps : Array (Nat × Operand)} (hop : o.op = .build t ps) {n el : Nat} (ht : P.underlying t = some (.array n el)) {z : List AV} (hz : zeroOf P t = some z) {inf : TypeInfo} (hin : P.info? el = some inf) {qs : List (Nat × Nat × Opd)}
    (hq : cpartsA P el inf.size ps.toList = some qs) (hf : FR Γ fr a) (H : WR w0 Γ h w) {v : AV} {h' : AH} (hs : istep (.build z qs) (ev fr) h = some (v, h')) : Res P w0 Γ ((execOp a.eval o).run P w) v h' := by
  obtain ⟨i, zv, hi, hzv, _, _, hc⟩ := zeroOf_inv hz
  simp only [istep] at hs
  split at hs
  · rename_i cs hfa
    simp only [Option.some.injEq, Prod.mk.injEq] at hs
    obtain ⟨rfl, rfl⟩ := hs
    obtain ⟨cc, hfill, hcc⟩ := fill_sound (cpartsA_inv hf hq) hfa (hc Γ)
    refine Res.val (s := Instr.build t (ps.map fun (i, x) => (i, a.eval x))) (by unfold execOp; simp only [hop]) (run_build w t _ cc ?_) (agg_of_cells hcc) H
    unfold Program.built
    simp only [hi, ht, hzv, hin, Array.toList_map]
    exact hfill
  · cases hs
theorem run_lit {t el : TypeId} {n : Nat} {vs : Array (Nat × Value)} (ht : P.underlying t = some (.slice el)) {inf : TypeInfo} (hin : P.info? el = some inf) {zv : Value} (hzv : inf.zero = some zv) (hzs : zv.cells.size = inf.size) (h24 : n * inf.size ≤ 2 ^ 24) {cc : Array Value}
    (hfill : Instr.fill (fun i => some (i * inf.size, inf.size)) ((Array.range (n * zv.cells.size)).map (zv.cells[· % zv.cells.size]!)) vs.toList = some cc) :
    (Instr.buildSlice t n vs).run P w = .ok (.slice (some ⟨w.heap.size, 0, none⟩) n n) (w.alloc (.cells cc el)) := by
  have h24' : ¬ (16777216 < n * inf.size) := by omega
  by_cases h0 : n * inf.size = 0
  · have hfill0 : Instr.fill (fun i => some (i * inf.size, inf.size)) #[] vs.toList = some cc := by
      rw [hzs, h0] at hfill
      simpa [Array.range_zero'] using hfill
    simp [Instr.buildSlice, run_underlying ht, run_sizeOf' hin, h0, Array.range_zero', hfill0, newRow]
  · have e0 : (Array.range (n * inf.size)).map (zv.cells[· % zv.cells.size]!) = (Array.range (n * zv.cells.size)).map (zv.cells[· % zv.cells.size]!) := by rw [hzs]
    rw [← e0] at hfill
    simp only [Instr.buildSlice, Sem.run_bind, run_underlying ht, Result.andThen_ok, run_sizeOf' hin, gt_iff_lt, Nat.reducePow, h24', if_false, h0, zeroValue, typeInfo, run_program, hin, hzv, Sem.run_pure, hfill]
    simp [newRow]
theorem snd_lit {o : Oper} {t el : TypeId} {n : Nat} {ps : Array (Nat × Operand)} (hop : o.op = .buildSlice t n ps) (ht : P.underlying t = some (.slice el)) {inf : TypeInfo} (hin : P.info? el = some inf) {z : List AV} (hz : zeroOf P el = some z) {qs : List (Nat × Opd)} (hq : cpartsL P el ps.toList = some qs)
    (hzl : z.length = inf.size) (h24 : n * inf.size ≤ 2 ^ 24) (hf : FR Γ fr a) (H : WR w0 Γ h w) (row : Bool) {v : AV} {h' : AH} (hs : istep (if row then .litRow inf.size n z qs else .lit inf.size n z qs) (ev fr) h = some (v, h')) : Res P w0 Γ ((execOp a.eval o).run P w) v h' := by
  obtain ⟨i, zv, hi, hzv, _, _, hc⟩ := zeroOf_inv hz
  rw [hin] at hi
  injection hi with hi
  subst hi
  have hzs : zv.cells.size = inf.size := by have := (hc Γ).len; rw [Array.length_toList] at this; omega
  have hr : (execOp a.eval o).run P w = (do pure (Next.value (← Instr.buildSlice t n (ps.map fun (i, x) => (i, a.eval x)))) : Sem Next).run P w := by unfold execOp; simp only [hop]
  have key : ∀ cs, fillA ((List.replicate n z).flatten) (qs.map fun p => (p.1 * inf.size, inf.size, ev fr p.2)) = some cs → ∃ cc, (Instr.buildSlice t n (ps.map fun (i, x) => (i, a.eval x))).run P w = .ok (.slice (some ⟨w.heap.size, 0, none⟩) n n) (w.alloc (.cells cc el)) ∧ Cells Γ cs cc.toList := by
    intro cs hfa
    obtain ⟨cc, hfill, hcc⟩ := fill_sound (cpartsL_inv (sz := inf.size) hf hq) hfa (litCells (hc Γ) n)
    exact ⟨cc, run_lit ht hin hzv hzs h24 (by rw [Array.toList_map]; exact hfill), hcc⟩
  have hlen : ∀ cs, fillA ((List.replicate n z).flatten) (qs.map fun p => (p.1 * inf.size, inf.size, ev fr p.2)) = some cs → cs.length = n * inf.size := by
    have gen : ∀ (ps : List (Nat × Nat × AV)) (z cs : List AV), fillA z ps = some cs → cs.length = z.length := by
      intro ps
      induction ps with
      | nil => intro z cs hh; simp only [fillA, Option.some.injEq] at hh; rw [hh]
      | cons p ps ih =>
        intro z cs hh
        obtain ⟨p1, p2, p3⟩ := p
        simp only [fillA] at hh
        split at hh
        · split at hh
          · rw [ih _ _ hh, wrL_length]
          · cases hh
        · cases hh
    intro cs hfa
    rw [gen _ _ _ hfa, flat_len (sz := z.length) (fun r hr => by rw [List.eq_of_mem_replicate hr]), List.length_replicate, hzl]
  cases row
  · simp only [Bool.false_eq_true, if_false, istep] at hs
    split at hs
    · rename_i cs hfa
      simp only [Option.some.injEq, Prod.mk.injEq] at hs
      obtain ⟨rfl, rfl⟩ := hs
      obtain ⟨cc, hrun, hcc⟩ := key cs hfa
      have hcl := hlen cs hfa
      obtain ⟨HW, hle⟩ := H.row cc el (0, 0) (n * inf.size)
      refine Res.valw hr hrun hle ?_ HW
      have hcs : cc.size = n * inf.size := by have := hcc.len; rw [Array.length_toList] at this; omega
      have := RV.mk_list (Γ := Γ.withRow w.heap.size fun o => if o < n * inf.size then cc[o]? else none) (sz := inf.size) (rows := chunk inf.size n cs) (tok := .full) (b := w.heap.size) (o := 0) (c := n) (us := cc.toList)
        (by rw [chunk_len]; exact Nat.le_refl _) (chunk_row n cs (by omega)) (by rw [chunk_flat n cs (by omega), List.take_of_length_le (by omega)]; exact hcc.mono hle) (fun k hk => by
          have hk2 : k < cc.size := by simpa using hk
          simp only [Con.withRow, if_true, Nat.zero_add]
          rw [if_pos (by omega), Array.getElem?_eq_getElem hk2, Array.getElem_toList]) (by rw [chunk_len]; rfl)
      rwa [chunk_len] at this
    · cases hs
  · simp only [if_true, istep] at hs
    split at hs
    · rename_i cs hfa
      simp only [Option.some.injEq, Prod.mk.injEq] at hs
      obtain ⟨rfl, rfl⟩ := hs
      obtain ⟨cc, hrun, hcc⟩ := key cs hfa
      exact Res.valw hr hrun (H.le_obj _) (.row (by simp [Con.withObj]) (Nat.le_refl _) (fun k hk => by injection hk with hk; exact hk.symm)) (H.new _ _ (fun w' hw' => objAt_cells hw' (hcc.mono (H.le_obj _))))
    · cases hs
theorem snd_mkf {o : Oper} {fn : Fn} {fs cs : Array Operand} (hop : o.op = .makeFunc fn fs cs) {xs ys : List Opd} (hx : clist P fs.toList = some xs) (hy : clist P cs.toList = some ys) (hf : FR Γ fr a) (H : WR w0 Γ h w) {v : AV} {h' : AH} (hs : istep (.mkf fn xs ys) (ev fr) h = some (v, h')) :
    Res P w0 Γ ((execOp a.eval o).run P w) v h' := by
  simp only [istep, Option.some.injEq, Prod.mk.injEq] at hs
  obtain ⟨rfl, rfl⟩ := hs
  have h1 := clist_inv hf hx
  have h2 := clist_inv hf hy
  refine Res.val (s := Instr.makeFunc fn (fs.map a.eval) (cs.map a.eval)) (x := .func fn (fs.map a.eval) (cs.map a.eval)) (by unfold execOp; simp only [hop]) rfl (.func ?_ ?_ (fun i hi hi' => ?_) (fun i hi hi' => ?_)) H
  · have := h1.len; simpa using this
  · have := h2.len; simpa using this
  · have := h1.at_ i hi (by simpa using hi')
    simpa using this
  · have := h2.at_ i hi (by simpa using hi')
    simpa using this
theorem snd_mkm {o : Oper} {t : TypeId} (hop : o.op = .makeMap t none) (H : WR w0 Γ h w) {v : AV} {h' : AH} (hs : istep .mkm e h = some (v, h')) : Res P w0 Γ ((execOp a.eval o).run P w) v h' := by
  simp only [istep, Option.some.injEq, Prod.mk.injEq] at hs
  obtain ⟨rfl, rfl⟩ := hs
  refine Res.valw (s := Instr.makeMap t none) (x := .map (some w.heap.size)) (w' := w.alloc (.map #[] 0)) (by unfold execOp; simp only [hop]; rfl) (by simp [Instr.makeMap]) (H.le_obj _) (.mapr (by simp [Con.withObj])) (H.new _ _ (fun w' hw' => ⟨#[], 0, hw', rfl, fun i hi => by simp at hi⟩))
theorem snd_mks {o : Oper} {t el : TypeId} {L C : Operand} (hop : o.op = .makeSlice t L C) (ht : P.underlying t = some (.slice el)) {inf : TypeInfo} (hin : P.info? el = some inf) {z : List AV} (hz : zeroOf P el = some z) (hzl : z.length = inf.size) {l c : Opd} (hl : RV Γ (e l) (a.eval L)) (hc : RV Γ (e c) (a.eval C))
    (H : WR w0 Γ h w) {v : AV} {h' : AH} (hs : istep (.mks inf.size inf.bytes z l c) e h = some (v, h')) : Res P w0 Γ ((execOp a.eval o).run P w) v h' := by
  obtain ⟨i, zv, hi, hzv, hall, hze, hcz⟩ := zeroOf_inv hz
  rw [hin] at hi
  injection hi with hi
  subst hi
  have hzs : zv.cells.size = inf.size := by have := (hcz Γ).len; rw [Array.length_toList] at this; omega
  simp only [istep] at hs
  split at hs
  · rename_i lv cv hlk hck
    rw [hlk] at hl
    rw [hck] at hc
    split at hs
    · rename_i hb
      simp only [Option.some.injEq, Prod.mk.injEq] at hs
      obtain ⟨rfl, rfl⟩ := hs
      obtain ⟨v, w', Γ', hrun, hle, hv, HW⟩ := run_mks (P := P) ht hin hzv hzs hall (szsOf P 20 el) H hb.1 hb.2.1 hb.2.2.1 hb.2.2.2
      rw [← hze] at HW
      exact Res.valw (by unfold execOp; simp only [hop, hl.inv_v, hc.inv_v]) hrun hle hv HW
    · cases hs
  · cases hs
theorem snd_slS {o : Oper} {t : TypeId} {X : Operand} {LO HI : Option Operand} (hop : o.op = .slice t X LO HI none) (ht : P.underlying t = some .string) {x : Opd} (hx : RV Γ (e x) (a.eval X)) {lo hi : Option Opd} (hl : BndOk Γ e lo (LO.map a.eval)) (hh : BndOk Γ e hi (HI.map a.eval)) (H : WR w0 Γ h w) {v : AV} {h' : AH}
    (hs : istep (.slS x lo hi) e h = some (v, h')) : Res P w0 Γ ((execOp a.eval o).run P w) v h' := by
  simp only [istep] at hs
  split at hs
  · rename_i s hk
    rw [hk] at hx
    split at hs
    · rename_i b hb
      split at hs
      · rename_i a' ha
        simp only [Option.some.injEq, Prod.mk.injEq] at hs
        obtain ⟨rfl, rfl⟩ := hs
        exact Res.val (by unfold execOp; simp only [hop, Option.map_none, hx.inv_v]) (run_cutS (P := P) ht hl hh hb ha) (.v _) H
      · cases hs
    · cases hs
  · cases hs
theorem snd_slA {o : Oper} {t el : TypeId} {n : Nat} {X : Operand} {LO HI : Option Operand} (hop : o.op = .slice t X LO HI none) (ht : P.underlying t = some (.array n el)) {inf : TypeInfo} (hin : P.info? el = some inf) {x : Opd} (hx : RV Γ (e x) (a.eval X)) {lo hi : Option Opd} (hl : BndOk Γ e lo (LO.map a.eval)) (hh : BndOk Γ e hi (HI.map a.eval))
    (H : WR w0 Γ h w) {v : AV} {h' : AH} (hs : istep (.slA n inf.size x lo hi) e h = some (v, h')) : Res P w0 Γ ((execOp a.eval o).run P w) v h' := by
  simp only [istep] at hs
  split at hs
  · rename_i id off hk
    rw [hk] at hx
    split at hs
    · rename_i b hb
      split at hs
      · rename_i a' ha
        simp only [Option.some.injEq, Prod.mk.injEq] at hs
        obtain ⟨rfl, rfl⟩ := hs
        obtain ⟨v, hrun, hv⟩ := run_cutA (P := P) (w := w) ht hin rfl hx hl hh hb ha
        exact Res.val (by unfold execOp; simp only [hop, Option.map_none]) hrun hv H
      · cases hs
    · cases hs
  · cases hs
theorem snd_fad {o : Oper} {s : TypeId} {X : Operand} {f : Nat} (hop : o.op = .fieldAddr s X f) {fs : Array Field} (ht : P.underlying s = some (.struct fs)) {fd : Field} (hfd : fs[f]? = some fd) {inf : TypeInfo} (hin : P.info? fd.type = some inf) (h0 : inf.size ≠ 0) {x : Opd} (hx : RV Γ (e x) (a.eval X)) (H : WR w0 Γ h w) {v : AV} {h' : AH}
    (hs : istep (.fad x fd.offset) e h = some (v, h')) : Res P w0 Γ ((execOp a.eval o).run P w) v h' := by
  have hr : (execOp a.eval o).run P w = (do pure (Next.value (← Instr.fieldAt s (a.eval X) f)) : Sem Next).run P w := by unfold execOp; simp only [hop]
  have hrun : ∀ b off, a.eval X = .pointer (some ⟨b, off, none⟩) → (Instr.fieldAt s (a.eval X) f).run P w = .ok (.pointer (some ⟨b, off + fd.offset, none⟩)) w := by
    intro b off hX
    rw [hX]
    simp only [Instr.fieldAt, Sem.run_bind, run_underlying ht, Result.andThen_ok, hfd, Instr.sureAddr, Sem.run_pure, fieldPlace, run_sizeOf' hin, h0, if_false, addr_add]
  simp only [istep] at hs
  split at hs
  · rename_i id off hk
    rw [hk] at hx
    simp only [Option.some.injEq, Prod.mk.injEq] at hs
    obtain ⟨rfl, rfl⟩ := hs
    obtain ⟨b, hb, hxv⟩ := hx.inv_ptr
    exact Res.val hr (hrun b off hxv) (.ptr hb) H
  · rename_i cs off hk
    rw [hk] at hx
    simp only [Option.some.injEq, Prod.mk.injEq] at hs
    obtain ⟨rfl, rfl⟩ := hs
    obtain ⟨b, o', u, hxv, h1, h2, h3⟩ := hx.inv_lptr
    refine Res.val hr (hrun b (o' + off) hxv) ?_ H
    rw [Nat.add_assoc]
    exact .lptr h1 h2 h3
  · cases hs
theorem snd_fld {o : Oper} {s : TypeId} {X : Operand} {f : Nat} (hop : o.op = .field s X f) {fs : Array Field} (ht : P.underlying s = some (.struct fs)) {fd : Field} (hfd : fs[f]? = some fd) {sz : Option Nat} (hin : aggSz P fd.type = some sz) {x : Opd} (hx : RV Γ (e x) (a.eval X)) (H : WR w0 Γ h w) {v : AV} {h' : AH}
    (hs : istep (.fld x fd.offset sz) e h = some (v, h')) : Res P w0 Γ ((execOp a.eval o).run P w) v h' := by
  simp only [istep] at hs
  split at hs
  · rename_i cs hk
    rw [hk] at hx
    simp only [Option.map_eq_some_iff, Prod.mk.injEq] at hs
    obtain ⟨v', hv', rfl, rfl⟩ := hs
    obtain ⟨vs, hxv, hs1, h1, hr⟩ := hx.inv_agg
    obtain ⟨y, hy, hyv⟩ := run_part (P := P) (w := w) hin hs1 h1 hr hv'
    refine Res.val (s := Instr.field s (a.eval X) f) (by unfold execOp; simp only [hop]) ?_ hyv H
    rw [hxv]
    simp only [Instr.field, Sem.run_bind, run_underlying ht, Result.andThen_ok, hfd, asAgg, Sem.run_pure, hy]
  · cases hs
theorem snd_iaL {o : Oper} {t el : TypeId} {X I : Operand} (hop : o.op = .indexAddr t X I) (ht : P.underlying t = some (.slice el)) {inf : TypeInfo} (hin : P.info? el = some inf) {x i : Opd} (hx : RV Γ (e x) (a.eval X)) (hi : RV Γ (e i) (a.eval I)) (H : WR w0 Γ h w) {v : AV} {h' : AH}
    (hs : istep (.iaL inf.size x i) e h = some (v, h')) : Res P w0 Γ ((execOp a.eval o).run P w) v h' := by
  simp only [istep] at hs
  split at hs
  · rename_i sz' rows tok k j hk hik
    rw [hk] at hx
    rw [hik] at hi
    split at hs
    · rename_i hsz
      split at hs
      · rename_i h0
        split at hs
        · rename_i r hr
          simp only [Option.some.injEq, Prod.mk.injEq] at hs
          obtain ⟨rfl, rfl⟩ := hs
          obtain ⟨v, hrun, hv⟩ := run_iaL (P := P) (w := w) ⟨_, _, ht, hin, rfl⟩ hsz hx h0 hr (k := k)
          exact Res.val (by unfold execOp; simp only [hop, hi.inv_v]) hrun hv H
        · cases hs
      · cases hs
    · cases hs
  · rename_i id off len cap k j hk hik
    rw [hk] at hx
    rw [hik] at hi
    split at hs
    · rename_i hj
      simp only [Option.some.injEq, Prod.mk.injEq] at hs
      obtain ⟨rfl, rfl⟩ := hs
      obtain ⟨v, hrun, hv⟩ := run_iaR (P := P) (w := w) ⟨_, _, ht, hin, rfl⟩ hx hj.1 hj.2 (k := k)
      exact Res.val (by unfold execOp; simp only [hop, hi.inv_v]) hrun hv H
    · cases hs
  · cases hs
theorem snd_iaA {o : Oper} {t el : TypeId} {n : Nat} {X I : Operand} (hop : o.op = .indexAddr t X I) (ht : P.underlying t = some (.array n el)) {inf : TypeInfo} (hin : P.info? el = some inf) {x i : Opd} (hx : RV Γ (e x) (a.eval X)) (hi : RV Γ (e i) (a.eval I)) (H : WR w0 Γ h w) {v : AV} {h' : AH}
    (hs : istep (.iaA n inf.size x i) e h = some (v, h')) : Res P w0 Γ ((execOp a.eval o).run P w) v h' := by
  simp only [istep] at hs
  split at hs
  · rename_i id off k j hk hik
    rw [hk] at hx
    rw [hik] at hi
    split at hs
    · rename_i hj
      simp only [Option.some.injEq, Prod.mk.injEq] at hs
      obtain ⟨rfl, rfl⟩ := hs
      obtain ⟨b, hb, hxv⟩ := hx.inv_ptr
      have hrun := run_iaA (P := P) (w := w) ht hin rfl hxv hj.1 hj.2 (k := k)
      rw [addr_add] at hrun
      exact Res.val (by unfold execOp; simp only [hop, hi.inv_v]) hrun (.ptr hb) H
    · cases hs
  · rename_i cs off k j hk hik
    rw [hk] at hx
    rw [hik] at hi
    split at hs
    · rename_i hj
      simp only [Option.some.injEq, Prod.mk.injEq] at hs
      obtain ⟨rfl, rfl⟩ := hs
      obtain ⟨b, o', u, hxv, h1, h2, h3⟩ := hx.inv_lptr
      have hrun := run_iaA (P := P) (w := w) ht hin rfl hxv hj.1 hj.2 (k := k)
      rw [addr_add, Nat.add_assoc] at hrun
      exact Res.val (by unfold execOp; simp only [hop, hi.inv_v]) hrun (.lptr h1 h2 h3) H
    · cases hs
  · cases hs
theorem snd_ixS {o : Oper} {t : TypeId} {X I : Operand} (hop : o.op = .index t X I) (ht : P.underlying t = some .string) {x i : Opd} (hx : RV Γ (e x) (a.eval X)) (hi : RV Γ (e i) (a.eval I)) (H : WR w0 Γ h w) {v : AV} {h' : AH} (hs : istep (.ixS x i) e h = some (v, h')) : Res P w0 Γ ((execOp a.eval o).run P w) v h' := by
  simp only [istep] at hs
  split at hs
  · rename_i s k j hk hik
    rw [hk] at hx
    rw [hik] at hi
    split at hs
    · rename_i h0
      split at hs
      · rename_i b hb
        simp only [Option.some.injEq, Prod.mk.injEq] at hs
        obtain ⟨rfl, rfl⟩ := hs
        exact Res.val (by unfold execOp; simp only [hop, hi.inv_v, hx.inv_v]) (run_ixS (P := P) ht h0 hb (k := k)) (.v _) H
      · cases hs
    · cases hs
  · cases hs
theorem snd_ixA {o : Oper} {t el : TypeId} {n : Nat} {X I : Operand} (hop : o.op = .index t X I) (ht : P.underlying t = some (.array n el)) {inf : TypeInfo} (hin : P.info? el = some inf) {sz : Option Nat} (hag : aggSz P el = some sz) {x i : Opd} (hx : RV Γ (e x) (a.eval X)) (hi : RV Γ (e i) (a.eval I)) (H : WR w0 Γ h w) {v : AV} {h' : AH}
    (hs : istep (.ixA n inf.size sz.isSome x i) e h = some (v, h')) : Res P w0 Γ ((execOp a.eval o).run P w) v h' := by
  have hsz : (if sz.isSome then some inf.size else none) = sz := by
    obtain ⟨i2, hi2, hh⟩ := aggSz_info hag
    rw [hin] at hi2
    injection hi2 with hi2
    subst hi2
    cases sz with
    | none => rfl
    | some m => simp [hh m rfl]
  simp only [istep] at hs
  split at hs
  · rename_i cs k j hk hik
    rw [hk] at hx
    rw [hik] at hi
    split at hs
    · rename_i hj
      rw [hsz] at hs
      simp only [Option.map_eq_some_iff, Prod.mk.injEq] at hs
      obtain ⟨v', hv', rfl, rfl⟩ := hs
      obtain ⟨vs, hxv, hs1, h1, hr⟩ := hx.inv_agg
      obtain ⟨y, hy, hyv⟩ := run_ixA (P := P) (w := w) ht hin hag hs1 h1 hr hj.1 hj.2 hv' (k := k)
      exact Res.val (by unfold execOp; simp only [hop, hi.inv_v, hxv]) hy hyv H
    · cases hs
  · cases hs
theorem snd_ext {o : Oper} {X : Operand} {i : Nat} (hop : o.op = .extract X i) {x : Opd} (hx : RV Γ (e x) (a.eval X)) (H : WR w0 Γ h w) {v : AV} {h' : AH} (hs : istep (.ext x i) e h = some (v, h')) : Res P w0 Γ ((execOp a.eval o).run P w) v h' := by
  simp only [istep] at hs
  split at hs
  · rename_i vs hk
    rw [hk] at hx
    simp only [Option.map_eq_some_iff, Prod.mk.injEq] at hs
    obtain ⟨v', hv', rfl, rfl⟩ := hs
    obtain ⟨us, hxv, hs1, hr⟩ := hx.inv_tup
    obtain ⟨hlt, rfl⟩ := List.getElem?_eq_some_iff.1 hv'
    have hlt2 : i < us.size := by omega
    refine Res.val (s := Instr.extract (a.eval X) i) (x := us[i]) (by unfold execOp; simp only [hop]) ?_ (hr i hlt hlt2) H
    rw [hxv]
    simp [Instr.extract, hlt2]
  · cases hs
theorem snd_rng {o : Oper} {t : TypeId} {X : Operand} (hop : o.op = .range t X) (ht : P.underlying t = some .string) {x : Opd} (hx : RV Γ (e x) (a.eval X)) (H : WR w0 Γ h w) {v : AV} {h' : AH} (hs : istep (.rng x) e h = some (v, h')) : Res P w0 Γ ((execOp a.eval o).run P w) v h' := by
  simp only [istep] at hs
  split at hs
  · rename_i s hk
    rw [hk] at hx
    simp only [Option.some.injEq, Prod.mk.injEq] at hs
    obtain ⟨rfl, rfl⟩ := hs
    exact Res.valw (w := w) (s := Instr.range t (a.eval X)) (x := .pointer (some ⟨w.heap.size, 0, none⟩)) (w' := w.alloc (.stringIter s 0)) (by unfold execOp; simp only [hop]) (by rw [hx.inv_v]; simp only [Instr.range, Sem.run_bind, run_underlying ht, Result.andThen_ok, Sem.run_pure, run_newObj]; rfl) (H.le_obj _) (.ptr (by simp [Con.withObj])) (H.new _ _ (fun w' hw' => hw'))
  · cases hs
theorem snd_nxt {o : Oper} {X : Operand} (hop : o.op = .next X true) {x : Opd} (hx : RV Γ (e x) (a.eval X)) (H : WR w0 Γ h w) {v : AV} {h' : AH} (hs : istep (.nxt x) e h = some (v, h')) : Res P w0 Γ ((execOp a.eval o).run P w) v h' := by
  simp only [istep] at hs
  split at hs
  · rename_i id hk
    rw [hk] at hx
    split at hs
    · rename_i s pos ho
      obtain ⟨w', hrun, HW⟩ := run_nxt (P := P) H hx ho o.type
      have hr : (execOp a.eval o).run P w = (do pure (Next.value (← Instr.next (a.eval X) true o.type)) : Sem Next).run P w := by unfold execOp; simp only [hop]
      split at hs
      · rename_i hp
        rw [if_pos hp] at hrun HW
        simp only [Option.some.injEq, Prod.mk.injEq] at hs
        obtain ⟨rfl, rfl⟩ := hs
        refine Res.valw hr hrun (.refl _) (.tup rfl (fun i hi hi' => ?_)) HW
        match i, hi with
        | 0, _ => exact .v _
        | 1, _ => exact .v _
        | 2, _ => exact .v _
      · rename_i hp
        rw [if_neg hp] at hrun HW
        simp only [Option.some.injEq, Prod.mk.injEq] at hs
        obtain ⟨rfl, rfl⟩ := hs
        refine Res.valw hr hrun (.refl _) (.tup rfl (fun i hi hi' => ?_)) HW
        match i, hi with
        | 0, _ => exact .v _
    · cases hs
  · cases hs
theorem snd_look {o : Oper} {mt kt et : TypeId} {X K : Operand} {ok : Bool} (hop : o.op = .lookup mt X K ok) (ht : P.underlying mt = some (.map kt et)) {ck : CK} (hk : ckOf P kt = some ck) {z : AV} (hz : zeroV P et = some z) {x k : Opd} (hx : RV Γ (e x) (a.eval X)) (hkk : RV Γ (e k) (a.eval K)) (H : WR w0 Γ h w) {v : AV} {h' : AH}
    (hs : istep (.look ck z ok x k) e h = some (v, h')) : Res P w0 Γ ((execOp a.eval o).run P w) v h' := by
  obtain ⟨i, zv, hi, hzv, hzr⟩ := zeroV_inv hz
  simp only [istep] at hs
  split at hs
  · rename_i kv hkv
    rw [hkv] at hkk
    simp only [Option.map_eq_some_iff, Prod.mk.injEq] at hs
    obtain ⟨v', hv', rfl, rfl⟩ := hs
    obtain ⟨y, hy, hyv⟩ := run_look (P := P) ht hk hi hzv hzr ok H hx hv'
    exact Res.val (by unfold execOp; simp only [hop, hkk.inv_v]) hy hyv H
  · cases hs
theorem snd_upd {o : Oper} {mt kt et : TypeId} {M K X : Operand} (hop : o.op = .mapUpdate mt M K X ∨ o.op = .insert mt M K X) (ht : P.underlying mt = some (.map kt et)) {ck : CK} (hk : ckOf P kt = some ck) {m k x : Opd} (hm : RV Γ (e m) (a.eval M)) (hkk : RV Γ (e k) (a.eval K)) (hx : RV Γ (e x) (a.eval X)) (H : WR w0 Γ h w) {v : AV} {h' : AH}
    (hs : istep (.upd ck m k x) e h = some (v, h')) : Res P w0 Γ ((execOp a.eval o).run P w) v h' := by
  simp only [istep] at hs
  split at hs
  · rename_i id kv hmv hkv
    rw [hkv] at hkk
    rw [hmv] at hm
    split at hs
    · rename_i es ho
      simp only [Option.map_eq_some_iff, Prod.mk.injEq] at hs
      obtain ⟨h1, hh1, rfl, rfl⟩ := hs
      obtain ⟨w', hrun, HW⟩ := run_upd (P := P) ht hk H hm hx ho hh1
      refine Res.unit (s := Instr.mapUpdate mt (a.eval M) kv (a.eval X)) ?_ hrun HW
      rcases hop with hop | hop <;> (unfold execOp; simp only [hop, hkk.inv_v])
    · cases hs
  · cases hs
end
end Go.Abs
