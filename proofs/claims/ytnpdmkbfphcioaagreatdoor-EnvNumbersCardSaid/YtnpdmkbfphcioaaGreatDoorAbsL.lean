/- A program logic over abstract states, 12: the compact operation tells what the model's does. -/
import Derived.Test.YtnpdmkbfphcioaaGreatDoorAbsK
namespace Go.Abs
open Go Go.RowKit
set_option linter.unusedVariables false
set_option linter.unusedSimpArgs false

section
variable {P : Program} {w0 : World} {Γ : Con} {h : AH} {w : World} {fr : List AV} {a : Act}

theorem Res.val {r : Result Next} {s : Sem Value} {x : Value} {v : AV} (hr : r = (do pure (Next.value (← s)) : Sem Next).run P w) (hs : s.run P w = .ok x w) (hv : RV Γ v x) (H : WR w0 Γ h w) : Res P w0 Γ r v h := by
  refine ⟨Γ, x, w, .inl ?_, .refl Γ, hv, H⟩
  rw [hr, Sem.run_bind, hs]; rfl
theorem Res.valw {r : Result Next} {s : Sem Value} {x : Value} {v : AV} {w' : World} {Γ' : Con} {h' : AH} (hr : r = (do pure (Next.value (← s)) : Sem Next).run P w) (hs : s.run P w = .ok x w') (hl : Γ.le Γ') (hv : RV Γ' v x) (H : WR w0 Γ' h' w') : Res P w0 Γ r v h' := by
  refine ⟨Γ', x, w', .inl ?_, hl, hv, H⟩
  rw [hr, Sem.run_bind, hs]; rfl
theorem Res.unit {r : Result Next} {s : Sem Unit} {w' : World} {h' : AH} (hr : r = (do s; pure Next.skip : Sem Next).run P w) (hs : s.run P w = .ok () w') (H : WR w0 Γ h' w') : Res P w0 Γ r (.v undef) h' := by
  refine ⟨Γ, undef, w', .inr ⟨?_, rfl⟩, .refl Γ, .v _, H⟩
  rw [hr, Sem.run_bind, hs]; rfl

variable {e : Opd → AV}

theorem snd_load {o : Oper} {t : TypeId} {X : Operand} (hop : o.op = .load t X) {s : Option Nat} (ht : aggSz P t = some s) {x : Opd} (hx : RV Γ (e x) (a.eval X)) (H : WR w0 Γ h w) {v : AV} {h' : AH} (hs : istep (.load x s) e h = some (v, h')) :
    Res P w0 Γ ((execOp a.eval o).run P w) v h' := by
  have he : execOp a.eval o = (do pure (Next.value (← Instr.loadAt t (a.eval X))) : Sem Next) := by unfold execOp; simp only [hop]
  rw [he]; clear he
  generalize a.eval X = xv at hx
  have go : ∀ (b o' : Nat) (off : Nat) (cs : List AV), Here Γ w b o' cs → xv = .pointer (some ⟨b, o' + off, none⟩) → ((rd cs off s).map fun a => (a, h)) = some (v, h') → Res P w0 Γ ((do pure (Next.value (← Instr.loadAt t xv)) : Sem Next).run P w) v h' := by
    intro b o' off cs hh hxv hrd
    simp only [Option.map_eq_some_iff, Prod.mk.injEq] at hrd
    obtain ⟨v', hv', rfl, rfl⟩ := hrd
    obtain ⟨y, hy, hyv⟩ := run_rd (P := P) ht hh hv'
    subst hxv
    exact Res.val rfl (by simpa [Instr.loadAt, Instr.sureAddr] using hy) hyv H
  simp only [istep] at hs
  split at hs
  · rename_i id off hk
    rw [hk] at hx
    obtain ⟨b, hb, hxv⟩ := hx.inv_ptr
    split at hs
    · rename_i cs ho
      exact go b 0 off cs (H.here ho hb) (by rw [hxv, Nat.zero_add]) hs
    · cases hs
  · rename_i cs off hk
    rw [hk] at hx
    obtain ⟨b, o', u, hxv, hF, h1, hr⟩ := hx.inv_lptr
    exact go b o' off cs ⟨u, fun j hj => H.fcell (hF j hj), h1, hr⟩ hxv hs
  · cases hs
theorem snd_store {o : Oper} {t : TypeId} {X Y : Operand} (hop : o.op = .store t X Y) {i : TypeInfo} (hi : P.info? t = some i) {x y : Opd} (hx : RV Γ (e x) (a.eval X)) (hy : RV Γ (e y) (a.eval Y)) (H : WR w0 Γ h w) {v : AV} {h' : AH}
    (hs : istep (.store x y i.size) e h = some (v, h')) : Res P w0 Γ ((execOp a.eval o).run P w) v h' := by
  have he : execOp a.eval o = (do Instr.storeAt t (a.eval X) (a.eval Y); pure Next.skip : Sem Next) := by unfold execOp; simp only [hop]
  rw [he]; clear he
  generalize a.eval X = xv at hx
  generalize a.eval Y = yv at hy
  simp only [istep] at hs
  split at hs
  · rename_i id off as hk hsc
    rw [hk] at hx
    obtain ⟨b, hb, rfl⟩ := hx.inv_ptr
    have hcl := scells_sound hsc hy
    split at hs
    · rename_i cs ho
      split at hs
      · rename_i hc
        simp only [Option.some.injEq, Prod.mk.injEq] at hs
        obtain ⟨rfl, rfl⟩ := hs
        obtain ⟨w', hst, HW⟩ := H.store P ho hb hcl (off := off) (by omega)
        refine Res.unit rfl (w' := w') ?_ HW
        have hsz : yv.cells.size = i.size := by have := hcl.len; rw [Array.length_toList] at this; omega
        simp only [Instr.storeAt, Sem.run_bind, Instr.sureAddr, Sem.run_pure, Result.andThen_ok, storeVar, run_sizeOf' hi, hsz, ne_eq, not_true, if_false, hst]
      · cases hs
    · cases hs
  · cases hs
theorem snd_nilc {o : Oper} {X : Operand} (hop : o.op = .nilCheck X) {x : Opd} (hx : RV Γ (e x) (a.eval X)) (H : WR w0 Γ h w) {v : AV} {h' : AH} (hs : istep (.nilc x) e h = some (v, h')) : Res P w0 Γ ((execOp a.eval o).run P w) v h' := by
  simp only [istep] at hs
  split at hs
  · rename_i id off hk
    rw [hk] at hx
    obtain ⟨b, hb, hxv⟩ := hx.inv_ptr
    simp only [Option.some.injEq, Prod.mk.injEq] at hs
    obtain ⟨rfl, rfl⟩ := hs
    exact Res.same (by unfold execOp; simp only [hop, hxv]; rfl) hx H
  · rename_i cs off hk
    rw [hk] at hx
    obtain ⟨b, o', u, hxv, _⟩ := hx.inv_lptr
    simp only [Option.some.injEq, Prod.mk.injEq] at hs
    obtain ⟨rfl, rfl⟩ := hs
    exact Res.same (by unfold execOp; simp only [hop, hxv]; rfl) hx H
  · rename_i fn fs cs hk
    rw [hk] at hx
    obtain ⟨vf, vc, hxv, _⟩ := hx.inv_func
    split at hs
    · simp only [Option.some.injEq, Prod.mk.injEq] at hs
      obtain ⟨rfl, rfl⟩ := hs
      exact Res.same (by unfold execOp; simp only [hop, hxv]; rfl) hx H
    · cases hs
  · cases hs
theorem snd_box {o : Oper} {t : TypeId} {X : Operand} (hop : o.op = .box t X) {x : Opd} (hx : RV Γ (e x) (a.eval X)) (H : WR w0 Γ h w) {v : AV} {h' : AH} (hs : istep (.box x) e h = some (v, h')) : Res P w0 Γ ((execOp a.eval o).run P w) v h' := by
  have he : execOp a.eval o = (do pure (Next.value (← Instr.box t (a.eval X))) : Sem Next) := by unfold execOp; simp only [hop]
  rw [he]; clear he
  generalize a.eval X = xv at hx
  simp only [istep] at hs
  split at hs
  · rename_i cs hsc
    simp only [Option.some.injEq, Prod.mk.injEq] at hs
    obtain ⟨rfl, rfl⟩ := hs
    have hcl := scells_sound hsc hx
    refine Res.valw rfl (s := Instr.box t xv) (x := .pointer (some ⟨w.heap.size, 0, none⟩)) (w' := w.alloc (.cells xv.cells t)) (by simp [Instr.box, newVar, newRow]) (H.le_obj _) (.ptr (by simp [Con.withObj])) (H.new _ _ (fun w' hw' => objAt_cells hw' (hcl.mono (H.le_obj _))))
  · cases hs
theorem snd_new {o : Oper} {t : TypeId} (hop : o.op = .alloc t) {z : List AV} (hz : zeroOf P t = some z) (H : WR w0 Γ h w) {v : AV} {h' : AH} (hs : istep (.new z) e h = some (v, h')) : Res P w0 Γ ((execOp a.eval o).run P w) v h' := by
  have he : execOp a.eval o = (do pure (Next.value (← Instr.alloc t true (.tuple #[]))) : Sem Next) := by unfold execOp; simp only [hop]
  rw [he]; clear he
  simp only [istep, Option.some.injEq, Prod.mk.injEq] at hs
  obtain ⟨rfl, rfl⟩ := hs
  obtain ⟨i, zv, hi, hzv, _, _, hc⟩ := zeroOf_inv hz
  refine Res.valw rfl (s := Instr.alloc t true (.tuple #[])) (x := .pointer (some ⟨w.heap.size, 0, none⟩)) (w' := w.alloc (.cells zv.cells t)) (by simp [Instr.alloc, zeroValue, typeInfo, hi, hzv, newVar, newRow]) (H.le_obj _) (.ptr (by simp [Con.withObj])) (H.new _ _ (fun w' hw' => objAt_cells hw' (hc _)))
theorem snd_newT {o : Oper} {t : TypeId} (hop : o.op = .alloc t) {z : List AV} (hz : zeroOf P t = some z) (hb : bldZ z = true) (H : WR w0 Γ h w) {v : AV} {h' : AH} (hs : istep (.newT t z) e h = some (v, h')) : Res P w0 Γ ((execOp a.eval o).run P w) v h' := by
  have he : execOp a.eval o = (do pure (Next.value (← Instr.alloc t true (.tuple #[]))) : Sem Next) := by unfold execOp; simp only [hop]
  rw [he]; clear he
  simp only [istep, Option.some.injEq, Prod.mk.injEq] at hs
  obtain ⟨rfl, rfl⟩ := hs
  obtain ⟨i, zv, hi, hzv, _, _, hc⟩ := zeroOf_inv hz
  obtain rfl := bldZ_out hb
  refine Res.valw rfl (s := Instr.alloc t true (.tuple #[])) (x := .pointer (some ⟨w.heap.size, 0, none⟩)) (w' := w.alloc (.cells zv.cells t)) (by simp [Instr.alloc, zeroValue, typeInfo, hi, hzv, newVar, newRow]) (H.le_obj _) (.ptr (by simp [Con.withObj])) (H.new _ _ (fun w' hw' => ?_))
  have hcc := hc Γ
  have hl : zv.cells.size = 2 := by simpa using hcc.len
  have h0 : RV Γ (.v (.pointer none)) (zv.cells[0]'(by omega)) := by
    have := hcc.at_ 0 (by simp) (by simp; omega)
    simpa using this
  have h1 : RV Γ (.list 1 [] .full) (zv.cells[1]'(by omega)) := by
    have := hcc.at_ 1 (by simp) (by simp; omega)
    simpa using this
  obtain ⟨base, hbase⟩ : ∃ base, zv.cells[1]'(by omega) = .slice base 0 0 := by
    rcases h1.inv_list with ⟨base, hb', _, _⟩ | ⟨b, o', c, us, hb', hc', _, _, _, _, hto⟩
    · exact ⟨base, hb'⟩
    · have hto' : (0 : Nat) = c := hto
      subst hto'
      exact ⟨_, hb'⟩
  have harr : zv.cells = #[.pointer none, .slice base 0 0] := by
    apply Array.ext
    · simpa using hl
    · intro k hk hk'
      have hk2 : k < 2 := by omega
      rcases (show k = 0 ∨ k = 1 by omega) with rfl | rfl
      · simpa using h0.inv_v
      · simpa using hbase
  rw [harr] at hw'
  exact ⟨_, _, _, hw', by simp [free], by simp [free], .inl rfl, .inl ⟨rfl, rfl, rfl, base, rfl⟩⟩
theorem snd_bin {o : Oper} {op : BinOp} {t u : TypeId} {X Y : Operand} (hop : o.op = .binOp op t X Y u) {k : EqK} (hk : eqOf P t X Y = some k) {x y : Opd} (hx : RV Γ (e x) (a.eval X)) (hy : RV Γ (e y) (a.eval Y)) (H : WR w0 Γ h w) {v : AV} {h' : AH}
    (hs : istep (.bin op k x y) e h = some (v, h')) : Res P w0 Γ ((execOp a.eval o).run P w) v h' := by
  simp only [istep, Option.map_eq_some_iff, Prod.mk.injEq] at hs
  obtain ⟨c, hc, rfl, rfl⟩ := hs
  obtain ⟨z, hz, hzv⟩ := run_abin (w := w) hk hx hy (fun v hv => by subst hv; rfl) hc
  exact Res.val (by unfold execOp; simp only [hop]) hz hzv H
theorem snd_un {o : Oper} {op : UnOp} {t : TypeId} {X : Operand} (hop : o.op = .unOp op t X) {x : Opd} (hx : RV Γ (e x) (a.eval X)) (H : WR w0 Γ h w) {v : AV} {h' : AH} (hs : istep (.un op x) e h = some (v, h')) : Res P w0 Γ ((execOp a.eval o).run P w) v h' := by
  simp only [istep, Option.map_eq_some_iff, Prod.mk.injEq] at hs
  obtain ⟨c, hc, rfl, rfl⟩ := hs
  obtain ⟨z, hz, hzv⟩ := run_aun (P := P) (w := w) hx hc
  exact Res.val (by unfold execOp; simp only [hop]) hz hzv H
theorem snd_convI {o : Oper} {s d : TypeId} {X : Operand} (hop : o.op = .convert s d X) {ks k : IntKind} (hss : P.underlying s = some (.int ks)) (hd : P.underlying d = some (.int k)) {x : Opd} (hx : RV Γ (e x) (a.eval X)) (H : WR w0 Γ h w) {v : AV} {h' : AH}
    (hs : istep (.convI k x) e h = some (v, h')) : Res P w0 Γ ((execOp a.eval o).run P w) v h' := by
  simp only [istep] at hs
  split at hs
  · rename_i n hk
    rw [hk] at hx
    simp only [Option.some.injEq, Prod.mk.injEq] at hs
    obtain ⟨rfl, rfl⟩ := hs
    refine Res.val (s := convert s d (a.eval X)) (by unfold execOp; simp only [hop]) ?_ (.v _) H
    rw [hx.inv_v]
    simp [convert, run_underlying hss, run_underlying hd, Conv.intToInt]
  · cases hs
theorem snd_convS {o : Oper} {s d : TypeId} {X : Operand} (hop : o.op = .convert s d X) (hss : P.underlying s = some .string) (hd : P.underlying d = some .string) {x : Opd} (hx : RV Γ (e x) (a.eval X)) (H : WR w0 Γ h w) {v : AV} {h' : AH}
    (hs : istep (.convS x) e h = some (v, h')) : Res P w0 Γ ((execOp a.eval o).run P w) v h' := by
  simp only [istep] at hs
  split at hs
  · rename_i n hk
    rw [hk] at hx
    simp only [Option.some.injEq, Prod.mk.injEq] at hs
    obtain ⟨rfl, rfl⟩ := hs
    refine Res.val (s := convert s d (a.eval X)) (by unfold execOp; simp only [hop]) ?_ (.v _) H
    rw [hx.inv_v]
    simp [convert, run_underlying hss, run_underlying hd]
  · cases hs
theorem snd_s2b {o : Oper} {s d el : TypeId} {X : Operand} (hop : o.op = .convert s d X) (hss : P.underlying s = some .string) (hd : P.underlying d = some (.slice el)) (hel : isU8 P el = true) {x : Opd} (hx : RV Γ (e x) (a.eval X)) (H : WR w0 Γ h w) {row : Bool} {v : AV} {h' : AH}
    (hs : istep (.s2b row x) e h = some (v, h')) : Res P w0 Γ ((execOp a.eval o).run P w) v h' := by
  have hu : P.underlying el = some (.int .u8) := by
    unfold isU8 at hel
    split at hel
    · assumption
    · cases hel
  simp only [istep] at hs
  split at hs
  · rename_i n hk
    rw [hk] at hx
    obtain ⟨z, w', hrun, ⟨Γ1, hl1, hv1, HW1⟩, Γ2, hl2, hv2, HW2⟩ := run_s2b (P := P) hss hd hu H n
    have hr : (execOp a.eval o).run P w = (do pure (Next.value (← convert s d (.string n))) : Sem Next).run P w := by
      unfold execOp; simp only [hop, hx.inv_v]
    cases row
    · simp only [Bool.false_eq_true, if_false, Option.some.injEq, Prod.mk.injEq] at hs
      obtain ⟨rfl, rfl⟩ := hs
      exact Res.valw hr hrun hl2 hv2 HW2
    · simp only [if_true, Option.some.injEq, Prod.mk.injEq] at hs
      obtain ⟨rfl, rfl⟩ := hs
      exact Res.valw hr hrun hl1 hv1 HW1
  · cases hs
theorem srcRows_slice {sz : Nat} {A : AV} {rows : List (List AV)} (hr : srcRows sz h A = some rows) {x : Value} (hx : RV Γ A x) (hn : ∀ s, x ≠ .string s) : ∃ b n c, x = .slice b n c := by
  unfold srcRows at hr
  split at hr
  · rcases hx.inv_list with ⟨base, rfl, _⟩ | ⟨b, o, c, us, rfl, _⟩
    · exact ⟨_, _, _, rfl⟩
    · exact ⟨_, _, _, rfl⟩
  · exact absurd hx.inv_v (hn _)
  · obtain ⟨b, c, _, rfl, _⟩ := hx.inv_row
    exact ⟨_, _, _, rfl⟩
  · cases hr
theorem snd_b2s {o : Oper} {s d el : TypeId} {X : Operand} (hop : o.op = .convert s d X) (hss : P.underlying s = some (.slice el)) (hd : P.underlying d = some .string) (hel : isU8 P el = true) {x : Opd} (hx : RV Γ (e x) (a.eval X)) (H : WR w0 Γ h w) {v : AV} {h' : AH}
    (hs : istep (.b2s x) e h = some (v, h')) : Res P w0 Γ ((execOp a.eval o).run P w) v h' := by
  have hu : P.underlying el = some (.int .u8) := by
    unfold isU8 at hel
    split at hel
    · assumption
    · cases hel
  have hr : (execOp a.eval o).run P w = (do pure (Next.value (← convert s d (a.eval X))) : Sem Next).run P w := by unfold execOp; simp only [hop]
  simp only [istep] at hs
  split at hs
  · rename_i rows hrows
    split at hs
    · rename_i l hl
      simp only [Option.some.injEq, Prod.mk.injEq] at hs
      obtain ⟨rfl, rfl⟩ := hs
      by_cases hstr : ∃ q, a.eval X = .string q
      · -- a string's bytes, told as bytes: no such conversion is compiled, but it is the same string
        obtain ⟨q, hq⟩ := hstr
        rw [hq] at hx
        have hAv : ∃ y, e x = .v y := by
          unfold srcRows at hrows
          split at hrows
          · rename_i hk; rw [hk] at hx; rcases hx.inv_list with ⟨_, hh, _⟩ | ⟨_, _, _, _, hh, _⟩ <;> cases hh
          · exact ⟨_, by assumption⟩
          · rename_i hk; rw [hk] at hx; obtain ⟨_, _, _, hh, _⟩ := hx.inv_row; cases hh
          · cases hrows
        obtain ⟨y, hy⟩ := hAv
        rw [hy] at hx hrows
        have hyq := hx.inv_v
        subst hyq
        simp only [srcRows] at hrows
        simp only [if_true, Option.some.injEq] at hrows
        subst hrows
        refine Res.val (s := convert s d (a.eval X)) hr (x := .string q) ?_ ?_ H
        · rw [hq]; simp [convert, run_underlying hss, run_underlying hd]
        · rw [byteRows_flat] at hl
          have : ∀ (l : List UInt8), bytesOfCells (l.map fun b => .v (.int .u8 b.toNat)) = some l := by
            intro l
            induction l with
            | nil => rfl
            | cons b l ih => simp [bytesOfCells, ih]
          rw [this] at hl
          injection hl with hl
          subst hl
          have e2 : (⟨q.data.toList.toArray⟩ : ByteArray) = q := by apply ByteArray.ext; simp
          rw [e2]; exact .v _
      · exact Res.val hr (run_b2s (P := P) hss hu hd H hx hrows (srcRows_slice hrows hx (fun s hs => hstr ⟨s, hs⟩)) hl) (.v _) H
    · cases hs
  · cases hs
theorem snd_mki {o : Oper} {t : TypeId} {X : Operand} (hop : o.op = .makeInterface t X) {d : TypeDesc} (ht : P.underlying t = some d) (hd : ∀ ms, d ≠ .interface ms) {x : Opd} (hx : RV Γ (e x) (a.eval X)) (H : WR w0 Γ h w) {v : AV} {h' : AH} (hs : istep (.mki t x) e h = some (v, h')) :
    Res P w0 Γ ((execOp a.eval o).run P w) v h' := by
  simp only [istep] at hs
  split at hs
  · simp only [Option.some.injEq, Prod.mk.injEq] at hs
    obtain ⟨rfl, rfl⟩ := hs
    refine Res.val (s := Instr.makeInterface t (a.eval X)) (x := .iface t (a.eval X)) (by unfold execOp; simp only [hop]) ?_ (.iface hx) H
    unfold Instr.makeInterface
    rw [Sem.run_bind, run_underlying ht]
    cases d <;> first | rfl | exact absurd rfl (hd _)
  · cases hs
end
end Go.Abs
