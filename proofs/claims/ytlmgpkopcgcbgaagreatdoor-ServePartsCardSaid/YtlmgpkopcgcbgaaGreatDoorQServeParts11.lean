/- What the proof needs, part 11: A program logic over abstract states, 21: the moves of a run; A program logic over abstract states, 24: lists that may be appended to; what else stays; A program logic over abstract states, 25: the tactics of a run, carried by default arguments; printed by a program of mine; A program logic over abstract states, 26: further moves of a run: bytes, parts of lists; Objects that are not written any more: their cells are cells that never turn; A program logic over abstract states, 27: what a call has laid and nobody can reach is forgotten; A program logic over abstract states, 31: several lists that may be appended to; what a call leaves as it was; A program logic over abstract states, 28: what is known may be forgotten; Lists of bytes that are appended to; A program logic over abstract states, 30: what holds of more; a cut between two parts of a code; A program logic over abstract states, 22: from the logic to a call of the model. -/
import Derived.Test.YtlmgpkopcgcbgaaGreatDoorQServeParts9
import Derived.Laws.BitsLemmas
/- A program logic over abstract states, 21: the moves of a run. -/
namespace Go.Abs
open Go Go.RowKit
set_option linter.unusedVariables false
set_option linter.unusedSimpArgs false

theorem beqT (t : Bool) : (t == true) = t := by cases t <;> rfl
theorem beqF (t : Bool) : (t == false) = !t := by cases t <;> rfl

section
variable {P : Program} {w0 : World} {n : Nat} {σ : Fm} {h : AH}
theorem vcF.skip {Q : AExit → Fm → AH → Prop} (k : Q .normal σ h) : vcF P w0 n .skip Q σ h := k
theorem vcF.region {ops : List IOper} {Q : AExit → Fm → AH → Prop} (k : opsF P w0 ops (Q .normal) σ h) : vcF P w0 n (.region ops) Q σ h := k
theorem vcF.dregion {ops : List (IOper × List IOper)} {Q : AExit → Fm → AH → Prop} (k : dopsF P w0 ops (Q .normal) σ h) : vcF P w0 n (.dregion ops) Q σ h := k
theorem vcF.dalts {ls : List (List (IOper × List IOper))} {Q : AExit → Fm → AH → Prop} (k : dallF P w0 ls (Q .normal) σ h) : vcF P w0 n (.dalts ls) Q σ h := k
theorem dallF.nil {Q : Fm → AH → Prop} : dallF P w0 [] Q σ h := trivial
theorem dallF.cons {l : List (IOper × List IOper)} {ls : List (List (IOper × List IOper))} {Q : Fm → AH → Prop} (k : dopsF P w0 l Q σ h) (r : dallF P w0 ls Q σ h) : dallF P w0 (l :: ls) Q σ h := ⟨k, r⟩
theorem vcF.seq {a b : IC} {Q : AExit → Fm → AH → Prop} (k : vcF P w0 n a (seqF (vcF P w0 n b Q) Q) σ h) : vcF P w0 n (.seq a b) Q σ h := k
theorem vcF.block {id : Nat} {b : IC} {Q : AExit → Fm → AH → Prop} (k : vcF P w0 n b (blkF id Q) σ h) : vcF P w0 n (.block id b) Q σ h := k
theorem vcF.exit {id : Nat} {Q : AExit → Fm → AH → Prop} (k : Q (.exit id) σ h) : vcF P w0 n (.exit id) Q σ h := k
theorem vcF.ret {Q : AExit → Fm → AH → Prop} (k : Q .ret σ h) : vcF P w0 n .ret Q σ h := k
theorem vcF.loop {b : IC} {Q : AExit → Fm → AH → Prop} (k : LpF P w0 n b Q σ h) : vcF P w0 n (.loop b) Q σ h := k
theorem vcF.cond {x : Opd} {a b : IC} {Q : AExit → Fm → AH → Prop} {t : Bool} (hx : evF σ x = .v (.bool t)) (k1 : t = true → vcF P w0 n a Q σ h) (k2 : t = false → vcF P w0 n b Q σ h) : vcF P w0 n (.cond x a b) Q σ h := by
  simp only [vcF, hx]
  cases t with
  | true => simp only [if_true]; exact k1 rfl
  | false => simp only [Bool.false_eq_true, if_false]; exact k2 rfl
theorem seqF.nn {K : Fm → AH → Prop} {Q : AExit → Fm → AH → Prop} (k : K σ h) : seqF K Q .normal σ h := k
theorem seqF.e {K : Fm → AH → Prop} {Q : AExit → Fm → AH → Prop} {i : Nat} (k : Q (.exit i) σ h) : seqF K Q (.exit i) σ h := k
theorem seqF.r {K : Fm → AH → Prop} {Q : AExit → Fm → AH → Prop} (k : Q .ret σ h) : seqF K Q .ret σ h := k
theorem blkF.nn {id : Nat} {Q : AExit → Fm → AH → Prop} (k : Q .normal σ h) : blkF id Q .normal σ h := k
theorem blkF.e {id : Nat} {Q : AExit → Fm → AH → Prop} (k : Q .normal σ h) : blkF id Q (.exit id) σ h := by
  simp only [blkF, if_true]; exact k
theorem blkF.o {id i : Nat} {Q : AExit → Fm → AH → Prop} (hne : (i == id) = false) (k : Q (.exit i) σ h) : blkF id Q (.exit i) σ h := by
  have : i ≠ id := by simpa using hne
  simp only [blkF, if_neg this]; exact k
theorem blkF.r {id : Nat} {Q : AExit → Fm → AH → Prop} (k : Q .ret σ h) : blkF id Q .ret σ h := k
theorem retF.r {rs : List ARes} {Q : AV → AH → Prop} {v : AV} (hv : aresF σ h rs = some v) (k : Q v h) : retF rs Q .ret σ h := by
  simp only [retF, hv]; exact k
theorem retF.nn {rs : List ARes} {Q : AV → AH → Prop} {v : AV} (hv : aresF σ h rs = some v) (k : Q v h) : retF rs Q .normal σ h := by
  simp only [retF, hv]; exact k

theorem opsF.nil {Q : Fm → AH → Prop} (k : Q σ h) : opsF P w0 [] Q σ h := k
/-- An operation that is no call. -/
def IOp.noCall (o : IOp) : Bool := !o.isCall
theorem opF_of {o : IOp} (hn : o.noCall = true) {v : AV} {h' : AH} (hs : istep o (evF σ) h = some (v, h')) {K : AV → AH → Prop} (k : K v h') : opF P w0 o σ h K := by
  cases o <;> first | (simp only [opF, hs]; exact k) | (simp [IOp.noCall, IOp.isCall] at hn; done) | (simp only [opF]; split; (next hx => simp [istep, hx] at hs); (next => rw [hs]; exact k))
theorem opsF.op {d : Option Nat} {o : IOp} {os : List IOper} {Q : Fm → AH → Prop} (hn : o.noCall = true) {v : AV} {h' : AH} (hs : istep o (evF σ) h = some (v, h')) (k : opsF P w0 os Q (up σ d v) h') : opsF P w0 (⟨d, o, none⟩ :: os) Q σ h := by
  simp only [opsF, wantF, if_true]
  exact opF_of hn hs k
theorem opsF.skip {d : Option Nat} {o : IOp} {g : Nat} {b : Bool} {os : List IOper} {Q : Fm → AH → Prop} {t : Bool} (hg : σ g = .v (.bool t)) (hb : t = !b) (k : opsF P w0 os Q (up σ d (.v undef)) h) : opsF P w0 (⟨d, o, some (g, b)⟩ :: os) Q σ h := by
  subst hb
  simp only [opsF, wantF, hg]
  cases b <;> simp only [Bool.not_true, Bool.not_false, Bool.false_beq, Bool.true_beq, Bool.not_true, Bool.not_false, Bool.false_eq_true, if_false] <;> exact k
theorem opsF.want {d : Option Nat} {o : IOp} {g : Nat} {b : Bool} {os : List IOper} {Q : Fm → AH → Prop} {t : Bool} (hg : σ g = .v (.bool t)) (hb : t = b) (k : opsF P w0 (⟨d, o, none⟩ :: os) Q σ h) : opsF P w0 (⟨d, o, some (g, b)⟩ :: os) Q σ h := by
  subst hb
  simp only [opsF, wantF, hg, beq_self_eq_true, if_true] at k ⊢
  exact k
theorem opsF.und {d : Option Nat} {o : IOp} {g : Nat} {b : Bool} {os : List IOper} {Q : Fm → AH → Prop} (hg : σ g = .v undef) (k : opsF P w0 os Q (up σ d (.v undef)) h) : opsF P w0 (⟨d, o, some (g, b)⟩ :: os) Q σ h := by
  simp only [opsF, wantF, hg, undef, Bool.false_eq_true, if_false]
  exact k
/-- A guard that is not known. -/
theorem opsF.case {d : Option Nat} {o : IOp} {g : Nat} {b : Bool} {os : List IOper} {Q : Fm → AH → Prop} {t : Bool} (hg : σ g = .v (.bool t)) (k1 : t = b → opsF P w0 (⟨d, o, none⟩ :: os) Q σ h) (k2 : t = !b → opsF P w0 os Q (up σ d (.v undef)) h) : opsF P w0 (⟨d, o, some (g, b)⟩ :: os) Q σ h := by
  by_cases hb : t = b
  · exact opsF.want hg hb (k1 hb)
  · exact opsF.skip hg (by cases t <;> cases b <;> simp_all) (k2 (by cases t <;> cases b <;> simp_all))
theorem opsF.call {d : Option Nat} {f : FuncId} {xs : List Opd} {os : List IOper} {Q : Fm → AH → Prop} {vs : List AV} (hx : xs.map (evF σ) = vs) (k : Call P w0 f vs h fun v h' => opsF P w0 os Q (up σ d v) h') : opsF P w0 (⟨d, .call f xs, none⟩ :: os) Q σ h := by
  simp only [opsF, wantF, if_true, opF, hx]; exact k
theorem opsF.callv {d : Option Nat} {x : Opd} {f : FuncId} {xs : List Opd} {os : List IOper} {Q : Fm → AH → Prop} {vs first caps : List AV} (hf : evF σ x = .func (.func f) first caps) (hx : first ++ xs.map (evF σ) ++ caps = vs) (k : Call P w0 f vs h fun v h' => opsF P w0 os Q (up σ d v) h') : opsF P w0 (⟨d, .callv x xs, none⟩ :: os) Q σ h := by
  simp only [opsF, wantF, if_true, opF, hf, hx]; exact k
theorem opsF.yield {d : Option Nat} {x : Opd} {l : Nat} {xs : List Opd} {os : List IOper} {Q : Fm → AH → Prop} {vs : List AV} (hf : evF σ x = .func (.yield l) [] []) (hx : xs.map (evF σ) = vs) (k : Yld P w0 l vs h fun v h' => opsF P w0 os Q (up σ d v) h') : opsF P w0 (⟨d, .callv x xs, none⟩ :: os) Q σ h := by
  simp only [opsF, wantF, if_true, opF, hf, hx]; exact k

theorem dopsF.nil {Q : Fm → AH → Prop} (k : Q σ h) : dopsF P w0 [] Q σ h := k
theorem stabsF.nil : stabsF [] σ h := trivial
theorem stabsF.cons {o : IOper} {cs : List IOper} (k : stabF o σ h) (k' : stabsF cs σ h) : stabsF (o :: cs) σ h := ⟨k, k'⟩
theorem stabF.skip {d : Option Nat} {o : IOp} {g : Nat} {b t : Bool} (hg : σ g = .v (.bool t)) (hb : t = !b) : stabF ⟨d, o, some (g, b)⟩ σ h := by
  subst hb
  cases b <;> simp [stabF, wantF, hg]
theorem stabF.und {d : Option Nat} {o : IOp} {g : Nat} {b : Bool} (hg : σ g = .v undef) : stabF ⟨d, o, some (g, b)⟩ σ h := by
  simp only [stabF, wantF, hg, undef, Bool.false_eq_true, if_false]
theorem stabF.want {d : Option Nat} {o : IOp} {g : Nat} {b t : Bool} (hg : σ g = .v (.bool t)) (hb : t = b) (k : stabF ⟨d, o, none⟩ σ h) : stabF ⟨d, o, some (g, b)⟩ σ h := by
  subst hb
  simp only [stabF, wantF, hg, beq_self_eq_true, if_true] at k ⊢
  exact k
theorem stabF.op {d : Nat} {o : IOp} {v : AV} {h' : AH} (hs : istep o (evF σ) h = some (v, h')) (hv : σ d = v) : stabF ⟨some d, o, none⟩ σ h := by
  simp only [stabF, wantF, if_true, hs, hv]
theorem dopsF.op {d : Option Nat} {o : IOp} {cs : List IOper} {os : List (IOper × List IOper)} {Q : Fm → AH → Prop} (hn : o.noCall = true) {v : AV} {h' : AH} (hs : istep o (evF σ) h = some (v, h')) (kc : stabsF cs (up σ d v) h') (k : dopsF P w0 os Q (up σ d v) h') : dopsF P w0 ((⟨d, o, none⟩, cs) :: os) Q σ h := by
  simp only [dopsF, wantF, if_true]
  exact opF_of hn hs ⟨kc, k⟩
theorem dopsF.skip {d : Option Nat} {o : IOp} {g : Nat} {b : Bool} {cs : List IOper} {os : List (IOper × List IOper)} {Q : Fm → AH → Prop} {t : Bool} (hg : σ g = .v (.bool t)) (hb : t = !b) (k : dopsF P w0 os Q (up σ d (.v undef)) h) : dopsF P w0 ((⟨d, o, some (g, b)⟩, cs) :: os) Q σ h := by
  subst hb
  simp only [dopsF, wantF, hg]
  cases b <;> simp only [Bool.not_true, Bool.not_false, Bool.false_beq, Bool.true_beq, Bool.not_true, Bool.not_false, Bool.false_eq_true, if_false] <;> exact k
theorem dopsF.want {d : Option Nat} {o : IOp} {g : Nat} {b : Bool} {cs : List IOper} {os : List (IOper × List IOper)} {Q : Fm → AH → Prop} {t : Bool} (hg : σ g = .v (.bool t)) (hb : t = b) (k : dopsF P w0 ((⟨d, o, none⟩, cs) :: os) Q σ h) : dopsF P w0 ((⟨d, o, some (g, b)⟩, cs) :: os) Q σ h := by
  subst hb
  simp only [dopsF, wantF, hg, beq_self_eq_true, if_true] at k ⊢
  exact k
theorem dopsF.und {d : Option Nat} {o : IOp} {g : Nat} {b : Bool} {cs : List IOper} {os : List (IOper × List IOper)} {Q : Fm → AH → Prop} (hg : σ g = .v undef) (k : dopsF P w0 os Q (up σ d (.v undef)) h) : dopsF P w0 ((⟨d, o, some (g, b)⟩, cs) :: os) Q σ h := by
  simp only [dopsF, wantF, hg, undef, Bool.false_eq_true, if_false]
  exact k
theorem dopsF.case {d : Option Nat} {o : IOp} {g : Nat} {b : Bool} {cs : List IOper} {os : List (IOper × List IOper)} {Q : Fm → AH → Prop} {t : Bool} (hg : σ g = .v (.bool t)) (k1 : t = b → dopsF P w0 ((⟨d, o, none⟩, cs) :: os) Q σ h) (k2 : t = !b → dopsF P w0 os Q (up σ d (.v undef)) h) : dopsF P w0 ((⟨d, o, some (g, b)⟩, cs) :: os) Q σ h := by
  by_cases hb : t = b
  · exact dopsF.want hg hb (k1 hb)
  · exact dopsF.skip hg (by cases t <;> cases b <;> simp_all) (k2 (by cases t <;> cases b <;> simp_all))
theorem dopsF.call {d : Option Nat} {f : FuncId} {xs : List Opd} {cs : List IOper} {os : List (IOper × List IOper)} {Q : Fm → AH → Prop} {vs : List AV} (hx : xs.map (evF σ) = vs) (k : Call P w0 f vs h fun v h' => stabsF cs (up σ d v) h' ∧ dopsF P w0 os Q (up σ d v) h') : dopsF P w0 ((⟨d, .call f xs, none⟩, cs) :: os) Q σ h := by
  simp only [dopsF, wantF, if_true, opF, hx]; exact k
theorem dopsF.callv {d : Option Nat} {x : Opd} {f : FuncId} {xs : List Opd} {cs : List IOper} {os : List (IOper × List IOper)} {Q : Fm → AH → Prop} {vs first caps : List AV} (hf : evF σ x = .func (.func f) first caps) (hx : first ++ xs.map (evF σ) ++ caps = vs) (k : Call P w0 f vs h fun v h' => stabsF cs (up σ d v) h' ∧ dopsF P w0 os Q (up σ d v) h') : dopsF P w0 ((⟨d, .callv x xs, none⟩, cs) :: os) Q σ h := by
  simp only [dopsF, wantF, if_true, opF, hf, hx]; exact k
end

/-! bytes -/
theorem bs_size (l : List UInt8) : (bs l).size = l.length := rfl
theorem bs_data (l : List UInt8) (i : Nat) : (bs l).data[i]? = l[i]? := by simp [bs]
theorem bs_toList (l : List UInt8) : (bs l).toList = l := by
  have key : ∀ (l : List UInt8), ByteArray.toList ⟨l.toArray⟩ = l := by
    intro l
    have loop : ∀ (k i : Nat) (r : List UInt8), k = l.length - i → ByteArray.toList.loop ⟨l.toArray⟩ i r = r.reverse ++ l.drop i := by
      intro k
      induction k with
      | zero =>
        intro i r hk
        unfold ByteArray.toList.loop
        have : ¬ i < (⟨l.toArray⟩ : ByteArray).size := by show ¬ i < l.length; omega
        rw [if_neg this, List.drop_eq_nil_of_le (by omega), List.append_nil]
      | succ k ih =>
        intro i r hk
        unfold ByteArray.toList.loop
        have hlt : i < l.length := by omega
        have : i < (⟨l.toArray⟩ : ByteArray).size := hlt
        rw [if_pos this, ih (i + 1) _ (by omega)]
        have hg : (⟨l.toArray⟩ : ByteArray).get! i = l[i] := by
          simp [ByteArray.get!, hlt]
        rw [hg, List.reverse_cons, List.append_assoc, List.singleton_append, List.drop_eq_getElem_cons hlt]
    have := loop l.length 0 [] (by simp)
    simpa [ByteArray.toList] using this
  exact key l
theorem bs_ext {a b : ByteArray} (h : a.data.toList = b.data.toList) : a = b := by
  cases a; cases b; simp only at h; rw [Array.toList_inj.1 h]
theorem bs_append (a b : List UInt8) : bs a ++ bs b = bs (a ++ b) := bs_ext (by simp [bs])
theorem bs_extract (l : List UInt8) (a b : Nat) : (bs l).extract a b = bs ((l.take b).drop a) := bs_ext (by
  simp [bs, ByteArray.data_extract, Array.toList_extract, List.drop_take])
theorem bs_of (a : ByteArray) : bs a.data.toList = a := bs_ext (by simp [bs])
theorem byteRows_bs (l : List UInt8) : byteRows (bs l) = l.map fun b => [.v (.int .u8 b.toNat)] := by simp [byteRows, bs]

/-! one operation at a time -/
theorem alloc_at (h : AH) (o : AObj) (i : Nat) : (h.alloc o).objs i = if i = h.n then some o else h.objs i := rfl
theorem set_at (h : AH) (j : Nat) (o : AObj) (i : Nat) : (h.set j o).objs i = if i = j then some o else h.objs i := rfl
theorem alloc_n (h : AH) (o : AObj) : (h.alloc o).n = h.n + 1 := rfl
theorem set_n (h : AH) (j : Nat) (o : AObj) : (h.set j o).n = h.n := rfl
theorem newTok_at (h : AH) (i : Nat) : h.newTok.objs i = h.objs i := rfl
theorem bump_at (h : AH) (t i : Nat) : (h.bump t).objs i = h.objs i := rfl
theorem newTok_n (h : AH) : h.newTok.n = h.n := rfl
theorem bump_n (h : AH) (t : Nat) : (h.bump t).n = h.n := rfl
theorem alloc_nt (h : AH) (o : AObj) : (h.alloc o).nt = h.nt := rfl
theorem set_nt (h : AH) (j : Nat) (o : AObj) : (h.set j o).nt = h.nt := rfl
theorem bump_nt (h : AH) (t : Nat) : (h.bump t).nt = h.nt := rfl
theorem newTok_nt (h : AH) : h.newTok.nt = h.nt + 1 := rfl
theorem alloc_ver (h : AH) (o : AObj) (t : Nat) : (h.alloc o).ver t = h.ver t := rfl
theorem set_ver (h : AH) (j : Nat) (o : AObj) (t : Nat) : (h.set j o).ver t = h.ver t := rfl
theorem newTok_ver (h : AH) (t : Nat) : h.newTok.ver t = if t = h.nt then 0 else h.ver t := rfl
theorem bump_ver (h : AH) (s t : Nat) : (h.bump s).ver t = if t = s then h.ver s + 1 else h.ver t := rfl

section
variable {σ : Fm} {h : AH}
theorem is_mv {x : Opd} {a : AV} (hx : evF σ x = a) : istep (.mv x) (evF σ) h = some (a, h) := by simp only [istep, hx]
theorem is_pick {c x y : Opd} {t : Bool} {a b v : AV} (hc : evF σ c = .v (.bool t)) (hx : evF σ x = a) (hy : evF σ y = b) (hv : (if t = true then a else b) = v) : istep (.pick c x y) (evF σ) h = some (v, h) := by
  simp only [istep, hc, hx, hy, hv]
theorem is_pickt {c x y : Opd} {t : Bool} {v : AV} (hc : evF σ c = .v (.bool t)) (hb : t = true) (hx : evF σ x = v) : istep (.pick c x y) (evF σ) h = some (v, h) := by
  subst hb
  simp only [istep, hc, hx, if_true]
theorem is_pickf {c x y : Opd} {t : Bool} {v : AV} (hc : evF σ c = .v (.bool t)) (hb : t = false) (hx : evF σ y = v) : istep (.pick c x y) (evF σ) h = some (v, h) := by
  subst hb
  simp only [istep, hc, hx, Bool.false_eq_true, if_false]
theorem is_box {x : Opd} {a : AV} {cs : List AV} (hx : evF σ x = a) (hv : scells a = some cs) : istep (.box x) (evF σ) h = some (.ptr h.n 0, h.alloc (.cells cs)) := by simp only [istep, hx, hv]
theorem is_new {z : List AV} : istep (.new z) (evF σ) h = some (.ptr h.n 0, h.alloc (.cells z)) := rfl
theorem is_newT {t : TypeId} {z : List AV} : istep (.newT t z) (evF σ) h = some (.ptr h.n 0, h.alloc (.bld t none 0 0)) := rfl
theorem is_load {x : Opd} {id off : Nat} {sz : Option Nat} {cs : List AV} {v : AV} (hx : evF σ x = .ptr id off) (ho : h.objs id = some (.cells cs)) (hv : rd cs off sz = some v) : istep (.load x sz) (evF σ) h = some (v, h) := by
  simp only [istep, hx, ho, hv, Option.map_some]
theorem is_loadl {x : Opd} {off : Nat} {sz : Option Nat} {cs : List AV} {v : AV} (hx : evF σ x = .lptr cs off) (hv : rd cs off sz = some v) : istep (.load x sz) (evF σ) h = some (v, h) := by
  simp only [istep, hx, hv, Option.map_some]
theorem is_store {x y : Opd} {id off sz : Nat} {b : AV} {as cs cs' : List AV} (hx : evF σ x = .ptr id off) (hy : evF σ y = b) (hv : scells b = some as) (ho : h.objs id = some (.cells cs)) (hb : as.length = sz ∧ off + sz ≤ cs.length) (hw : wrL cs off as = cs') : istep (.store x y sz) (evF σ) h = some (.v undef, h.set id (.cells cs')) := by
  simp only [istep, hx, hy, hv, ho, if_pos hb, hw]
theorem is_nilp {x : Opd} {id off : Nat} (hx : evF σ x = .ptr id off) : istep (.nilc x) (evF σ) h = some (.ptr id off, h) := by simp only [istep, hx]
theorem is_nill {x : Opd} {cs : List AV} {off : Nat} (hx : evF σ x = .lptr cs off) : istep (.nilc x) (evF σ) h = some (.lptr cs off, h) := by simp only [istep, hx]
theorem is_bin {op : BinOp} {k : EqK} {x y : Opd} {a b v : AV} (hx : evF σ x = a) (hy : evF σ y = b) (hv : abin op k a b = some v) : istep (.bin op k x y) (evF σ) h = some (v, h) := by simp only [istep, hx, hy, hv, Option.map_some]
theorem is_un {op : UnOp} {x : Opd} {a v : AV} (hx : evF σ x = a) (hv : aun op a = some v) : istep (.un op x) (evF σ) h = some (v, h) := by simp only [istep, hx, hv, Option.map_some]
theorem is_convI {k k' : IntKind} {x : Opd} {n m : Int} (hx : evF σ x = .v (.int k' n)) (hv : k.wrap n = m) : istep (.convI k x) (evF σ) h = some (.v (.int k m), h) := by simp only [istep, hx, hv]
theorem is_convS {x : Opd} {s : ByteArray} (hx : evF σ x = .v (.string s)) : istep (.convS x) (evF σ) h = some (.v (.string s), h) := by simp only [istep, hx]
theorem is_s2b {x : Opd} {s : ByteArray} {rows : List (List AV)} (hx : evF σ x = .v (.string s)) (hv : byteRows s = rows) : istep (.s2b false x) (evF σ) h = some (.list 1 rows .no, h) := by simp only [istep, hx, hv, Bool.false_eq_true, if_false]
theorem is_fadp {x : Opd} {id o off o' : Nat} (hx : evF σ x = .ptr id o) (hv : o + off = o') : istep (.fad x off) (evF σ) h = some (.ptr id o', h) := by simp only [istep, hx, hv]
theorem is_fadl {x : Opd} {cs : List AV} {o off o' : Nat} (hx : evF σ x = .lptr cs o) (hv : o + off = o') : istep (.fad x off) (evF σ) h = some (.lptr cs o', h) := by simp only [istep, hx, hv]
theorem is_fld {x : Opd} {off : Nat} {sz : Option Nat} {cs : List AV} {v : AV} (hx : evF σ x = .agg cs) (hv : rd cs off sz = some v) : istep (.fld x off sz) (evF σ) h = some (v, h) := by simp only [istep, hx, hv, Option.map_some]
theorem is_iaL {sz : Nat} {x i : Opd} {rows : List (List AV)} {tok : Tok} {k : IntKind} {n : Int} {r : List AV} (hx : evF σ x = .list sz rows tok) (hy : evF σ i = .v (.int k n)) (hb : 0 ≤ n) (hv : rows[n.toNat]? = some r) : istep (.iaL sz x i) (evF σ) h = some (.lptr r 0, h) := by
  simp only [istep, hx, hy, if_true, if_pos hb, hv]
theorem is_iaLr {sz : Nat} {x i : Opd} {id off len : Nat} {cap : Option Nat} {k : IntKind} {n : Int} {o' : Nat} (hx : evF σ x = .row id off len cap) (hy : evF σ i = .v (.int k n)) (hb : 0 ≤ n ∧ n < len) (hv : off + n.toNat * sz = o') : istep (.iaL sz x i) (evF σ) h = some (.ptr id o', h) := by
  simp only [istep, hx, hy, if_pos hb, hv]
theorem is_lenL {x : Opd} {sz : Nat} {rows : List (List AV)} {tok : Tok} {n : Nat} (hx : evF σ x = .list sz rows tok) (hv : rows.length = n) : istep (.len .sl x) (evF σ) h = some (.v (.int .i64 n), h) := by simp only [istep, hx, hv]
theorem is_lenR {x : Opd} {id off n : Nat} {cap : Option Nat} (hx : evF σ x = .row id off n cap) : istep (.len .sl x) (evF σ) h = some (.v (.int .i64 n), h) := by simp only [istep, hx]
theorem is_ext {x : Opd} {i : Nat} {vs : List AV} {v : AV} (hx : evF σ x = .tup vs) (hv : vs[i]? = some v) : istep (.ext x i) (evF σ) h = some (v, h) := by simp only [istep, hx, hv, Option.map_some]
theorem is_app {sz eb : Nat} {x y : Opd} {rows new rows' : List (List AV)} {r : List AV} {tok tok' : Tok} {b : AV} {h' : AH} (hx : evF σ x = .list sz rows tok) (hy : evF σ y = b) (hv : srcRows sz h b = some (r :: new)) (ht : appTok h tok = some (tok', h')) (hb : (rows.length + (new.length + 1)) * eb ≤ 140737488355328)
    (hw : rows ++ r :: new = rows') : istep (.app sz eb x y) (evF σ) h = some (.list sz rows' tok', h') := by
  subst hw
  simp only [istep, hx, hy, hv, if_true, ht, if_pos hb]
theorem is_lss {q : EqK} {x y : Opd} {k : IntKind} {a b : Int} (hx : evF σ x = .v (.int k a)) (hy : evF σ y = .v (.int k b)) : istep (.bin .lss q x y) (evF σ) h = some (.v (.bool (decide (a < b))), h) := by
  simp [istep, hx, hy, abin, intBin]
theorem is_leq {q : EqK} {x y : Opd} {k : IntKind} {a b : Int} (hx : evF σ x = .v (.int k a)) (hy : evF σ y = .v (.int k b)) : istep (.bin .leq q x y) (evF σ) h = some (.v (.bool (decide (a ≤ b))), h) := by
  simp [istep, hx, hy, abin, intBin]
theorem is_gtr {q : EqK} {x y : Opd} {k : IntKind} {a b : Int} (hx : evF σ x = .v (.int k a)) (hy : evF σ y = .v (.int k b)) : istep (.bin .gtr q x y) (evF σ) h = some (.v (.bool (decide (b < a))), h) := by
  simp [istep, hx, hy, abin, intBin]
theorem is_geq {q : EqK} {x y : Opd} {k : IntKind} {a b : Int} (hx : evF σ x = .v (.int k a)) (hy : evF σ y = .v (.int k b)) : istep (.bin .geq q x y) (evF σ) h = some (.v (.bool (decide (b ≤ a))), h) := by
  simp [istep, hx, hy, abin, intBin]
theorem is_eql {q : EqK} {x y : Opd} {k : IntKind} {a b : Int} (hx : evF σ x = .v (.int k a)) (hy : evF σ y = .v (.int k b)) : istep (.bin .eql q x y) (evF σ) h = some (.v (.bool (decide (a = b))), h) := by
  simp [istep, hx, hy, abin, intBin]
  by_cases e : a = b <;> simp [e]
theorem is_neq {q : EqK} {x y : Opd} {k : IntKind} {a b : Int} (hx : evF σ x = .v (.int k a)) (hy : evF σ y = .v (.int k b)) : istep (.bin .neq q x y) (evF σ) h = some (.v (.bool (decide (¬ a = b))), h) := by
  simp [istep, hx, hy, abin, intBin]
  by_cases e : a = b <;> simp [e]
theorem is_add {q : EqK} {x y : Opd} {k : IntKind} {a b c : Int} (hx : evF σ x = .v (.int k a)) (hy : evF σ y = .v (.int k b)) (hw : k.wrap (a + b) = c) : istep (.bin .add q x y) (evF σ) h = some (.v (.int k c), h) := by
  simp [istep, hx, hy, abin, intBin, hw]
theorem is_sub {q : EqK} {x y : Opd} {k : IntKind} {a b c : Int} (hx : evF σ x = .v (.int k a)) (hy : evF σ y = .v (.int k b)) (hw : k.wrap (a - b) = c) : istep (.bin .sub q x y) (evF σ) h = some (.v (.int k c), h) := by
  simp [istep, hx, hy, abin, intBin, hw]
theorem is_mul {q : EqK} {x y : Opd} {k : IntKind} {a b c : Int} (hx : evF σ x = .v (.int k a)) (hy : evF σ y = .v (.int k b)) (hw : k.wrap (a * b) = c) : istep (.bin .mul q x y) (evF σ) h = some (.v (.int k c), h) := by
  simp [istep, hx, hy, abin, intBin, hw]
theorem is_eqls {q : EqK} {x y : Opd} {a b : List UInt8} (hx : evF σ x = .v (.string (bs a))) (hy : evF σ y = .v (.string (bs b))) : istep (.bin .eql q x y) (evF σ) h = some (.v (.bool (decide (a = b))), h) := by
  simp [istep, hx, hy, abin, strBin, bs_toList]
  by_cases e : a = b <;> simp [e]
theorem is_neqs {q : EqK} {x y : Opd} {a b : List UInt8} (hx : evF σ x = .v (.string (bs a))) (hy : evF σ y = .v (.string (bs b))) : istep (.bin .neq q x y) (evF σ) h = some (.v (.bool (decide (¬ a = b))), h) := by
  simp [istep, hx, hy, abin, strBin, bs_toList]
  by_cases e : a = b <;> simp [e]
theorem is_adds {q : EqK} {x y : Opd} {a b c : List UInt8} (hx : evF σ x = .v (.string (bs a))) (hy : evF σ y = .v (.string (bs b))) (hb : a.length + b.length ≤ 9223372036854775807) (hw : a ++ b = c) : istep (.bin .add q x y) (evF σ) h = some (.v (.string (bs c)), h) := by
  subst hw
  simp [istep, hx, hy, abin, strBin, bs_size, hb, bs_append]
theorem is_not {x : Opd} {t : Bool} (hx : evF σ x = .v (.bool t)) : istep (.un .not x) (evF σ) h = some (.v (.bool !t), h) := by
  simp only [istep, hx, aun, Option.map_some]
theorem is_lenB {x : Opd} {l : List UInt8} {n : Nat} (hx : evF σ x = .v (.string (bs l))) (hw : l.length = n) : istep (.len .str x) (evF σ) h = some (.v (.int .i64 n), h) := by simp only [istep, hx, bs_size, hw]
theorem is_ixB {x i : Opd} {l : List UInt8} {k : IntKind} {n : Int} {b : UInt8} (hx : evF σ x = .v (.string (bs l))) (hy : evF σ i = .v (.int k n)) (hb : 0 ≤ n) (hw : l[n.toNat]? = some b) : istep (.ixS x i) (evF σ) h = some (.v (.int .u8 b.toNat), h) := by
  simp only [istep, hx, hy, if_pos hb, bs_data, hw]
end

section
variable {σ : Fm} {h : AH}
theorem args_nil : ([] : List Opd).map (evF σ) = [] := rfl
theorem args_cons {x : Opd} {xs : List Opd} {v : AV} {vs : List AV} (hx : evF σ x = v) (hr : xs.map (evF σ) = vs) : (x :: xs).map (evF σ) = v :: vs := by simp only [List.map_cons, hx, hr]
theorem res_tmp {t : Nat} {v : AV} (hx : σ t = v) : resF σ h (.tmp t) = some v := by simp only [resF, hx]
theorem res_cell {t id off : Nat} {sz : Option Nat} {cs : List AV} {v : AV} (hx : σ t = .ptr id off) (ho : h.objs id = some (.cells cs)) (hv : rd cs off sz = some v) : resF σ h (.cell t sz) = some v := by simp only [resF, hx, ho, hv]
theorem ress_nil : ressF σ h [] = some [] := rfl
theorem ress_cons {r : ARes} {rs : List ARes} {v : AV} {vs : List AV} (hq : resF σ h r = some v) (hr : ressF σ h rs = some vs) : ressF σ h (r :: rs) = some (v :: vs) := by simp only [ressF, hq, hr]
theorem ares_one {r : ARes} {v : AV} (hq : resF σ h r = some v) : aresF σ h [r] = some v := hq
theorem ares_many {r s : ARes} {rs : List ARes} {vs : List AV} (hr : ressF σ h (r :: s :: rs) = some vs) : aresF σ h (r :: s :: rs) = some (.tup vs) := by simp only [aresF, hr, Option.map_some]
theorem ares_none : aresF σ h [] = some (.tup []) := rfl
end

/-! numbers in range -/
theorem w64 {x : Int} (h0 : -9223372036854775808 ≤ x) (h1 : x ≤ 9223372036854775807) : IntKind.i64.wrap x = x := by rw [IntKind.wrap_i64]; omega
theorem w32 {x : Int} (h0 : -2147483648 ≤ x) (h1 : x ≤ 2147483647) : IntKind.i32.wrap x = x := by rw [IntKind.wrap_i32]; omega
theorem wu8 {x : Int} (h0 : 0 ≤ x) (h1 : x ≤ 255) : IntKind.u8.wrap x = x := by rw [IntKind.wrap_u8]; omega
theorem wu64 {x : Int} (h0 : 0 ≤ x) (h1 : x ≤ 18446744073709551615) : IntKind.u64.wrap x = x := by
  have : IntKind.u64.wrap x = x % 18446744073709551616 := by simp [IntKind.wrap, IntKind.bits, IntKind.signed]
  rw [this]; omega

end Go.Abs
/- A program logic over abstract states, 24: lists that may be appended to; what else stays. -/
namespace Go.Abs
open Go Go.RowKit
set_option linter.unusedVariables false
set_option linter.unusedSimpArgs false
/-- How a condition is read. -/
theorem nrm : (decide True = true) ∧ (decide False = false) ∧ ((¬ True) = False) ∧ ((¬ False) = True) ∧ (∀ (p : Prop) [Decidable p], (decide p = true) = p) ∧ (∀ (p : Prop) [Decidable p], (decide p = false) = ¬ p) ∧ (∀ b : Bool, ((!b) = true) = (b = false)) ∧ (∀ b : Bool, ((!b) = false) = (b = true)) ∧ ((!true) = false) ∧ ((!false) = true) ∧ ((false = true) = False) ∧ ((true = false) = False) ∧ (∀ b : Bool, (¬ b = true) = (b = false)) ∧ (∀ b : Bool, (¬ b = false) = (b = true)) ∧ (∀ a b : Int, (¬ a < b) = (b ≤ a)) ∧ (∀ a b : Int, (¬ a ≤ b) = (b < a)) ∧ (∀ p : Prop, (¬ ¬ p) = p) := by
  refine ⟨by simp, by simp, by simp, by simp, fun p _ => by simp, fun p _ => by simp, fun b => by simp, fun b => by simp, rfl, rfl, by simp, by simp, fun b => by simp, fun b => by simp, fun a b => by simp, fun a b => by simp, fun p => propext Classical.not_not⟩
theorem lq_nil {σ : Fm} {sz : Nat} : (([] : List (Nat × Opd)).map fun p => (p.1 * sz, sz, evF σ p.2)) = [] := rfl
theorem lq_cons {σ : Fm} {sz i : Nat} {o : Opd} {ps : List (Nat × Opd)} {v : AV} {qs : List (Nat × Nat × AV)} (hx : evF σ o = v) (hr : (ps.map fun p => (p.1 * sz, sz, evF σ p.2)) = qs) : (((i, o) :: ps).map fun p => (p.1 * sz, sz, evF σ p.2)) = (i * sz, sz, v) :: qs := by simp only [List.map_cons, hx, hr]
theorem bq_nil {σ : Fm} : (([] : List (Nat × Nat × Opd)).map fun p => (p.1, p.2.1, evF σ p.2.2)) = [] := rfl
theorem bq_cons {σ : Fm} {i n : Nat} {o : Opd} {ps : List (Nat × Nat × Opd)} {v : AV} {qs : List (Nat × Nat × AV)} (hx : evF σ o = v) (hr : (ps.map fun p => (p.1, p.2.1, evF σ p.2.2)) = qs) : (((i, n, o) :: ps).map fun p => (p.1, p.2.1, evF σ p.2.2)) = (i, n, v) :: qs := by simp only [List.map_cons, hx, hr]
theorem is_build {σ : Fm} {h : AH} {z : List AV} {ps : List (Nat × Nat × Opd)} {qs : List (Nat × Nat × AV)} {cs : List AV} (hq : (ps.map fun p => (p.1, p.2.1, evF σ p.2.2)) = qs) (hv : fillA z qs = some cs) : istep (.build z ps) (evF σ) h = some (.agg cs, h) := by
  simp only [istep, hq, hv]
theorem is_lit {σ : Fm} {h : AH} {sz n : Nat} {z : List AV} {ps : List (Nat × Opd)} {qs : List (Nat × Nat × AV)} {cs : List AV} {rows : List (List AV)} (hq : (ps.map fun p => (p.1 * sz, sz, evF σ p.2)) = qs) (hv : fillA ((List.replicate n z).flatten) qs = some cs) (hw : chunk sz n cs = rows) : istep (.lit sz n z ps) (evF σ) h = some (.list sz rows .full, h) := by
  subst hw
  simp only [istep, hq, hv]
/-- The rows of a list of strings. -/
def srows (l : List (List UInt8)) : List (List AV) := l.map fun s => [.v (.string (bs s))]
theorem srows_len (l : List (List UInt8)) : (srows l).length = l.length := by simp [srows]
theorem srows_app (l m : List (List UInt8)) : srows (l ++ m) = srows l ++ srows m := by simp [srows]
theorem srows_get (l : List (List UInt8)) (i : Nat) : (srows l)[i]? = (l[i]?).map fun s => [.v (.string (bs s))] := by simp [srows]
/-- A list that may be appended to. -/
def TokU (h : AH) : Tok → Prop
  | .no => False
  | .full => True
  | .own t v => v = h.ver t ∧ t < h.nt
def Tok.owner : Tok → Option Nat
  | .own t _ => some t
  | _ => none
/-- What else stays: all but some objects and some tokens. -/
structure ExtX (I T : Nat → Prop) (h h' : AH) : Prop where
  n : h.n ≤ h'.n
  nt : h.nt ≤ h'.nt
  objs : ∀ i, i < h.n → ¬ I i → h'.objs i = h.objs i
  ver : ∀ t, t < h.nt → ¬ T t → h'.ver t = h.ver t
theorem ExtX.of {I T : Nat → Prop} {h h' : AH} (e : Ext h h') : ExtX I T h h' := ⟨e.n, e.nt, fun i hi _ => e.objs i hi, fun t ht _ => e.ver t ht⟩
theorem ExtX.trans {I T : Nat → Prop} {a b c : AH} (h : ExtX I T a b) (k : ExtX I T b c) : ExtX I T a c :=
  ⟨Nat.le_trans h.n k.n, Nat.le_trans h.nt k.nt, fun i hi hn => (k.objs i (Nat.lt_of_lt_of_le hi h.n) hn).trans (h.objs i hi hn), fun t ht hn => (k.ver t (Nat.lt_of_lt_of_le ht h.nt) hn).trans (h.ver t ht hn)⟩
theorem ExtX.mono {I T I' T' : Nat → Prop} (hi : ∀ i, I i → I' i) (ht : ∀ i, T i → T' i) {a b : AH} (h : ExtX I T a b) : ExtX I' T' a b :=
  ⟨h.n, h.nt, fun i hl hn => h.objs i hl fun x => hn (hi _ x), fun t hl hn => h.ver t hl fun x => hn (ht _ x)⟩
theorem TokU.ext {h h' : AH} (e : Ext h h') {tok : Tok} (k : TokU h tok) : TokU h' tok := by
  cases tok with
  | no => exact k
  | full => trivial
  | own t v => exact ⟨k.1.trans (e.ver t k.2).symm, Nat.lt_of_lt_of_le k.2 e.nt⟩
/-- A token of a list that is new or was the list's own. -/
def TokN (h : AH) (tok tok' : Tok) : Prop := ∀ t, tok'.owner = some t → tok.owner = some t ∨ h.nt ≤ t
theorem Ext.transX {I T : Nat → Prop} {a b c : AH} (e : Ext a b) (k : ExtX I T b c) (hi : ∀ i, I i → a.n ≤ i) (ht : ∀ t, T t → a.nt ≤ t) : Ext a c :=
  ⟨Nat.le_trans e.n k.n, Nat.le_trans e.nt k.nt, fun i hl => (k.objs i (Nat.lt_of_lt_of_le hl e.n) fun x => by have := hi i x; omega).trans (e.objs i hl), fun t hl => (k.ver t (Nat.lt_of_lt_of_le hl e.nt) fun x => by have := ht t x; omega).trans (e.ver t hl)⟩
theorem ExtX.set {I T : Nat → Prop} {h h' : AH} (e : ExtX I T h h') {i : Nat} (hi : I i ∨ h.n ≤ i) (o : AObj) : ExtX I T h (h'.set i o) :=
  ⟨e.n, e.nt, fun j hj hn => by
    simp only [set_at]
    rw [if_neg (by rintro rfl; rcases hi with hi | hi; exact hn hi; omega)]
    exact e.objs j hj hn, e.ver⟩
theorem ExtX.alloc {I T : Nat → Prop} {h h' : AH} (e : ExtX I T h h') (o : AObj) : ExtX I T h (h'.alloc o) := e.trans (.of (Ext.alloc _ _))
theorem ExtX.newTok {I T : Nat → Prop} {h h' : AH} (e : ExtX I T h h') : ExtX I T h h'.newTok := e.trans (.of (Ext.newTok _))
theorem ExtX.bump {I T : Nat → Prop} {h h' : AH} (e : ExtX I T h h') {t : Nat} (ht : T t ∨ h.nt ≤ t) : ExtX I T h (h'.bump t) :=
  ⟨e.n, e.nt, e.objs, fun s hs hn => by
    simp only [bump_ver]
    rw [if_neg (by rintro rfl; rcases ht with ht | ht; exact hn ht; omega)]
    exact e.ver s hs hn⟩
/-- An append to a list that may be appended to. -/
theorem TokU.app {h : AH} {tok : Tok} (k : TokU h tok) : ∃ tok' h', appTok h tok = some (tok', h') ∧ TokU h' tok' ∧ TokN h tok tok' ∧ h'.objs = h.objs ∧ h'.n = h.n ∧ ExtX (fun _ => False) (fun t => tok.owner = some t) h h' := by
  cases tok with
  | no => exact k.elim
  | full => exact ⟨_, _, rfl, ⟨by simp [newTok_ver], by simp [newTok_nt]⟩, fun t ht => by cases ht; exact .inr (Nat.le_refl _), rfl, rfl, .of (Ext.newTok h)⟩
  | own t v =>
    obtain ⟨rfl, hlt⟩ := k
    exact ⟨_, _, if_pos rfl, ⟨by simp [bump_ver], hlt⟩, fun t ht => by cases ht; exact .inl rfl, rfl, rfl, ExtX.bump (.of (Ext.refl h)) (.inl rfl)⟩
theorem is_app0 {σ : Fm} {h : AH} {sz eb : Nat} {x y : Opd} {rows : List (List AV)} {tok : Tok} {b : AV} (hx : evF σ x = .list sz rows tok) (hy : evF σ y = b) (hv : srcRows sz h b = some []) : istep (.app sz eb x y) (evF σ) h = some (.list sz rows tok, h) := by
  simp only [istep, hx, hy, hv, if_true]
theorem TokU.alloc {h : AH} {o : AObj} {tok : Tok} (k : TokU h tok) : TokU (h.alloc o) tok := k.ext (Ext.alloc _ _)
theorem TokU.newTok {h : AH} {tok : Tok} (k : TokU h tok) : TokU h.newTok tok := k.ext (Ext.newTok _)
theorem TokU.set {h : AH} {i : Nat} {o : AObj} {tok : Tok} (k : TokU h tok) : TokU (h.set i o) tok := by cases tok <;> exact k
theorem TokU.fresh {h : AH} {tok : Tok} (k : TokU h tok) : TokU (h.newTok.bump h.nt) tok := k.ext ((Ext.newTok h).bump (Nat.le_refl _))
end Go.Abs
/- A program logic over abstract states, 25: the tactics of a run, carried by default arguments; printed by a program of mine. -/
namespace Go.Abs
open Go Go.RowKit
set_option linter.unusedVariables false
theorem tEV {p : Prop} (h : p := by (((conv => (lhs; whnf; (try simp only [*]))); (try ((try simp only [*]); rfl))); (first | done | fail))) : p := h
theorem tNB {p : Prop} (h : p := by ((first | ((simp only [Int.reduceLT, Int.reduceLE, Int.reduceEq, Int.reduceNe, Int.cast_ofNat_Int, Int.reduceNeg, decide_true, decide_false, not_true_eq_false, not_false_eq_true, decide_eq_true_eq, decide_eq_false_iff_not, Bool.not_eq_true', Bool.not_eq_false', Bool.not_true, Bool.not_false, Bool.false_eq_true, Bool.true_eq_false, Bool.not_eq_true, Bool.not_eq_false, beq_iff_eq, beq_eq_false_iff_ne, bne_iff_ne, bne_eq_false_iff_eq, ne_eq, Int.not_lt, Int.not_le, ge_iff_le, gt_iff_lt, Decidable.not_not, reduceCtorEq, *]); done) | ((simp only [Int.reduceLT, Int.reduceLE, Int.reduceEq, Int.reduceNe, Int.cast_ofNat_Int, Int.reduceNeg, decide_true, decide_false, not_true_eq_false, not_false_eq_true, decide_eq_true_eq, decide_eq_false_iff_not, Bool.not_eq_true', Bool.not_eq_false', Bool.not_true, Bool.not_false, Bool.false_eq_true, Bool.true_eq_false, Bool.not_eq_true, Bool.not_eq_false, beq_iff_eq, beq_eq_false_iff_ne, bne_iff_ne, bne_eq_false_iff_eq, ne_eq, Int.not_lt, Int.not_le, ge_iff_le, gt_iff_lt, Decidable.not_not, reduceCtorEq, Bool.false_eq_true, if_true, if_false, eq_self, reduceIte, Int.toNat_natCast, Int.reduceToNat, List.getElem?_cons_succ, List.getElem?_cons_zero, List.getElem?_nil, List.getElem?_map, Option.map_some, List.length_cons, List.length_nil, List.length_map, List.length_append, bs_size, byteRows_bs, List.nil_append, List.append_nil, List.cons_append, Nat.reduceAdd, true_and, and_true, Nat.reduceLeDiff, Nat.le_refl, *]); done) | ((try simp only [Int.reduceLT, Int.reduceLE, Int.reduceEq, Int.reduceNe, Int.cast_ofNat_Int, Int.reduceNeg, decide_true, decide_false, not_true_eq_false, not_false_eq_true, decide_eq_true_eq, decide_eq_false_iff_not, Bool.not_eq_true', Bool.not_eq_false', Bool.not_true, Bool.not_false, Bool.false_eq_true, Bool.true_eq_false, Bool.not_eq_true, Bool.not_eq_false, beq_iff_eq, beq_eq_false_iff_ne, bne_iff_ne, bne_eq_false_iff_eq, ne_eq, Int.not_lt, Int.not_le, ge_iff_le, gt_iff_lt, Decidable.not_not, reduceCtorEq, Bool.false_eq_true, if_true, if_false, eq_self, reduceIte, Int.toNat_natCast, Int.reduceToNat, List.getElem?_cons_succ, List.getElem?_cons_zero, List.getElem?_nil, List.getElem?_map, Option.map_some, List.length_cons, List.length_nil, List.length_map, List.length_append, bs_size, byteRows_bs, List.nil_append, List.append_nil, List.cons_append, Nat.reduceAdd, true_and, and_true]); omega) | ((try simp only [Int.reduceLT, Int.reduceLE, Int.reduceEq, Int.reduceNe, Int.cast_ofNat_Int, Int.reduceNeg, decide_true, decide_false, not_true_eq_false, not_false_eq_true, decide_eq_true_eq, decide_eq_false_iff_not, Bool.not_eq_true', Bool.not_eq_false', Bool.not_true, Bool.not_false, Bool.false_eq_true, Bool.true_eq_false, Bool.not_eq_true, Bool.not_eq_false, beq_iff_eq, beq_eq_false_iff_ne, bne_iff_ne, bne_eq_false_iff_eq, ne_eq, Int.not_lt, Int.not_le, ge_iff_le, gt_iff_lt, Decidable.not_not, reduceCtorEq, Bool.false_eq_true, if_true, if_false, eq_self, reduceIte, Int.toNat_natCast, Int.reduceToNat, List.getElem?_cons_succ, List.getElem?_cons_zero, List.getElem?_nil, List.getElem?_map, Option.map_some, List.length_cons, List.length_nil, List.length_map, List.length_append, bs_size, byteRows_bs, List.nil_append, List.append_nil, List.cons_append, Nat.reduceAdd, true_and, and_true, *]); omega) | rfl); (first | done | fail))) : p := h
theorem tHE {p : Prop} (h : p := by ((first | ((simp (disch := omega) only [alloc_at, set_at, newTok_at, bump_at, alloc_n, set_n, newTok_n, bump_n, alloc_nt, set_nt, newTok_nt, bump_nt, alloc_ver, set_ver, newTok_ver, bump_ver, eq_self, if_true, reduceIte, *]); rfl) | ((simp (disch := omega) only [alloc_at, set_at, newTok_at, bump_at, alloc_n, set_n, newTok_n, bump_n, alloc_nt, set_nt, newTok_nt, bump_nt, alloc_ver, set_ver, newTok_ver, bump_ver, eq_self, if_true, reduceIte, if_pos, if_neg, *]); rfl) | rfl); (first | done | fail))) : p := h
theorem tAR {p : Prop} (h : p := by ((first | ((simp (disch := omega) only [w64, w32, wu8, wu64, Int.reduceAdd, Int.reduceSub, Int.reduceMul, Int.reduceNeg, Int.zero_add, Int.add_zero, Int.zero_mul, *]); rfl) | rfl); (first | done | fail))) : p := h
theorem tLN {p : Prop} (h : p := by ((first | ((simp (disch := omega) only [Bool.false_eq_true, if_true, if_false, eq_self, reduceIte, Int.toNat_natCast, Int.reduceToNat, List.getElem?_cons_succ, List.getElem?_cons_zero, List.getElem?_nil, List.getElem?_map, Option.map_some, List.length_cons, List.length_nil, List.length_map, List.length_append, bs_size, byteRows_bs, List.nil_append, List.append_nil, List.cons_append, Nat.reduceAdd, *]); rfl) | rfl); (first | done | fail))) : p := h
theorem tPK {p : Prop} (h : p := by ((first | ((simp (disch := omega) only [Int.reduceLT, Int.reduceLE, Int.reduceEq, Int.reduceNe, Int.cast_ofNat_Int, Int.reduceNeg, decide_true, decide_false, not_true_eq_false, not_false_eq_true, decide_eq_true_eq, decide_eq_false_iff_not, Bool.not_eq_true', Bool.not_eq_false', Bool.not_true, Bool.not_false, Bool.false_eq_true, Bool.true_eq_false, Bool.not_eq_true, Bool.not_eq_false, beq_iff_eq, beq_eq_false_iff_ne, bne_iff_ne, bne_eq_false_iff_eq, ne_eq, Int.not_lt, Int.not_le, ge_iff_le, gt_iff_lt, Decidable.not_not, reduceCtorEq, eq_self, if_true, if_false, if_pos, if_neg, *]); rfl)); (first | done | fail))) : p := h
theorem tGN {p : Prop} (h : p := by ((first | (simp (disch := omega) only [istep, evF_tmp, evF_cst, up_at, up_none, argF_zero, argF_succ, argF_nil, Nat.reduceEqDiff, w64, w32, wu8, wu64, Int.reduceLE, Int.reduceLT, Int.reduceAdd, Int.reduceSub, Int.reduceMul, Int.reduceNeg, Int.reduceToNat, Int.toNat_natCast, Int.reduceEq, Int.reduceNe, Nat.reduceLT, Nat.reduceLeDiff, Nat.reduceMul, Nat.reduceSub, Int.natCast_nonneg, bs_data, List.getElem?_cons_succ, List.getElem?_cons_zero, List.getElem?_nil, List.take_succ_cons, List.drop_succ_cons, List.take_zero, List.drop_zero, List.take_nil, List.drop_nil, reduceCtorEq, eq_self, not_false_eq_true, not_true_eq_false, and_true, true_and, and_false, false_and, or_true, true_or, or_false, false_or, if_true, if_false, reduceIte, Nat.reduceAdd, abin, intBin, aun, shiftBin, strBin, eqB, scells, AV.one, Value.oneCell', Option.map_some, Option.map_none, List.map_cons, List.map_nil, bnd, rd, bs_size, bs_data, bs_toList, bs_append, bs_extract, srcRows, fillA, wrL, List.length_cons, List.length_nil, decide_true, decide_false, decide_not, Bool.not_true, Bool.not_false, decide_eq_true_eq, Bool.false_eq_true, Bool.not_eq_true', beqT, beqF, decide_eq_false_iff_not, ge_iff_le, gt_iff_lt, Int.not_lt, Int.not_le, beq_iff_eq, bne_iff_ne, beq_eq_false_iff_ne, bne_eq_false_iff_eq, ne_eq, Decidable.not_not, aresF, resF, ressF, List.append_nil, List.nil_append, List.cons_append, *]; rfl) | (simp (disch := omega) only [istep, evF_tmp, evF_cst, up_at, up_none, argF_zero, argF_succ, argF_nil, Nat.reduceEqDiff, w64, w32, wu8, wu64, Int.reduceLE, Int.reduceLT, Int.reduceAdd, Int.reduceSub, Int.reduceMul, Int.reduceNeg, Int.reduceToNat, Int.toNat_natCast, Int.reduceEq, Int.reduceNe, Nat.reduceLT, Nat.reduceLeDiff, Nat.reduceMul, Nat.reduceSub, Int.natCast_nonneg, bs_data, List.getElem?_cons_succ, List.getElem?_cons_zero, List.getElem?_nil, List.take_succ_cons, List.drop_succ_cons, List.take_zero, List.drop_zero, List.take_nil, List.drop_nil, reduceCtorEq, eq_self, not_false_eq_true, not_true_eq_false, and_true, true_and, and_false, false_and, or_true, true_or, or_false, false_or, if_true, if_false, reduceIte, Nat.reduceAdd, abin, intBin, aun, shiftBin, strBin, eqB, scells, AV.one, Value.oneCell', Option.map_some, Option.map_none, List.map_cons, List.map_nil, bnd, rd, bs_size, bs_data, bs_toList, bs_append, bs_extract, srcRows, fillA, wrL, List.length_cons, List.length_nil, decide_true, decide_false, decide_not, Bool.not_true, Bool.not_false, decide_eq_true_eq, Bool.false_eq_true, Bool.not_eq_true', beqT, beqF, decide_eq_false_iff_not, ge_iff_le, gt_iff_lt, Int.not_lt, Int.not_le, beq_iff_eq, bne_iff_ne, beq_eq_false_iff_ne, bne_eq_false_iff_eq, ne_eq, Decidable.not_not, aresF, resF, ressF, List.append_nil, List.nil_append, List.cons_append, if_pos, if_neg, *]; rfl) | rfl); (first | done | fail))) : p := h
theorem tSR {p : Prop} (h : p := by ((first | rfl | (simp (disch := omega) only [istep, evF_tmp, evF_cst, up_at, up_none, argF_zero, argF_succ, argF_nil, Nat.reduceEqDiff, w64, w32, wu8, wu64, Int.reduceLE, Int.reduceLT, Int.reduceAdd, Int.reduceSub, Int.reduceMul, Int.reduceNeg, Int.reduceToNat, Int.toNat_natCast, Int.reduceEq, Int.reduceNe, Nat.reduceLT, Nat.reduceLeDiff, Nat.reduceMul, Nat.reduceSub, Int.natCast_nonneg, bs_data, List.getElem?_cons_succ, List.getElem?_cons_zero, List.getElem?_nil, List.take_succ_cons, List.drop_succ_cons, List.take_zero, List.drop_zero, List.take_nil, List.drop_nil, reduceCtorEq, eq_self, not_false_eq_true, not_true_eq_false, and_true, true_and, and_false, false_and, or_true, true_or, or_false, false_or, if_true, if_false, reduceIte, Nat.reduceAdd, abin, intBin, aun, shiftBin, strBin, eqB, scells, AV.one, Value.oneCell', Option.map_some, Option.map_none, List.map_cons, List.map_nil, bnd, rd, bs_size, bs_data, bs_toList, bs_append, bs_extract, srcRows, fillA, wrL, List.length_cons, List.length_nil, decide_true, decide_false, decide_not, Bool.not_true, Bool.not_false, decide_eq_true_eq, Bool.false_eq_true, Bool.not_eq_true', beqT, beqF, decide_eq_false_iff_not, ge_iff_le, gt_iff_lt, Int.not_lt, Int.not_le, beq_iff_eq, bne_iff_ne, beq_eq_false_iff_ne, bne_eq_false_iff_eq, ne_eq, Decidable.not_not, aresF, resF, ressF, List.append_nil, List.nil_append, List.cons_append, *]; rfl) | (simp (disch := omega) only [istep, evF_tmp, evF_cst, up_at, up_none, argF_zero, argF_succ, argF_nil, Nat.reduceEqDiff, w64, w32, wu8, wu64, Int.reduceLE, Int.reduceLT, Int.reduceAdd, Int.reduceSub, Int.reduceMul, Int.reduceNeg, Int.reduceToNat, Int.toNat_natCast, Int.reduceEq, Int.reduceNe, Nat.reduceLT, Nat.reduceLeDiff, Nat.reduceMul, Nat.reduceSub, Int.natCast_nonneg, bs_data, List.getElem?_cons_succ, List.getElem?_cons_zero, List.getElem?_nil, List.take_succ_cons, List.drop_succ_cons, List.take_zero, List.drop_zero, List.take_nil, List.drop_nil, reduceCtorEq, eq_self, not_false_eq_true, not_true_eq_false, and_true, true_and, and_false, false_and, or_true, true_or, or_false, false_or, if_true, if_false, reduceIte, Nat.reduceAdd, abin, intBin, aun, shiftBin, strBin, eqB, scells, AV.one, Value.oneCell', Option.map_some, Option.map_none, List.map_cons, List.map_nil, bnd, rd, bs_size, bs_data, bs_toList, bs_append, bs_extract, srcRows, fillA, wrL, List.length_cons, List.length_nil, decide_true, decide_false, decide_not, Bool.not_true, Bool.not_false, decide_eq_true_eq, Bool.false_eq_true, Bool.not_eq_true', beqT, beqF, decide_eq_false_iff_not, ge_iff_le, gt_iff_lt, Int.not_lt, Int.not_le, beq_iff_eq, bne_iff_ne, beq_eq_false_iff_ne, bne_eq_false_iff_eq, ne_eq, Decidable.not_not, aresF, resF, ressF, List.append_nil, List.nil_append, List.cons_append, if_pos, if_neg, *]; rfl)); (first | done | fail))) : p := h
theorem tAP {p : Prop} (h : p := by ((first | ((simp only [*]); rfl) | rfl | ((simp (disch := omega) only [appTok, alloc_at, set_at, newTok_at, bump_at, alloc_n, set_n, newTok_n, bump_n, alloc_nt, set_nt, newTok_nt, bump_nt, alloc_ver, set_ver, newTok_ver, bump_ver, eq_self, if_true, reduceIte, *]); rfl) | ((simp (disch := omega) only [appTok, alloc_at, set_at, newTok_at, bump_at, alloc_n, set_n, newTok_n, bump_n, alloc_nt, set_nt, newTok_nt, bump_nt, alloc_ver, set_ver, newTok_ver, bump_ver, eq_self, if_true, reduceIte, if_pos, if_neg, *]); rfl)); (first | done | fail))) : p := h
theorem tWR {p : Prop} (h : p := by ((first | ((simp only [wrL, List.set_cons_zero, List.set_cons_succ, Nat.reduceAdd]); rfl) | rfl); (first | done | fail))) : p := h
theorem tRD {p : Prop} (h : p := by ((first | ((simp only [rd, List.length_cons, List.length_nil, Nat.reduceAdd, Nat.reduceLeDiff, Nat.le_refl, if_true, List.drop_zero, List.drop_succ_cons, List.take_succ_cons, List.take_zero, List.take_nil, List.getElem?_cons_succ, List.getElem?_cons_zero]); rfl) | rfl); (first | done | fail))) : p := h
theorem tFL {p : Prop} (h : p := by ((simp only [Nat.reduceMul, List.replicate_zero, List.replicate_succ, List.flatten_cons, List.flatten_nil, List.append_nil, List.nil_append, List.cons_append, fillA, scells, AV.one, Value.oneCell', if_true, List.length_cons, List.length_nil, Nat.reduceAdd, Nat.reduceLeDiff, Nat.le_refl, and_self, true_and, and_true, eq_self, wrL, List.set_cons_zero, List.set_cons_succ]; rfl); (first | done | fail))) : p := h
theorem tCH {p : Prop} (h : p := by ((simp only [chunk, List.take_succ_cons, List.take_zero, List.take_nil, List.drop_succ_cons, List.drop_zero, List.drop_nil]; rfl); (first | done | fail))) : p := h
theorem tLQ {p : Prop} (h : p := by ((repeat' (first | with_reducible exact lq_nil | ((with_reducible apply lq_cons); (case hx => exact tEV)))); (first | done | fail))) : p := h
theorem tBQ {p : Prop} (h : p := by ((repeat' (first | with_reducible exact bq_nil | ((with_reducible apply bq_cons); (case hx => exact tEV)))); (first | done | fail))) : p := h
theorem tAG {p : Prop} (h : p := by ((repeat' (first | with_reducible exact args_nil | ((with_reducible apply args_cons); (case hx => exact tEV)))); (first | done | fail))) : p := h
theorem tHS {p : Prop} (h : p := by ((first | ((with_reducible apply is_mv); exact tEV) | ((with_reducible apply is_fadp); (case hx => exact tEV); (case hv => rfl)) | ((with_reducible apply is_load); (case hx => exact tEV); (case ho => exact tHE); (case hv => exact tRD)) | ((with_reducible apply is_lss); (case hx => exact tEV); (case hy => exact tEV)) | ((with_reducible apply is_eql); (case hx => exact tEV); (case hy => exact tEV)) | ((with_reducible apply is_neq); (case hx => exact tEV); (case hy => exact tEV)) | ((with_reducible apply is_pickt); (case hc => exact tEV); (case hb => exact tNB); (case hx => exact tEV)) | ((with_reducible apply is_pickf); (case hc => exact tEV); (case hb => exact tNB); (case hx => exact tEV)) | ((with_reducible apply is_pick); (case hc => exact tEV); (case hx => exact tEV); (case hy => exact tEV); (case hv => exact tPK)) | ((with_reducible apply is_lenB); (case hx => exact tEV); (case hw => exact tLN)) | ((with_reducible apply is_lenL); (case hx => exact tEV); (case hv => exact tLN)) | ((with_reducible apply is_ixB); (case hx => exact tEV); (case hy => exact tEV); (case hb => exact tNB); (case hw => exact tLN)) | ((with_reducible apply is_iaL); (case hx => exact tEV); (case hy => exact tEV); (case hb => exact tNB); (case hv => exact tLN)) | ((with_reducible apply is_loadl); (case hx => exact tEV); (case hv => exact tRD)) | ((with_reducible apply is_add); (case hx => exact tEV); (case hy => exact tEV); (case hw => exact tAR)) | ((with_reducible apply is_ext); (case hx => exact tEV); (case hv => rfl)) | ((with_reducible apply is_leq); (case hx => exact tEV); (case hy => exact tEV)) | ((with_reducible apply is_gtr); (case hx => exact tEV); (case hy => exact tEV)) | ((with_reducible apply is_geq); (case hx => exact tEV); (case hy => exact tEV)) | ((with_reducible apply is_not); exact tEV) | ((with_reducible apply is_eqls); (case hx => exact tEV); (case hy => exact tEV)) | ((with_reducible apply is_neqs); (case hx => exact tEV); (case hy => exact tEV)) | ((with_reducible apply is_sub); (case hx => exact tEV); (case hy => exact tEV); (case hw => exact tAR)) | ((with_reducible apply is_mul); (case hx => exact tEV); (case hy => exact tEV); (case hw => exact tAR)) | ((with_reducible apply is_adds); (case hx => exact tEV); (case hy => exact tEV); (case hb => exact tNB); (case hw => exact tLN)) | ((with_reducible apply is_box); (case hx => exact tEV); (case hv => rfl)) | with_reducible apply is_new | ((with_reducible apply is_store); (case hx => exact tEV); (case hy => exact tEV); (case hv => rfl); (case ho => exact tHE); (case hb => exact tNB); (case hw => exact tWR)) | ((with_reducible apply is_nilp); exact tEV) | ((with_reducible apply is_convI); (case hx => exact tEV); (case hv => exact tAR)) | ((with_reducible apply is_fld); (case hx => exact tEV); (case hv => exact tRD)) | ((with_reducible apply is_fadl); (case hx => exact tEV); (case hv => rfl)) | ((with_reducible apply is_nill); exact tEV) | ((with_reducible apply is_convS); exact tEV) | ((with_reducible apply is_s2b); (case hx => exact tEV); (case hv => exact tLN)) | ((with_reducible apply is_iaLr); (case hx => exact tEV); (case hy => exact tEV); (case hb => exact tNB); (case hv => exact tLN)) | ((with_reducible apply is_lenR); exact tEV) | ((with_reducible apply is_build); (case hq => exact tBQ); (case hv => exact tFL)) | ((with_reducible apply is_lit); (case hq => exact tLQ); (case hv => exact tFL); (case hw => exact tCH)) | ((with_reducible apply is_app); (case hx => exact tEV); (case hy => exact tEV); (case hv => exact tSR); (case ht => exact tAP); (case hb => exact tNB); (case hw => exact tLN)) | ((with_reducible apply is_app0); (case hx => exact tEV); (case hy => exact tEV); (case hv => exact tSR)) | ((with_reducible apply is_bin); (case hx => exact tEV); (case hy => exact tEV); (case hv => exact tGN)) | ((with_reducible apply is_un); (case hx => exact tEV); (case hv => exact tGN)) | (simp (disch := omega) only [istep, evF_tmp, evF_cst, up_at, up_none, argF_zero, argF_succ, argF_nil, Nat.reduceEqDiff, w64, w32, wu8, wu64, Int.reduceLE, Int.reduceLT, Int.reduceAdd, Int.reduceSub, Int.reduceMul, Int.reduceNeg, Int.reduceToNat, Int.toNat_natCast, Int.reduceEq, Int.reduceNe, Nat.reduceLT, Nat.reduceLeDiff, Nat.reduceMul, Nat.reduceSub, Int.natCast_nonneg, bs_data, List.getElem?_cons_succ, List.getElem?_cons_zero, List.getElem?_nil, List.take_succ_cons, List.drop_succ_cons, List.take_zero, List.drop_zero, List.take_nil, List.drop_nil, reduceCtorEq, eq_self, not_false_eq_true, not_true_eq_false, and_true, true_and, and_false, false_and, or_true, true_or, or_false, false_or, if_true, if_false, reduceIte, Nat.reduceAdd, abin, intBin, aun, shiftBin, strBin, eqB, scells, AV.one, Value.oneCell', Option.map_some, Option.map_none, List.map_cons, List.map_nil, bnd, rd, bs_size, bs_data, bs_toList, bs_append, bs_extract, srcRows, fillA, wrL, List.length_cons, List.length_nil, decide_true, decide_false, decide_not, Bool.not_true, Bool.not_false, decide_eq_true_eq, Bool.false_eq_true, Bool.not_eq_true', beqT, beqF, decide_eq_false_iff_not, ge_iff_le, gt_iff_lt, Int.not_lt, Int.not_le, beq_iff_eq, bne_iff_ne, beq_eq_false_iff_ne, bne_eq_false_iff_eq, ne_eq, Decidable.not_not, aresF, resF, ressF, List.append_nil, List.nil_append, List.cons_append, *]; rfl) | (simp (disch := omega) only [istep, evF_tmp, evF_cst, up_at, up_none, argF_zero, argF_succ, argF_nil, Nat.reduceEqDiff, w64, w32, wu8, wu64, Int.reduceLE, Int.reduceLT, Int.reduceAdd, Int.reduceSub, Int.reduceMul, Int.reduceNeg, Int.reduceToNat, Int.toNat_natCast, Int.reduceEq, Int.reduceNe, Nat.reduceLT, Nat.reduceLeDiff, Nat.reduceMul, Nat.reduceSub, Int.natCast_nonneg, bs_data, List.getElem?_cons_succ, List.getElem?_cons_zero, List.getElem?_nil, List.take_succ_cons, List.drop_succ_cons, List.take_zero, List.drop_zero, List.take_nil, List.drop_nil, reduceCtorEq, eq_self, not_false_eq_true, not_true_eq_false, and_true, true_and, and_false, false_and, or_true, true_or, or_false, false_or, if_true, if_false, reduceIte, Nat.reduceAdd, abin, intBin, aun, shiftBin, strBin, eqB, scells, AV.one, Value.oneCell', Option.map_some, Option.map_none, List.map_cons, List.map_nil, bnd, rd, bs_size, bs_data, bs_toList, bs_append, bs_extract, srcRows, fillA, wrL, List.length_cons, List.length_nil, decide_true, decide_false, decide_not, Bool.not_true, Bool.not_false, decide_eq_true_eq, Bool.false_eq_true, Bool.not_eq_true', beqT, beqF, decide_eq_false_iff_not, ge_iff_le, gt_iff_lt, Int.not_lt, Int.not_le, beq_iff_eq, bne_iff_ne, beq_eq_false_iff_ne, bne_eq_false_iff_eq, ne_eq, Decidable.not_not, aresF, resF, ressF, List.append_nil, List.nil_append, List.cons_append, if_pos, if_neg, *]; rfl)); (first | done | fail))) : p := h
theorem tRS {p : Prop} (h : p := by ((first | ((with_reducible apply ares_one); (first | ((with_reducible apply res_tmp); exact tEV) | ((with_reducible apply res_cell); (case hx => exact tEV); (case ho => exact tHE); (case hv => exact tRD)))) | with_reducible exact ares_none | ((with_reducible apply ares_many); (repeat' (first | with_reducible exact ress_nil | ((with_reducible apply ress_cons); (case hq => (first | ((with_reducible apply res_tmp); exact tEV) | ((with_reducible apply res_cell); (case hx => exact tEV); (case ho => exact tHE); (case hv => exact tRD))))))))); (first | done | fail))) : p := h
theorem tCV {p : Prop} (h : p := by ((first | (simp (disch := omega) only [istep, evF_tmp, evF_cst, up_at, up_none, argF_zero, argF_succ, argF_nil, Nat.reduceEqDiff, w64, w32, wu8, wu64, Int.reduceLE, Int.reduceLT, Int.reduceAdd, Int.reduceSub, Int.reduceMul, Int.reduceNeg, Int.reduceToNat, Int.toNat_natCast, Int.reduceEq, Int.reduceNe, Nat.reduceLT, Nat.reduceLeDiff, Nat.reduceMul, Nat.reduceSub, Int.natCast_nonneg, bs_data, List.getElem?_cons_succ, List.getElem?_cons_zero, List.getElem?_nil, List.take_succ_cons, List.drop_succ_cons, List.take_zero, List.drop_zero, List.take_nil, List.drop_nil, reduceCtorEq, eq_self, not_false_eq_true, not_true_eq_false, and_true, true_and, and_false, false_and, or_true, true_or, or_false, false_or, if_true, if_false, reduceIte, Nat.reduceAdd, abin, intBin, aun, shiftBin, strBin, eqB, scells, AV.one, Value.oneCell', Option.map_some, Option.map_none, List.map_cons, List.map_nil, bnd, rd, bs_size, bs_data, bs_toList, bs_append, bs_extract, srcRows, fillA, wrL, List.length_cons, List.length_nil, decide_true, decide_false, decide_not, Bool.not_true, Bool.not_false, decide_eq_true_eq, Bool.false_eq_true, Bool.not_eq_true', beqT, beqF, decide_eq_false_iff_not, ge_iff_le, gt_iff_lt, Int.not_lt, Int.not_le, beq_iff_eq, bne_iff_ne, beq_eq_false_iff_ne, bne_eq_false_iff_eq, ne_eq, Decidable.not_not, aresF, resF, ressF, List.append_nil, List.nil_append, List.cons_append, *]; rfl)); (first | done | fail))) : p := h
theorem tSV {p : Prop} (h : p := by ((first | rfl | (simp (disch := omega) only [istep, evF_tmp, evF_cst, up_at, up_none, argF_zero, argF_succ, argF_nil, Nat.reduceEqDiff, w64, w32, wu8, wu64, Int.reduceLE, Int.reduceLT, Int.reduceAdd, Int.reduceSub, Int.reduceMul, Int.reduceNeg, Int.reduceToNat, Int.toNat_natCast, Int.reduceEq, Int.reduceNe, Nat.reduceLT, Nat.reduceLeDiff, Nat.reduceMul, Nat.reduceSub, Int.natCast_nonneg, bs_data, List.getElem?_cons_succ, List.getElem?_cons_zero, List.getElem?_nil, List.take_succ_cons, List.drop_succ_cons, List.take_zero, List.drop_zero, List.take_nil, List.drop_nil, reduceCtorEq, eq_self, not_false_eq_true, not_true_eq_false, and_true, true_and, and_false, false_and, or_true, true_or, or_false, false_or, if_true, if_false, reduceIte, Nat.reduceAdd, abin, intBin, aun, shiftBin, strBin, eqB, scells, AV.one, Value.oneCell', Option.map_some, Option.map_none, List.map_cons, List.map_nil, bnd, rd, bs_size, bs_data, bs_toList, bs_append, bs_extract, srcRows, fillA, wrL, List.length_cons, List.length_nil, decide_true, decide_false, decide_not, Bool.not_true, Bool.not_false, decide_eq_true_eq, Bool.false_eq_true, Bool.not_eq_true', beqT, beqF, decide_eq_false_iff_not, ge_iff_le, gt_iff_lt, Int.not_lt, Int.not_le, beq_iff_eq, bne_iff_ne, beq_eq_false_iff_ne, bne_eq_false_iff_eq, ne_eq, Decidable.not_not, aresF, resF, ressF, List.append_nil, List.nil_append, List.cons_append, *]; done)); (first | done | fail))) : p := h
end Go.Abs
/- A program logic over abstract states, 26: further moves of a run: bytes, parts of lists. -/
namespace Go.Abs
open Go Go.RowKit
set_option linter.unusedVariables false
set_option linter.unusedSimpArgs false
/-- The rows of bytes. -/
def brows (l : List UInt8) : List (List AV) := l.map fun b => [.v (.int .u8 (b.toNat : Int))]
theorem brows_len (l : List UInt8) : (brows l).length = l.length := by simp [brows]
theorem brows_get (l : List UInt8) (i : Nat) : (brows l)[i]? = (l[i]?).map fun b => [.v (.int .u8 (b.toNat : Int))] := by simp [brows]
theorem brows_app (l m : List UInt8) : brows (l ++ m) = brows l ++ brows m := by simp [brows]
theorem u8_of (b : UInt8) : UInt8.ofNat ((b.toNat : Int)).toNat = b := by simp
theorem bytes_brows : ∀ l : List UInt8, bytesOfCells (brows l).flatten = some l
  | [] => rfl
  | b :: l => by
    have ih := bytes_brows l
    simp only [brows, List.map_cons, List.flatten_cons, List.cons_append, List.nil_append, bytesOfCells] at ih ⊢
    rw [ih]
    simp
section
variable {σ : Fm} {h : AH}
theorem is_quo {q : EqK} {x y : Opd} {k : IntKind} {a b c : Int} (hx : evF σ x = .v (.int k a)) (hy : evF σ y = .v (.int k b)) (hb : ¬ b = 0) (hw : k.wrap (a.tdiv b) = c) : istep (.bin .quo q x y) (evF σ) h = some (.v (.int k c), h) := by
  simp [istep, hx, hy, abin, intBin, hw, hb]
theorem is_rem {q : EqK} {x y : Opd} {k : IntKind} {a b c : Int} (hx : evF σ x = .v (.int k a)) (hy : evF σ y = .v (.int k b)) (hb : ¬ b = 0) (hw : a.tmod b = c) : istep (.bin .rem q x y) (evF σ) h = some (.v (.int k c), h) := by
  simp [istep, hx, hy, abin, intBin, hw, hb]
theorem is_b2s {x : Opd} {a : AV} {rows : List (List AV)} {l : List UInt8} (hx : evF σ x = a) (hv : srcRows 1 h a = some rows) (hw : bytesOfCells rows.flatten = some l) : istep (.b2s x) (evF σ) h = some (.v (.string (bs l)), h) := by
  simp only [istep, hx, hv, hw]; rfl
theorem bnd_none {d top : Nat} : bnd (evF σ) none d top = some d := rfl
theorem bnd_some {o : Opd} {d top n : Nat} {k : IntKind} {i : Int} (hx : evF σ o = .v (.int k i)) (hb : 0 ≤ i ∧ i ≤ top) (hw : i.toNat = n) : bnd (evF σ) (some o) d top = some n := by
  simp only [bnd, hx, if_pos hb, hw]
theorem is_slL {sz : Nat} {x : Opd} {lo hi : Option Opd} {rows rows' : List (List AV)} {tok tok' : Tok} {a b : Nat} (hx : evF σ x = .list sz rows tok) (hh : bnd (evF σ) hi rows.length rows.length = some b) (hl : bnd (evF σ) lo 0 b = some a) (hw : (rows.drop a).take (b - a) = rows') (ht : (if b = rows.length then tok else .no) = tok') :
    istep (.slL sz x lo hi none) (evF σ) h = some (.list sz rows' tok', h) := by
  simp only [istep, hx, if_true, hh, hl, hw, ht]
theorem is_slS {x : Opd} {lo hi : Option Opd} {l l' : List UInt8} {a b n : Nat} (hx : evF σ x = .v (.string (bs l))) (hn : l.length = n) (hh : bnd (evF σ) hi n n = some b) (hl : bnd (evF σ) lo 0 b = some a) (hw : (l.take b).drop a = l') :
    istep (.slS x lo hi) (evF σ) h = some (.v (.string (bs l')), h) := by
  subst hn
  simp only [istep, hx, bs_size, hh, hl, bs_extract, hw]
end
theorem dopsF.cont {P : Program} {w0 : World} {σ : Fm} {h : AH} {cs : List IOper} {os : List (IOper × List IOper)} {Q : Fm → AH → Prop} (k : stabsF cs σ h) (k' : dopsF P w0 os Q σ h) : stabsF cs σ h ∧ dopsF P w0 os Q σ h := ⟨k, k'⟩
theorem tBD {p : Prop} (h : p := by ((first | with_reducible exact bnd_none | ((with_reducible apply bnd_some); (case hx => exact tEV); (case hb => exact tNB); (case hw => exact tLN))); (first | done | fail))) : p := h
theorem tBR {p : Prop} (h : p := by ((first | exact bytes_brows _ | ((simp only [List.flatten_cons, List.flatten_nil, List.append_nil, List.nil_append, List.cons_append, bytesOfCells, Option.map_some]); rfl)); (first | done | fail))) : p := h
theorem tTK {p : Prop} (h : p := by ((first | ((simp only [ite_self]); rfl) | ((simp (disch := omega) only [if_pos, if_neg, *]); rfl) | rfl); (first | done | fail))) : p := h
theorem tSL {p : Prop} (h : p := by ((first | ((simp only [List.drop_zero, Nat.sub_zero, List.take_length, *]); rfl) | rfl); (first | done | fail))) : p := h
theorem tHT {p : Prop} (h : p := by ((first | with_reducible exact is_newT | ((with_reducible apply is_quo); (case hx => exact tEV); (case hy => exact tEV); (case hb => exact tNB); (case hw => exact tAR)) | ((with_reducible apply is_rem); (case hx => exact tEV); (case hy => exact tEV); (case hb => exact tNB); (case hw => exact tAR)) | ((with_reducible apply is_slL); (case hx => exact tEV); (case hh => exact tBD); (case hl => exact tBD); (case hw => exact tSL); (case ht => exact tTK)) | ((with_reducible apply is_slS); (case hx => exact tEV); (case hn => exact tLN); (case hh => exact tBD); (case hl => exact tBD); (case hw => exact tSL)) | ((with_reducible apply is_b2s); (case hx => exact tEV); (case hv => rfl); (case hw => exact tBR))); (first | done | fail))) : p := h

end Go.Abs
/- Objects that are not written any more: their cells are cells that never turn. -/
namespace Go.Abs
open Go Go.RowKit
set_option linter.unusedVariables false
set_option linter.unusedSimpArgs false
section
variable {P : Program} {w0 : World} {Γ : Con} {h : AH} {w : World}
theorem WR.froze (H : WR w0 Γ h w) {id b : Nat} {cs : List AV} (ho : h.objs id = some (.cells cs)) (hb : Γ.rho id = some b) :
    ∃ f : Nat → Option Value, Γ.le (Γ.withRow b f) ∧ WR w0 (Γ.withRow b f) (h.drop id) w ∧ ∀ (j : Nat) (hj : j < cs.length), ∃ x, f j = some x ∧ x.oneCell' = true ∧ RV (Γ.withRow b f) cs[j] x := by
  obtain ⟨b', hb', hw0, ⟨vs, e, fr, hh, hl, hc⟩, hn⟩ := H.obj ho
  obtain rfl : b = b' := by rw [hb] at hb'; injection hb'
  have hle : Γ.le (Γ.withRow b fun o => if o < cs.length then vs[o]? else none) := by
    refine ⟨fun {k o x} hx => ?_, fun x => x, fun x => x⟩
    simp only [Con.withRow]
    rw [if_neg (by rintro rfl; rw [hn] at hx; cases hx)]
    exact hx
  have hsome : (h.objs id).isSome = true := by rw [ho]; rfl
  have hd : ∀ i, ((h.drop id).objs i).isSome = true → i ≠ id ∧ (h.objs i).isSome = true := by
    intro i hi
    simp only [AH.drop] at hi
    split at hi
    · cases hi
    · exact ⟨by assumption, hi⟩
  refine ⟨_, hle, ⟨H.below, ?_, ?_, ?_, H.rlt, ?_, H.tinj, H.tnew⟩, ?_⟩
  · intro k o x hx
    simp only [Con.withRow] at hx
    split at hx
    · rename_i hk
      subst hk
      split at hx
      · simp only [World.cell?, hh]
        exact hx
      · cases hx
    · exact H.fcell hx
  · intro i o hi
    have hi2 := hd i (by rw [hi]; rfl)
    have hi3 : h.objs i = some o := by
      simp only [AH.drop] at hi
      rw [if_neg hi2.1] at hi
      exact hi
    obtain ⟨k, h1, h2, h3, h4⟩ := H.obj hi3
    refine ⟨k, h1, h2, h3.mono hle, fun off => ?_⟩
    simp only [Con.withRow]
    rw [if_neg (by rintro rfl; exact hi2.1 (H.inj hi2.2 hsome h1 hb))]
    exact h4 off
  · intro i j k hi hj
    exact H.inj (hd i hi).2 (hd j hj).2
  · intro t T ht
    obtain ⟨h1, ⟨h2, vs', e', fr', h3, h4, h5⟩, h6⟩ := H.tok ht
    refine ⟨h1, ⟨h2, vs', e', fr', h3, h4, fun off a c => ?_⟩, fun i hi => h6 i (hd i hi).2⟩
    simp only [Con.withRow]
    rw [if_neg (by intro e; exact h6 id hsome (by rw [hb, e]))]
    exact h5 off a c
  · intro j hj
    have hj2 : j < vs.size := by omega
    refine ⟨vs[j], ?_, (hc j hj hj2).2.1, (hc j hj hj2).1.mono hle⟩
    rw [if_pos hj]
    simp [hj2]
/-- What a call returns is a row that it has laid and that is not written any more. -/
theorem Call.frz {f : FuncId} {args : List AV} {Q : AV → AH → Prop} (hc : Call P w0 f args h fun v h' => ∃ id cap cs rest, v = .row id 0 cs.length cap ∧ h'.objs id = some (.cells (cs ++ rest)) ∧ (∀ c ∈ cs, c.one = true) ∧ Q (.list 1 (cs.map fun c => [c]) .no) (h'.drop id)) : Call P w0 f args h Q := by
  refine ⟨hc.1, fun Γ w vs H hv => (hc.2 Γ w vs H hv).mono fun e w' hp => ?_⟩
  obtain ⟨x, Γ', v, h', rfl, hle, hx, H', id, cap, cs, rest, rfl, ho, h1, hQ⟩ := hp
  obtain ⟨b, c, hb, rfl, hlc, hcc⟩ := hx.inv_row
  obtain ⟨f, hle2, H2, hf⟩ := H'.froze ho hb
  refine ⟨_, _, _, _, rfl, hle.trans hle2, ?_, H2, hQ⟩
  have hl : (cs.map fun c => [c]).length = cs.length := by simp
  have hat : ∀ j, j < cs.length → ∃ x, f j = some x ∧ x.oneCell' = true ∧ ∃ hj : j < (cs ++ rest).length, RV (Γ'.withRow b f) (cs ++ rest)[j] x := fun j hj => by
    have hj2 : j < (cs ++ rest).length := by simp; omega
    obtain ⟨x, a1, a2, a3⟩ := hf j hj2
    exact ⟨x, a1, a2, hj2, a3⟩
  have key : ∀ i, i < cs.length → f i = some ((f i).getD undef) ∧ ((f i).getD undef).oneCell' = true := fun i hi => by
    obtain ⟨x, a1, a2, _⟩ := hat i hi
    rw [a1]
    exact ⟨rfl, a2⟩
  rw [← hl]
  refine .list (u := fun i _ => (f i).getD undef) (by omega) (fun i hi => by simp) (fun i hi j hj => ?_) (fun i hi j hj => ?_) (fun i hi j hj => ?_) trivial
  · obtain rfl : j = 0 := by omega
    simp only [Con.withRow, if_true, Nat.zero_add, Nat.mul_one, Nat.add_zero]
    exact (key i (by omega)).1
  · exact (key i (by omega)).2
  · have hi2 : i < cs.length := by omega
    obtain ⟨x, a1, a2, hj2, a3⟩ := hat i hi2
    simp only [List.getElem_map, List.length_cons, List.length_nil] at hj ⊢
    obtain rfl : j = 0 := by omega
    rw [List.getElem_append_left hi2] at a3
    simp only [List.getElem_cons_zero, a1, Option.getD_some]
    exact a3
theorem Ext.drop {h h' : AH} (e : Ext h h') {id : Nat} (hi : h.n ≤ id) : Ext h (h'.drop id) :=
  ⟨e.n, e.nt, fun i hl => by
    simp only [AH.drop]
    rw [if_neg (by omega)]
    exact e.objs i hl, e.ver⟩
end
end Go.Abs
/- A program logic over abstract states, 27: what a call has laid and nobody can reach is forgotten. -/
namespace Go.Abs
open Go Go.RowKit
set_option linter.unusedVariables false
set_option linter.unusedSimpArgs false
def Tok.plain : Tok → Prop
  | .own _ _ => False
  | _ => True
/-- Values that name no object and no token. -/
inductive Plain : AV → Prop
  | v (x : Value) : Plain (.v x)
  | list {sz : Nat} {rows : List (List AV)} {tok : Tok} (ht : tok.plain) (h : ∀ (i : Nat) (hi : i < rows.length) (j : Nat) (hj : j < rows[i].length), Plain rows[i][j]) : Plain (.list sz rows tok)
  | lptr {cells : List AV} {off : Nat} (h : ∀ (j : Nat) (hj : j < cells.length), Plain cells[j]) : Plain (.lptr cells off)
  | func {fn : Fn} {first caps : List AV} (h : ∀ (j : Nat) (hj : j < first.length), Plain first[j]) (h' : ∀ (j : Nat) (hj : j < caps.length), Plain caps[j]) : Plain (.func fn first caps)
  | iface {t : TypeId} {x : AV} (h : Plain x) : Plain (.iface t x)
  | agg {cells : List AV} (h : ∀ (j : Nat) (hj : j < cells.length), Plain cells[j]) : Plain (.agg cells)
  | tup {xs : List AV} (h : ∀ (j : Nat) (hj : j < xs.length), Plain xs[j]) : Plain (.tup xs)
theorem Plain.listv {sz : Nat} {rows : List (List AV)} {tok : Tok} (ht : tok.plain) (h : ∀ r ∈ rows, ∀ x ∈ r, Plain x) : Plain (.list sz rows tok) := .list ht fun i hi j hj => h _ (List.getElem_mem hi) _ (List.getElem_mem hj)
def Con.cut (Γ : Con) (n nt : Nat) : Con := { F := Γ.F, rho := fun i => if i < n then Γ.rho i else none, tau := fun t v => if t < nt then Γ.tau t v else none }
theorem Plain.cut {Γ : Con} {a : AV} (hp : Plain a) (n nt : Nat) : ∀ {x : Value}, RV Γ a x → RV (Γ.cut n nt) a x := by
  induction hp with
  | v y => intro x hx; cases hx; exact .v _
  | list ht h ih =>
    intro x hx
    cases hx with
    | nilf => exact .nilf
    | niln => exact .niln
    | list hc hsz hF h1 hr hto =>
      refine .list hc hsz hF h1 (fun i hi j hj => ih i hi j hj (hr i hi j hj)) ?_
      rename_i tok _ _ _ _
      cases tok with
      | no => trivial
      | full => exact hto
      | own t v => exact ht.elim
  | lptr h ih =>
    intro x hx
    cases hx with
    | lptr hF h1 hr => exact .lptr hF h1 fun j hj => ih j hj (hr j hj)
  | func h h' ih ih' =>
    intro x hx
    cases hx with
    | func h1 h2 hf hc => exact .func h1 h2 (fun i a b => ih i a (hf i a b)) (fun i a b => ih' i a (hc i a b))
  | iface h ih =>
    intro x hx
    cases hx with
    | iface h => exact .iface (ih h)
  | agg h ih =>
    intro x hx
    cases hx with
    | agg hs h1 hr => exact .agg hs h1 fun i a b => ih i a (hr i a b)
  | tup h ih =>
    intro x hx
    cases hx with
    | tup hs hr => exact .tup hs fun i a b => ih i a (hr i a b)
/-- What was there names only what was there. -/
theorem RV.cut {Γ Γ' : Con} {n nt : Nat} (hn : ∀ {i b}, Γ.rho i = some b → i < n) (ht : ∀ {t v T}, Γ.tau t v = some T → t < nt) {a : AV} {x : Value} (h : RV Γ a x) : ∀ {y : Value}, RV Γ' a y → RV (Γ'.cut n nt) a y := by
  have tok : ∀ {tok : Tok} {b o m c sz b' o' m' c' sz' : Nat}, TokOk Γ tok b o m c sz → TokOk Γ' tok b' o' m' c' sz' → TokOk (Γ'.cut n nt) tok b' o' m' c' sz' := by
    intro tok b o m c sz b' o' m' c' sz' h1 h2
    cases tok with
    | no => trivial
    | full => exact h2
    | own t v =>
      obtain ⟨T, hT, _⟩ := h1
      obtain ⟨T', hT', h3⟩ := h2
      exact ⟨T', by simp only [Con.cut]; rw [if_pos (ht hT)]; exact hT', h3⟩
  have rho : ∀ {i b b'}, Γ.rho i = some b → Γ'.rho i = some b' → (Γ'.cut n nt).rho i = some b' := fun h1 h2 => by
    simp only [Con.cut]; rw [if_pos (hn h1)]; exact h2
  induction h with
  | v x => intro y hy; cases hy; exact .v _
  | nilf =>
    intro y hy
    cases hy with
    | nilf => exact .nilf
    | list hc hsz hF h1 hr hto => exact .list hc hsz hF h1 (fun i hi => by simp at hi) hto
  | niln =>
    intro y hy
    cases hy with
    | niln => exact .niln
    | list hc hsz hF h1 hr hto => exact .list hc hsz hF h1 (fun i hi => by simp at hi) trivial
  | list hc hsz hF h1 hr hto ih =>
    intro y hy
    cases hy with
    | nilf => exact .nilf
    | niln => exact .niln
    | list hc' hsz' hF' h1' hr' hto' => exact .list hc' hsz' hF' h1' (fun i hi j hj => ih i hi j hj (hr' i hi j hj)) (tok hto hto')
  | row h hlc hc =>
    intro y hy
    cases hy with
    | row h' hlc' hc' => exact .row (rho h h') hlc' hc'
  | ptr h =>
    intro y hy
    cases hy with
    | ptr h' => exact .ptr (rho h h')
  | lptr hF h1 hr ih =>
    intro y hy
    generalize hz : AV.lptr _ _ = z at hy
    cases hy <;> cases hz
    rename_i hF' h1' hr'
    exact .lptr hF' h1' fun j hj => ih j hj (hr' j hj)
  | mapr h =>
    intro y hy
    cases hy with
    | mapr h' => exact .mapr (rho h h')
  | func h1 h2 hf hc ih1 ih2 =>
    intro y hy
    cases hy with
    | func h1' h2' hf' hc' => exact .func h1' h2' (fun i a b => ih1 i a (by omega) (hf' i a b)) (fun i a b => ih2 i a (by omega) (hc' i a b))
  | iface h ih =>
    intro y hy
    cases hy with
    | iface h' => exact .iface (ih h')
  | agg hs h1 hr ih =>
    intro y hy
    cases hy with
    | agg hs' h1' hr' => exact .agg hs' h1' fun i a b => ih i a (by omega) (hr' i a b)
  | tup hs hr ih =>
    intro y hy
    cases hy with
    | tup hs' hr' => exact .tup hs' fun i a b => ih i a (by omega) (hr' i a b)
theorem ObjAt.cut {Γ Γ' : Con} {n nt : Nat} (hn : ∀ {i b}, Γ.rho i = some b → i < n) (ht : ∀ {t v T}, Γ.tau t v = some T → t < nt) {w w' : World} {b b' : Nat} {o : AObj} (h : ObjAt Γ w b o) (h' : ObjAt Γ' w' b' o) : ObjAt (Γ'.cut n nt) w' b' o := by
  cases o with
  | cells cs =>
    obtain ⟨vs, e, fr, h1, h2, h3⟩ := h
    obtain ⟨vs', e', fr', h1', h2', h3'⟩ := h'
    exact ⟨vs', e', fr', h1', h2', fun i a c => ⟨RV.cut hn ht (h3 i a (by omega)).1 (h3' i a c).1, (h3' i a c).2⟩⟩
  | map es =>
    obtain ⟨ms, c, h1, h2, h3⟩ := h
    obtain ⟨ms', c', h1', h2', h3'⟩ := h'
    exact ⟨ms', c', h1', h2', fun i a d => ⟨(h3' i a d).1, RV.cut hn ht (h3 i a (by omega)).2 (h3' i a d).2⟩⟩
  | siter s pos => exact h'
  | bld T o k cap =>
    obtain ⟨p, v, fr, _, _, _, _, h5⟩ := h
    obtain ⟨p', v', fr', h1', h2', h3', h4', h5'⟩ := h'
    refine ⟨p', v', fr', h1', h2', h3', h4', ?_⟩
    rcases h5' with h5' | ⟨i, g, h6, h7, h8⟩
    · exact .inl h5'
    · refine .inr ⟨i, g, h6, ?_, h8⟩
      rcases h5 with ⟨h5, _⟩ | ⟨i2, g2, h62, h72, _⟩
      · rw [h5] at h6; cases h6
      · rw [h6] at h62
        cases h62
        simp only [Con.cut]; rw [if_pos (hn h72)]; exact h7
  | buf e l cap => exact h'
  | lp l R st pend fr =>
    obtain ⟨_, t, d, h1, h2, h3⟩ := h
    obtain ⟨h0', t', d', h1', h2', h3'⟩ := h'
    exact ⟨h0', t', d', h1', h2', fun i a c => RV.cut hn ht (h3 i a (by omega)) (h3' i a c)⟩
  | dfr bd => exact h'
/-- What has been laid since is forgotten. -/
theorem WR.gc {w0 : World} {Γ Γ' : Con} {h h' : AH} {w w' : World} (H : WR w0 Γ h w) (hle : Γ.le Γ') (H' : WR w0 Γ' h' w') (e : Ext h h') : Γ.le (Γ'.cut h.n h.nt) ∧ WR w0 (Γ'.cut h.n h.nt) h w' := by
  have hn : ∀ {i b}, Γ.rho i = some b → i < h.n := fun x => (H.rlt x).1
  have ht : ∀ {t v T}, Γ.tau t v = some T → t < h.nt := fun x => (H.tnew x).1
  have hob : ∀ {i}, (h.objs i).isSome → h'.objs i = h.objs i := fun hi => e.objs _ (H.olt hi)
  have cr : ∀ {i b}, (Γ'.cut h.n h.nt).rho i = some b → i < h.n ∧ Γ'.rho i = some b := fun {i b} hi => by
    simp only [Con.cut] at hi
    split at hi
    · exact ⟨by assumption, hi⟩
    · cases hi
  have ct : ∀ {t v T}, (Γ'.cut h.n h.nt).tau t v = some T → t < h.nt ∧ Γ'.tau t v = some T := fun {t v T} hi => by
    simp only [Con.cut] at hi
    split at hi
    · exact ⟨by assumption, hi⟩
    · cases hi
  refine ⟨⟨fun hx => hle.F hx, fun hx => ?_, fun hx => ?_⟩, H'.below, fun hx => H'.fcell hx, ?_, ?_, ?_, ?_, ?_, ?_⟩
  · simp only [Con.cut]; rw [if_pos (hn hx)]; exact hle.rho hx
  · simp only [Con.cut]; rw [if_pos (ht hx)]; exact hle.tau hx
  · intro i o ho
    obtain ⟨b, h1, h2, h3, h4⟩ := H.obj ho
    obtain ⟨b', h1', h2', h3', h4'⟩ := H'.obj ((hob (by rw [ho]; rfl)).trans ho)
    refine ⟨b', ?_, h2', ObjAt.cut hn ht h3 h3', h4'⟩
    simp only [Con.cut]; rw [if_pos (hn h1)]; exact h1'
  · intro i j b hi hj hbi hbj
    exact H'.inj (by rw [hob hi]; exact hi) (by rw [hob hj]; exact hj) (cr hbi).2 (cr hbj).2
  · intro i b hi
    exact ⟨(cr hi).1, (H'.rlt (cr hi).2).2⟩
  · intro t T hT
    obtain ⟨hlt, hT'⟩ := ct hT
    rw [← e.ver t hlt] at hT'
    obtain ⟨h1, h2, h3⟩ := H'.tok hT'
    refine ⟨h1, h2, fun i hi hb => h3 i (by rw [hob hi]; exact hi) (cr hb).2⟩
  · intro t t' T T' hT hT' he
    obtain ⟨hl1, h1⟩ := ct hT
    obtain ⟨hl2, h2⟩ := ct hT'
    rw [← e.ver t hl1] at h1
    rw [← e.ver t' hl2] at h2
    exact H'.tinj h1 h2 he
  · intro t v T hT
    obtain ⟨hlt, hT'⟩ := ct hT
    refine ⟨hlt, ?_⟩
    rw [← e.ver t hlt]
    exact (H'.tnew hT').2
/-- A call that gives a plain value and changes nothing that was there leaves the heap as it is. -/
theorem Call.gc {P : Program} {w0 : World} {f : FuncId} {args : List AV} {h : AH} {Q : AV → AH → Prop} {Q' : AV → Prop} (hc : Call P w0 f args h Q) (hq : ∀ v h', Q v h' → Plain v ∧ Ext h h' ∧ Q' v) : Call P w0 f args h fun v h' => Q' v ∧ h' = h :=
  ⟨hc.1, fun Γ w vs H hv => (hc.2 Γ w vs H hv).mono fun e w' ⟨x, Γ', v, h', h1, h2, h3, h4, h5⟩ => by
    obtain ⟨hp, he, hk⟩ := hq v h' h5
    obtain ⟨hle, HW⟩ := H.gc h2 h4 he
    exact ⟨x, _, v, h, h1, hle, hp.cut _ _ h3, HW, hk, rfl⟩⟩
/-- A contract of a value, used. -/
theorem Call.use {P : Program} {w0 : World} {f : FuncId} {args : List AV} {h : AH} {v : AV} {K : AV → AH → Prop} (hc : Call P w0 f args h fun u h' => u = v ∧ h' = h) (k : K v h) : Call P w0 f args h K :=
  hc.mono fun u h' hh => by obtain ⟨rfl, rfl⟩ := hh; exact k
end Go.Abs
/- A program logic over abstract states, 31: several lists that may be appended to; what a call leaves as it was. -/
namespace Go.Abs
open Go Go.RowKit
set_option linter.unusedVariables false
/-- Lists that may be appended to, each by itself. -/
structure Toks (h : AH) (ts : List Tok) : Prop where
  u : ∀ t ∈ ts, TokU h t
  d : ts.Pairwise fun a b => ∀ x, a.owner = some x → ¬ b.owner = some x
theorem Toks.nil (h : AH) : Toks h [] := ⟨fun t ht => absurd ht List.not_mem_nil, .nil⟩
theorem Toks.tail {h : AH} {t : Tok} {R : List Tok} (k : Toks h (t :: R)) : Toks h R := ⟨fun s hs => k.u s (by simp [hs]), (List.pairwise_cons.1 k.d).2⟩
theorem Toks.full {h : AH} {R : List Tok} (k : Toks h R) : Toks h (.full :: R) := ⟨fun s hs => by
  rcases List.mem_cons.1 hs with rfl | hs
  · trivial
  · exact k.u s hs, List.pairwise_cons.2 ⟨(fun b hb x hx => by cases hx), k.d⟩⟩
theorem Toks.full1 {h : AH} {t : Tok} {R : List Tok} (k : Toks h (t :: R)) : Toks h (.full :: R) := k.tail.full
theorem Toks.perm {h : AH} {a b : List Tok} (k : Toks h a) (p : a.Perm b) : Toks h b :=
  ⟨fun t ht => k.u t (p.mem_iff.2 ht), (p.pairwise_iff (fun {x y} hxy z hz hy => hxy z hy hz)).1 k.d⟩
theorem Toks.swap {h : AH} {s t : Tok} {R : List Tok} (k : Toks h (s :: t :: R)) : Toks h (t :: s :: R) := k.perm (.swap t s R)
theorem Toks.ext {h h' : AH} (e : Ext h h') {a : List Tok} (k : Toks h a) : Toks h' a := ⟨fun t ht => (k.u t ht).ext e, k.d⟩
theorem Toks.set {h : AH} {i : Nat} {o : AObj} {a : List Tok} (k : Toks h a) : Toks (h.set i o) a := ⟨fun t ht => (k.u t ht).set, k.d⟩
theorem Toks.alloc {h : AH} {o : AObj} {a : List Tok} (k : Toks h a) : Toks (h.alloc o) a := k.ext (Ext.alloc _ _)
/-- What is as it was: all but some objects. -/
structure Fr (I : List Nat) (h h' : AH) : Prop where
  n : h.n ≤ h'.n
  nt : h.nt ≤ h'.nt
  o : ∀ i, i < h.n → ¬ i ∈ I → h'.objs i = h.objs i
theorem Fr.refl (I : List Nat) (h : AH) : Fr I h h := ⟨Nat.le_refl _, Nat.le_refl _, fun _ _ _ => rfl⟩
theorem Fr.ext {I : List Nat} {h h' : AH} (e : Ext h h') : Fr I h h' := ⟨e.n, e.nt, fun i hi _ => e.objs i hi⟩
theorem Fr.trans {I : List Nat} {a b c : AH} (h : Fr I a b) (k : Fr I b c) : Fr I a c :=
  ⟨Nat.le_trans h.n k.n, Nat.le_trans h.nt k.nt, fun i hi hn => (k.o i (Nat.lt_of_lt_of_le hi h.n) hn).trans (h.o i hi hn)⟩
theorem Fr.mono {I J : List Nat} {a b : AH} (h : Fr I a b) (k : ∀ i ∈ I, i ∈ J) : Fr J a b := ⟨h.n, h.nt, fun i hi hn => h.o i hi fun x => hn (k i x)⟩
theorem Fr.set {I : List Nat} {h h' : AH} (e : Fr I h h') {i : Nat} (hi : i ∈ I ∨ h.n ≤ i) (o : AObj) : Fr I h (h'.set i o) := ⟨e.n, e.nt, fun j hj hn => by
  rw [set_at, if_neg (by rintro rfl; rcases hi with hi | hi; exact hn hi; omega)]
  exact e.o j hj hn⟩
theorem Fr.alloc {I : List Nat} {h h' : AH} (e : Fr I h h') (o : AObj) : Fr I h (h'.alloc o) := e.trans (.ext (Ext.alloc _ _))
/-- An append to the first of them. -/
theorem Toks.app {h : AH} {t : Tok} {R : List Tok} (k : Toks h (t :: R)) : ∃ t' h', appTok h t = some (t', h') ∧ Toks h' (t' :: R) ∧ h'.objs = h.objs ∧ h'.n = h.n ∧ h.nt ≤ h'.nt := by
  obtain ⟨t', h', h1, h2, h3, h4, h5, h6⟩ := (k.u t (by simp)).app
  have hp := List.pairwise_cons.1 k.d
  refine ⟨t', h', h1, ⟨fun s hs => ?_, List.pairwise_cons.2 ⟨fun b hb x hx hb2 => ?_, hp.2⟩⟩, h4, h5, h6.nt⟩
  · rcases List.mem_cons.1 hs with rfl | hs
    · exact h2
    · have hu := k.u s (by simp [hs])
      cases s with
      | no => exact hu
      | full => trivial
      | own y v => exact ⟨hu.1.trans (h6.ver y hu.2 fun hy => hp.1 _ hs y hy rfl).symm, Nat.lt_of_lt_of_le hu.2 h6.nt⟩
  · rcases h3 x hx with hy | hy
    · exact hp.1 b hb x hy hb2
    · have hu := k.u b (by simp [hb])
      cases b with
      | no => cases hb2
      | full => cases hb2
      | own y v => cases hb2; have := hu.2; omega
/-- A token of a list that is new or was the list's own, in the first one's place. -/
theorem Toks.step {I : Nat → Prop} {h h' : AH} {t t' : Tok} {R : List Tok} (k : Toks h (t :: R)) (hu : TokU h' t') (hn : TokN h t t') (he : ExtX I (fun x => t.owner = some x) h h') : Toks h' (t' :: R) := by
  have hp := List.pairwise_cons.1 k.d
  refine ⟨fun s hs => ?_, List.pairwise_cons.2 ⟨fun b hb x hx hb2 => ?_, hp.2⟩⟩
  · rcases List.mem_cons.1 hs with rfl | hs
    · exact hu
    · have hu := k.u s (by simp [hs])
      cases s with
      | no => exact hu
      | full => trivial
      | own y v => exact ⟨hu.1.trans (he.ver y hu.2 fun hy => hp.1 _ hs y hy rfl).symm, Nat.lt_of_lt_of_le hu.2 he.nt⟩
  · rcases hn x hx with hy | hy
    · exact hp.1 b hb x hy hb2
    · have hu := k.u b (by simp [hb])
      cases b with
      | no => cases hb2
      | full => cases hb2
      | own y v => cases hb2; have := hu.2; omega
theorem Fr.app {I : List Nat} {h h' h2 : AH} (e : Fr I h h') (h4 : h2.objs = h'.objs) (h5 : h2.n = h'.n) (h6 : h'.nt ≤ h2.nt) : Fr I h h2 := ⟨by rw [h5]; exact e.n, Nat.le_trans e.nt h6, fun i hi hn => by rw [h4]; exact e.o i hi hn⟩
end Go.Abs
/- A program logic over abstract states, 28: what is known may be forgotten. -/
namespace Go.Abs
open Go Go.RowKit
set_option linter.unusedVariables false
set_option linter.unusedSimpArgs false
/-- Whatever the first stands for the second stands for. -/
def AV.le (a b : AV) : Prop := ∀ (Γ : Con) (x : Value), RV Γ a x → RV Γ b x
theorem AV.le.refl (a : AV) : a.le a := fun _ _ h => h
theorem AV.le.trans {a b c : AV} (h : a.le b) (k : b.le c) : a.le c := fun Γ x hx => k Γ x (h Γ x hx)
/-- Cells, one by one. -/
structure CLe (as bs : List AV) : Prop where
  len : as.length = bs.length
  at_ : ∀ (i : Nat) (h : i < as.length) (h' : i < bs.length), (as[i]).le bs[i]
theorem CLe.nil : CLe [] [] := ⟨rfl, fun i h => by simp at h⟩
theorem CLe.cons {a b : AV} {as bs : List AV} (h : a.le b) (k : CLe as bs) : CLe (a :: as) (b :: bs) := ⟨by simp [k.len], fun i hi hi' => by
  cases i with
  | zero => exact h
  | succ i => exact k.at_ i (by simpa using hi) (by simpa using hi')⟩
theorem CLe.refl (as : List AV) : CLe as as := ⟨rfl, fun _ _ _ => .refl _⟩
theorem CLe.one {a b : AV} (h : a.le b) : CLe [a] [b] := .cons h .nil
theorem AV.le.list {sz : Nat} {rows rows' : List (List AV)} {tok : Tok} (hl : rows.length = rows'.length) (h : ∀ (i : Nat) (hi : i < rows.length) (hi' : i < rows'.length), CLe rows[i] rows'[i]) : (AV.list sz rows tok).le (.list sz rows' tok) := by
  intro Γ x hx
  cases hx with
  | nilf =>
    have : rows' = [] := List.eq_nil_of_length_eq_zero (by simpa using hl.symm)
    subst this; exact .nilf
  | niln =>
    have : rows' = [] := List.eq_nil_of_length_eq_zero (by simpa using hl.symm)
    subst this; exact .niln
  | list hc hsz hF h1 hr ht =>
    rw [hl]
    refine .list (by omega) (fun i hi => by rw [← (h i (by omega) hi).len]; exact hsz i _) (fun i hi => hF i (by omega)) (fun i hi => h1 i (by omega)) (fun i hi j hj => ?_) (by rw [← hl]; exact ht)
    have := (h i (by omega) hi).len
    exact (h i (by omega) hi).at_ j (by omega) hj _ _ (hr i (by omega) j (by omega))
theorem AV.le.noTok {sz : Nat} {rows : List (List AV)} {tok : Tok} : (AV.list sz rows tok).le (.list sz rows .no) := by
  intro Γ x hx
  cases hx with
  | nilf => exact .niln
  | niln => exact .niln
  | list hc hsz hF h1 hr ht => exact .list hc hsz hF h1 hr trivial
theorem AV.le.agg {as bs : List AV} (h : CLe as bs) : (AV.agg as).le (.agg bs) := by
  intro Γ x hx
  cases hx with
  | agg hs h1 hr => exact .agg (by rw [hs, h.len]) h1 fun i hi hi' => h.at_ i (by rw [h.len]; exact hi) hi _ _ (hr i (by rw [h.len]; exact hi) hi')
theorem AV.le.tup {as bs : List AV} (h : CLe as bs) : (AV.tup as).le (.tup bs) := by
  intro Γ x hx
  cases hx with
  | tup hs hr => exact .tup (by rw [hs, h.len]) fun i hi hi' => h.at_ i (by rw [h.len]; exact hi) hi _ _ (hr i (by rw [h.len]; exact hi) hi')
/-- An abstract heap of which less is known. -/
def AH.le (h h' : AH) : Prop := ∀ (w0 : World) (Γ : Con) (w : World), WR w0 Γ h w → WR w0 Γ h' w
theorem AH.le.refl (h : AH) : h.le h := fun _ _ _ H => H
theorem AH.le.trans {a b c : AH} (h : a.le b) (k : b.le c) : a.le c := fun w0 Γ w H => k w0 Γ w (h w0 Γ w H)
theorem AH.le.drop (h : AH) (id : Nat) : h.le (h.drop id) := by
  intro w0 Γ w H
  have hd : ∀ {i o}, (h.drop id).objs i = some o → h.objs i = some o := by
    intro i o hi
    simp only [AH.drop] at hi
    split at hi
    · cases hi
    · exact hi
  have hs : ∀ {i}, ((h.drop id).objs i).isSome → (h.objs i).isSome := fun hi => by
    obtain ⟨o, ho⟩ := Option.isSome_iff_exists.1 hi
    rw [hd ho]; rfl
  refine ⟨H.below, H.fcell, fun hi => H.obj (hd hi), fun hi hj => H.inj (hs hi) (hs hj), H.rlt, fun hT => ?_, H.tinj, H.tnew⟩
  obtain ⟨h1, h2, h3⟩ := H.tok hT
  exact ⟨h1, h2, fun i hi => h3 i (hs hi)⟩
theorem AH.le.cells {h : AH} {id : Nat} {cs cs' : List AV} (ho : h.objs id = some (.cells cs)) (hc : CLe cs cs') : h.le (h.set id (.cells cs')) := by
  intro w0 Γ w H
  have hs : ∀ {i}, ((h.set id (.cells cs')).objs i).isSome → (h.objs i).isSome := by
    intro i hi
    simp only [AH.set] at hi
    split at hi
    · rename_i e; rw [e, ho]; rfl
    · exact hi
  refine ⟨H.below, H.fcell, fun {i o} hi => ?_, fun hi hj => H.inj (hs hi) (hs hj), H.rlt, fun hT => ?_, H.tinj, H.tnew⟩
  · simp only [AH.set] at hi
    split at hi
    · rename_i e
      injection hi with hi
      subst hi; subst e
      obtain ⟨b, h1, h2, ⟨vs, el, fr, h3, h4, h5⟩, h6⟩ := H.obj ho
      exact ⟨b, h1, h2, ⟨vs, el, fr, h3, by rw [← hc.len]; exact h4, fun k hk hk' => ⟨hc.at_ k (by rw [hc.len]; exact hk) hk _ _ (h5 k (by rw [hc.len]; exact hk) hk').1, (h5 k (by rw [hc.len]; exact hk) hk').2⟩⟩, h6⟩
    · exact H.obj hi
  · obtain ⟨h1, h2, h3⟩ := H.tok hT
    exact ⟨h1, h2, fun i hi => h3 i (hs hi)⟩
/-- A contract of which less is told. -/
theorem Call.weak {P : Program} {w0 : World} {f : FuncId} {args : List AV} {h : AH} {Q Q' : AV → AH → Prop} (hc : Call P w0 f args h Q) (hq : ∀ v h', Q v h' → ∃ v2 h2, v.le v2 ∧ h'.le h2 ∧ Q' v2 h2) : Call P w0 f args h Q' :=
  ⟨hc.1, fun Γ w vs H hv => (hc.2 Γ w vs H hv).mono fun e w' ⟨x, Γ', v, h', h1, h2, h3, h4, h5⟩ => by
    obtain ⟨v2, h2', hv2, hh2, hk⟩ := hq v h' h5
    exact ⟨x, Γ', v2, h2', h1, h2, hv2 _ _ h3, hh2 _ _ _ h4, hk⟩⟩
/-- A contract used where more is known. -/
theorem Call.args {P : Program} {w0 : World} {f : FuncId} {args args' : List AV} {h : AH} {Q : AV → AH → Prop} (hc : Call P w0 f args' h Q) (ha : CLe args args') : Call P w0 f args h Q :=
  ⟨hc.1, fun Γ w vs H hv => hc.2 Γ w vs H ⟨by rw [← ha.len]; exact hv.len, fun i hi hi' => ha.at_ i (by rw [ha.len]; exact hi) hi _ _ (hv.at_ i (by rw [ha.len]; exact hi) hi')⟩⟩
end Go.Abs
/- Lists of bytes that are appended to. -/
namespace Go.Abs.F
open Go Go.Abs
set_option maxRecDepth 10000
set_option maxHeartbeats 20000000
set_option linter.unusedSimpArgs false
set_option linter.unusedVariables false
variable {w0 : World}
def bcel (l : List UInt8) : List AV := l.map fun b => .v (.int .u8 (b.toNat : Int))
theorem bcel_len (l : List UInt8) : (bcel l).length = l.length := by simp [bcel]
theorem brows_flat (l : List UInt8) : (brows l).flatten = bcel l := by
  induction l with
  | nil => rfl
  | cons x l ih =>
    show [AV.v (.int .u8 (x.toNat : Int))] ++ (brows l).flatten = _
    rw [ih]; rfl
theorem is_appB {σ : Fm} {h h2 : AH} {x y : Opd} {L S : List UInt8} {tk tk1 tok : Tok} (hx : evF σ x = .list 1 (brows L) tk) (hy : evF σ y = .list 1 (brows S) tok) (hS : S ≠ []) (ht : appTok h tk = some (tk1, h2)) (hl : L.length + S.length ≤ 100000000000) :
    istep (.app 1 1 x y) (evF σ) h = some (.list 1 (brows (L ++ S)) tk1, h2) := by
  cases S with
  | nil => exact absurd rfl hS
  | cons c r =>
    refine is_app (r := [.v (.int .u8 (c.toNat : Int))]) (new := brows r) hx hy rfl ht ?_ (by rw [brows_app]; rfl)
    rw [brows_len, brows_len]
    simp at hl
    omega
end Go.Abs.F
/- A program logic over abstract states, 30: what holds of more; a cut between two parts of a code. -/
namespace Go.Abs
open Go Go.RowKit
set_option linter.unusedVariables false
section
variable {P : Program} {w0 : World} {n : Nat}
theorem opF_mono {op : IOp} {σ : Fm} {h : AH} {K K' : AV → AH → Prop} (hK : ∀ v h', K v h' → K' v h') (hv : opF P w0 op σ h K) : opF P w0 op σ h K' := by
  cases op with
  | call f xs => exact Call.mono hv hK
  | callv x xs =>
    simp only [opF] at hv ⊢
    split at hv
    · rename_i heq; exact hv.mono hK
    · exact Yld.mono hK hv
    · exact hv.elim
  | app sz eb x y =>
    simp only [opF] at hv ⊢
    split at hv
    · exact hv.mono hK
    · split at hv
      · exact hK _ _ hv
      · exact hv.elim
  | _ =>
    simp only [opF] at hv ⊢
    split at hv
    · exact hK _ _ hv
    · exact hv.elim
theorem opsF_mono : ∀ {os : List IOper} {Q Q' : Fm → AH → Prop} {σ : Fm} {h : AH}, (∀ σ h, Q σ h → Q' σ h) → opsF P w0 os Q σ h → opsF P w0 os Q' σ h
  | [], Q, Q', σ, h, hQ, hv => hQ _ _ hv
  | o :: os, Q, Q', σ, h, hQ, hv => by
    simp only [opsF] at hv ⊢
    split at hv
    · rename_i hw; rw [if_pos hw]; exact opF_mono (fun v h' hk => opsF_mono hQ hk) hv
    · rename_i hw; rw [if_neg hw]; exact opsF_mono hQ hv
theorem dopsF_mono : ∀ {os : List (IOper × List IOper)} {Q Q' : Fm → AH → Prop} {σ : Fm} {h : AH}, (∀ σ h, Q σ h → Q' σ h) → dopsF P w0 os Q σ h → dopsF P w0 os Q' σ h
  | [], Q, Q', σ, h, hQ, hv => hQ _ _ hv
  | (o, cs) :: os, Q, Q', σ, h, hQ, hv => by
    simp only [dopsF] at hv ⊢
    split at hv
    · rename_i hw; rw [if_pos hw]; exact opF_mono (fun v h' hk => ⟨hk.1, dopsF_mono hQ hk.2⟩) hv
    · rename_i hw; rw [if_neg hw]; exact dopsF_mono hQ hv
theorem dallF_mono : ∀ {ls : List (List (IOper × List IOper))} {Q Q' : Fm → AH → Prop} {σ : Fm} {h : AH}, (∀ σ h, Q σ h → Q' σ h) → dallF P w0 ls Q σ h → dallF P w0 ls Q' σ h
  | [], _, _, _, _, _, _ => trivial
  | l :: ls, Q, Q', σ, h, hQ, hv => ⟨dopsF_mono hQ hv.1, dallF_mono hQ hv.2⟩
theorem LpF_mono {b : IC} {Q Q' : AExit → Fm → AH → Prop} (hQ : ∀ e σ h, Q e σ h → Q' e σ h) {σ : Fm} {h : AH} (hl : LpF P w0 n b Q σ h) : LpF P w0 n b Q' σ h := fun fr h1 h2 =>
  Lp.mono (fun e fr h hh => ⟨hh.1, hQ _ _ _ hh.2⟩) (hl fr h1 h2)
theorem vcF_mono : ∀ {ic : IC} {Q Q' : AExit → Fm → AH → Prop}, (∀ e σ h, Q e σ h → Q' e σ h) → ∀ {σ : Fm} {h : AH}, vcF P w0 n ic Q σ h → vcF P w0 n ic Q' σ h
  | .skip, Q, Q', hQ, σ, h, hv => hQ _ _ _ hv
  | .region ops, Q, Q', hQ, σ, h, hv => opsF_mono (fun σ h hh => hQ _ _ _ hh) hv
  | .dregion ops, Q, Q', hQ, σ, h, hv => dopsF_mono (fun σ h hh => hQ _ _ _ hh) hv
  | .dalts ls, Q, Q', hQ, σ, h, hv => dallF_mono (fun σ h hh => hQ _ _ _ hh) hv
  | .seq a b, Q, Q', hQ, σ, h, hv => vcF_mono (ic := a) (fun e σ h hh => by
      cases e with
      | normal => exact vcF_mono (ic := b) hQ hh
      | exit i => exact hQ _ _ _ hh
      | ret => exact hQ _ _ _ hh) hv
  | .cond x a b, Q, Q', hQ, σ, h, hv => by
    simp only [vcF] at hv ⊢
    split at hv
    · split at hv
      · rename_i ht; rw [if_pos ht]; exact vcF_mono hQ hv
      · rename_i ht; rw [if_neg ht]; exact vcF_mono hQ hv
    · exact hv.elim
  | .block id b, Q, Q', hQ, σ, h, hv => vcF_mono (ic := b) (fun e σ h hh => by
      cases e with
      | normal => exact hQ _ _ _ hh
      | exit i =>
        simp only [blkF] at hh ⊢
        split at hh
        · rename_i hi; rw [if_pos hi]; exact hQ _ _ _ hh
        · rename_i hi; rw [if_neg hi]; exact hQ _ _ _ hh
      | ret => exact hQ _ _ _ hh) hv
  | .loop b, Q, Q', hQ, σ, h, hv => LpF_mono hQ hv
  | .exit id, Q, Q', hQ, σ, h, hv => hQ _ _ _ hv
  | .ret, Q, Q', hQ, σ, h, hv => hQ _ _ _ hv
/-- What holds between two parts. -/
theorem vcF.cut {a b : IC} {Q : AExit → Fm → AH → Prop} {σ : Fm} {h : AH} (I : Fm → AH → Prop) (k1 : vcF P w0 n a (seqF I Q) σ h) (k2 : ∀ σ h, I σ h → vcF P w0 n b Q σ h) : vcF P w0 n (.seq a b) Q σ h :=
  vcF_mono (ic := a) (fun e σ h hh => by
    cases e with
    | normal => exact k2 _ _ hh
    | exit i => exact hh
    | ret => exact hh) k1
end
end Go.Abs
/- A program logic over abstract states, 22: from the logic to a call of the model. -/
namespace Go.Abs
open Go Go.RowKit
set_option linter.unusedVariables false

/-- All cells that stand when the call begins, for good. -/
def Con.start (W : World) : Con := ⟨fun b o => W.cell? ⟨b, o, none⟩, fun _ => none, fun _ _ => none⟩
def AH.start : AH := ⟨fun _ => none, 0, fun _ => 0, 0, fun _ => none⟩
theorem WR.start (W : World) : WR W (Con.start W) AH.start W where
  below := Below.refl _ _
  fcell := fun h => h
  obj := fun h => by cases h
  inj := fun h => by cases h
  rlt := fun h => by cases h
  tok := fun h => by cases h
  tinj := fun h => by cases h
  tnew := fun h => by cases h

theorem adequate {P : Program} {W : World} {f : FuncId} {args : Array Value} {vs : List AV} {r : Value} (hc : Call P W f vs AH.start fun v _ => v = .v r) (hv : RVs (Con.start W) vs args.toList) : Calls P f args W fun e W' => e = .returned r ∧ Below W.heap.size W W' := by
  have := hc.2 (Con.start W) W args.toList (WR.start W) hv
  simp only [Array.toArray_toList] at this
  refine this.mono fun e W' hh => ?_
  obtain ⟨x, Γ', v, h', rfl, _, hr, HW, rfl⟩ := hh
  cases hr
  exact ⟨rfl, HW.below⟩
end Go.Abs
