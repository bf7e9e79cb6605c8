/- A program logic over abstract states, 21: the moves of a run. -/
import Derived.Test.YtnpdmkbfphcioaaGreatDoorAbsT
import Derived.Laws.BitsLemmas
namespace Go.Abs
open Go Go.RowKit
set_option linter.unusedVariables false
set_option linter.unusedSimpArgs false

theorem beqT (t : Bool) : (t == true) = t := by cases t <;> rfl
theorem beqF (t : Bool) : (t == false) = !t := by cases t <;> rfl

section
variable {P : Program} {w0 : World} {n : Nat} {σ : Fm} {h : AH}
theorem vcF.skip {Q : AExit → Fm → AH → Prop} (k : Q .normal σ h) : vcF P w0 n .skip Q σ h := k
theorem vcF.region {ops : List IOper} {Q : AExit → Fm → AH → Prop} (k : opsF P w0 ops (Q .normal) σ h) : vcF P w0 n (.region ops) Q σ h := k
theorem vcF.dregion {ops : List (IOper × List IOper)} {Q : AExit → Fm → AH → Prop} (k : dopsF P w0 ops (Q .normal) σ h) : vcF P w0 n (.dregion ops) Q σ h := k
theorem vcF.dalts {ls : List (List (IOper × List IOper))} {Q : AExit → Fm → AH → Prop} (k : dallF P w0 ls (Q .normal) σ h) : vcF P w0 n (.dalts ls) Q σ h := k
theorem dallF.nil {Q : Fm → AH → Prop} : dallF P w0 [] Q σ h := trivial
theorem dallF.cons {l : List (IOper × List IOper)} {ls : List (List (IOper × List IOper))} {Q : Fm → AH → Prop} (k : dopsF P w0 l Q σ h) (r : dallF P w0 ls Q σ h) : dallF P w0 (l :: ls) Q σ h := ⟨k, r⟩
theorem vcF.seq {a b : IC} {Q : AExit → Fm → AH → Prop} (k : vcF P w0 n a (seqF (vcF P w0 n b Q) Q) σ h) : vcF P w0 n (.seq a b) Q σ h := k
theorem vcF.block {id : Nat} {b : IC} {Q : AExit → Fm → AH → Prop} (k : vcF P w0 n b (blkF id Q) σ h) : vcF P w0 n (.block id b) Q σ h := k
theorem vcF.exit {id : Nat} {Q : AExit → Fm → AH → Prop} (k : Q (.exit id) σ h) : vcF P w0 n (.exit id) Q σ h := k
theorem vcF.ret {Q : AExit → Fm → AH → Prop} (k : Q .ret σ h) : vcF P w0 n .ret Q σ h := k
theorem vcF.loop {b : IC} {Q : AExit → Fm → AH → Prop} (k : LpF P w0 n b Q σ h) : vcF P w0 n (.loop b) Q σ h := k
theorem vcF.cond {x : Opd} {a b : IC} {Q : AExit → Fm → AH → Prop} {t : Bool} (hx : evF σ x = .v (.bool t)) (k1 : t = true → vcF P w0 n a Q σ h) (k2 : t = false → vcF P w0 n b Q σ h) : vcF P w0 n (.cond x a b) Q σ h := by
  simp only [vcF, hx]
  cases t with
  | true => simp only [if_true]; exact k1 rfl
  | false => simp only [Bool.false_eq_true, if_false]; exact k2 rfl
theorem seqF.nn {K : Fm → AH → Prop} {Q : AExit → Fm → AH → Prop} (k : K σ h) : seqF K Q .normal σ h := k
theorem seqF.e {K : Fm → AH → Prop} {Q : AExit → Fm → AH → Prop} {i : Nat} (k : Q (.exit i) σ h) : seqF K Q (.exit i) σ h := k
theorem seqF.r {K : Fm → AH → Prop} {Q : AExit → Fm → AH → Prop} (k : Q .ret σ h) : seqF K Q .ret σ h := k
theorem blkF.nn {id : Nat} {Q : AExit → Fm → AH → Prop} (k : Q .normal σ h) : blkF id Q .normal σ h := k
theorem blkF.e {id : Nat} {Q : AExit → Fm → AH → Prop} (k : Q .normal σ h) : blkF id Q (.exit id) σ h := by
  simp only [blkF, if_true]; exact k
theorem blkF.o {id i : Nat} {Q : AExit → Fm → AH → Prop} (hne : (i == id) = false) (k : Q (.exit i) σ h) : blkF id Q (.exit i) σ h := by
  have : i ≠ id := by simpa using hne
  simp only [blkF, if_neg this]; exact k
theorem blkF.r {id : Nat} {Q : AExit → Fm → AH → Prop} (k : Q .ret σ h) : blkF id Q .ret σ h := k
theorem retF.r {rs : List ARes} {Q : AV → AH → Prop} {v : AV} (hv : aresF σ h rs = some v) (k : Q v h) : retF rs Q .ret σ h := by
  simp only [retF, hv]; exact k
theorem retF.nn {rs : List ARes} {Q : AV → AH → Prop} {v : AV} (hv : aresF σ h rs = some v) (k : Q v h) : retF rs Q .normal σ h := by
  simp only [retF, hv]; exact k

theorem opsF.nil {Q : Fm → AH → Prop} (k : Q σ h) : opsF P w0 [] Q σ h := k
/-- An operation that is no call. -/
def IOp.noCall (o : IOp) : Bool := !o.isCall
theorem opF_of {o : IOp} (hn : o.noCall = true) {v : AV} {h' : AH} (hs : istep o (evF σ) h = some (v, h')) {K : AV → AH → Prop} (k : K v h') : opF P w0 o σ h K := by
  cases o <;> first | (simp only [opF, hs]; exact k) | (simp [IOp.noCall, IOp.isCall] at hn; done) | (simp only [opF]; split; (next hx => simp [istep, hx] at hs); (next => rw [hs]; exact k))
theorem opsF.op {d : Option Nat} {o : IOp} {os : List IOper} {Q : Fm → AH → Prop} (hn : o.noCall = true) {v : AV} {h' : AH} (hs : istep o (evF σ) h = some (v, h')) (k : opsF P w0 os Q (up σ d v) h') : opsF P w0 (⟨d, o, none⟩ :: os) Q σ h := by
  simp only [opsF, wantF, if_true]
  exact opF_of hn hs k
theorem opsF.gop {d : Option Nat} {o : IOp} {g : Nat} {b : Bool} {os : List IOper} {Q : Fm → AH → Prop} {t : Bool} (hg : σ g = .v (.bool t)) (hn : o.noCall = true) (k1 : t = b → ∃ v h', istep o (evF σ) h = some (v, h') ∧ opsF P w0 os Q (up σ d v) h')
    (k2 : t = !b → opsF P w0 os Q (up σ d (.v undef)) h) : opsF P w0 (⟨d, o, some (g, b)⟩ :: os) Q σ h := by
  simp only [opsF, wantF, hg]
  by_cases hb : t = b
  · subst hb
    obtain ⟨v, h', hs, k⟩ := k1 rfl
    simp only [beq_self_eq_true, if_true]
    exact opF_of hn hs k
  · have : (t == b) = false := by simpa using hb
    rw [this]
    simp only [Bool.false_eq_true, if_false]
    exact k2 (by cases t <;> cases b <;> simp_all)
theorem opsF.skip {d : Option Nat} {o : IOp} {g : Nat} {b : Bool} {os : List IOper} {Q : Fm → AH → Prop} {t : Bool} (hg : σ g = .v (.bool t)) (hb : t = !b) (k : opsF P w0 os Q (up σ d (.v undef)) h) : opsF P w0 (⟨d, o, some (g, b)⟩ :: os) Q σ h := by
  subst hb
  simp only [opsF, wantF, hg]
  cases b <;> simp only [Bool.not_true, Bool.not_false, Bool.false_beq, Bool.true_beq, Bool.not_true, Bool.not_false, Bool.false_eq_true, if_false] <;> exact k
theorem opsF.want {d : Option Nat} {o : IOp} {g : Nat} {b : Bool} {os : List IOper} {Q : Fm → AH → Prop} {t : Bool} (hg : σ g = .v (.bool t)) (hb : t = b) (k : opsF P w0 (⟨d, o, none⟩ :: os) Q σ h) : opsF P w0 (⟨d, o, some (g, b)⟩ :: os) Q σ h := by
  subst hb
  simp only [opsF, wantF, hg, beq_self_eq_true, if_true] at k ⊢
  exact k
theorem opsF.und {d : Option Nat} {o : IOp} {g : Nat} {b : Bool} {os : List IOper} {Q : Fm → AH → Prop} (hg : σ g = .v undef) (k : opsF P w0 os Q (up σ d (.v undef)) h) : opsF P w0 (⟨d, o, some (g, b)⟩ :: os) Q σ h := by
  simp only [opsF, wantF, hg, undef, Bool.false_eq_true, if_false]
  exact k
/-- A guard that is not known. -/
theorem opsF.case {d : Option Nat} {o : IOp} {g : Nat} {b : Bool} {os : List IOper} {Q : Fm → AH → Prop} {t : Bool} (hg : σ g = .v (.bool t)) (k1 : t = b → opsF P w0 (⟨d, o, none⟩ :: os) Q σ h) (k2 : t = !b → opsF P w0 os Q (up σ d (.v undef)) h) : opsF P w0 (⟨d, o, some (g, b)⟩ :: os) Q σ h := by
  by_cases hb : t = b
  · exact opsF.want hg hb (k1 hb)
  · exact opsF.skip hg (by cases t <;> cases b <;> simp_all) (k2 (by cases t <;> cases b <;> simp_all))
theorem opsF.call {d : Option Nat} {f : FuncId} {xs : List Opd} {os : List IOper} {Q : Fm → AH → Prop} {vs : List AV} (hx : xs.map (evF σ) = vs) (k : Call P w0 f vs h fun v h' => opsF P w0 os Q (up σ d v) h') : opsF P w0 (⟨d, .call f xs, none⟩ :: os) Q σ h := by
  simp only [opsF, wantF, if_true, opF, hx]; exact k
theorem opsF.callv {d : Option Nat} {x : Opd} {f : FuncId} {xs : List Opd} {os : List IOper} {Q : Fm → AH → Prop} {vs first caps : List AV} (hf : evF σ x = .func (.func f) first caps) (hx : first ++ xs.map (evF σ) ++ caps = vs) (k : Call P w0 f vs h fun v h' => opsF P w0 os Q (up σ d v) h') : opsF P w0 (⟨d, .callv x xs, none⟩ :: os) Q σ h := by
  simp only [opsF, wantF, if_true, opF, hf, hx]; exact k
theorem opsF.yield {d : Option Nat} {x : Opd} {l : Nat} {xs : List Opd} {os : List IOper} {Q : Fm → AH → Prop} {vs : List AV} (hf : evF σ x = .func (.yield l) [] []) (hx : xs.map (evF σ) = vs) (k : Yld P w0 l vs h fun v h' => opsF P w0 os Q (up σ d v) h') : opsF P w0 (⟨d, .callv x xs, none⟩ :: os) Q σ h := by
  simp only [opsF, wantF, if_true, opF, hf, hx]; exact k

/-- An append of something to a row that is an object. -/
theorem opsF.appR {d : Option Nat} {sz eb : Nat} {x y : Opd} {os : List IOper} {Q : Fm → AH → Prop} {id len c : Nat} {cs : List AV} {new : List (List AV)} {b : AV} (hx : evF σ x = .row id 0 len (some c)) (hy : evF σ y = b) (hv : srcRows sz h b = some new) (ho : h.objs id = some (.cells cs)) (hl : len ≤ c) (hc : c * sz ≤ cs.length)
    (hb : (len + new.length) * eb ≤ 140737488355328) (hne : new ≠ [])
    (k1 : len + new.length ≤ c → opsF P w0 os Q (up σ d (.row id 0 (len + new.length) (some c))) (h.set id (.cells (wrL cs (len * sz) new.flatten))))
    (k2 : c < len + new.length → ∀ C spare, len + new.length ≤ C → spare.length = (C - (len + new.length)) * sz → opsF P w0 os Q (up σ d (.row h.n 0 (len + new.length) (some C))) (h.alloc (.cells (cs.take (len * sz) ++ (new.flatten ++ spare))))) : opsF P w0 (⟨d, .app sz eb x y, none⟩ :: os) Q σ h := by
  subst hy
  simp only [opsF, wantF, if_true, opF, hx]
  exact ⟨c, cs, new, rfl, ho, hv, rfl, hl, hc, hb, fun e => absurd e hne, fun _ => k1, k2⟩
/-- An append of nothing to a row that is an object. -/
theorem opsF.appR0 {d : Option Nat} {sz eb : Nat} {x y : Opd} {os : List IOper} {Q : Fm → AH → Prop} {id len c : Nat} {cs : List AV} {b : AV} (hx : evF σ x = .row id 0 len (some c)) (hy : evF σ y = b) (hv : srcRows sz h b = some []) (ho : h.objs id = some (.cells cs)) (hl : len ≤ c) (hc : c * sz ≤ cs.length)
    (hb : len * eb ≤ 140737488355328) (k : opsF P w0 os Q (up σ d (.row id 0 len (some c))) h) : opsF P w0 (⟨d, .app sz eb x y, none⟩ :: os) Q σ h := by
  subst hy
  simp only [opsF, wantF, if_true, opF, hx]
  exact ⟨c, cs, [], rfl, ho, hv, rfl, hl, hc, hb, fun _ => k, fun e => absurd rfl e, fun e => absurd e (by simp; omega)⟩
theorem dopsF.appR {d : Option Nat} {sz eb : Nat} {x y : Opd} {ck : List IOper} {os : List (IOper × List IOper)} {Q : Fm → AH → Prop} {id len c : Nat} {cs : List AV} {new : List (List AV)} {b : AV} (hx : evF σ x = .row id 0 len (some c)) (hy : evF σ y = b) (hv : srcRows sz h b = some new) (ho : h.objs id = some (.cells cs)) (hl : len ≤ c) (hc : c * sz ≤ cs.length)
    (hb : (len + new.length) * eb ≤ 140737488355328) (hne : new ≠ [])
    (k1 : len + new.length ≤ c → stabsF ck (up σ d (.row id 0 (len + new.length) (some c))) (h.set id (.cells (wrL cs (len * sz) new.flatten))) ∧ dopsF P w0 os Q (up σ d (.row id 0 (len + new.length) (some c))) (h.set id (.cells (wrL cs (len * sz) new.flatten))))
    (k2 : c < len + new.length → ∀ C spare, len + new.length ≤ C → spare.length = (C - (len + new.length)) * sz → stabsF ck (up σ d (.row h.n 0 (len + new.length) (some C))) (h.alloc (.cells (cs.take (len * sz) ++ (new.flatten ++ spare)))) ∧ dopsF P w0 os Q (up σ d (.row h.n 0 (len + new.length) (some C))) (h.alloc (.cells (cs.take (len * sz) ++ (new.flatten ++ spare))))) : dopsF P w0 ((⟨d, .app sz eb x y, none⟩, ck) :: os) Q σ h := by
  subst hy
  simp only [dopsF, wantF, if_true, opF, hx]
  exact ⟨c, cs, new, rfl, ho, hv, rfl, hl, hc, hb, fun e => absurd e hne, fun _ => k1, k2⟩

theorem dopsF.nil {Q : Fm → AH → Prop} (k : Q σ h) : dopsF P w0 [] Q σ h := k
theorem stabsF.nil : stabsF [] σ h := trivial
theorem stabsF.cons {o : IOper} {cs : List IOper} (k : stabF o σ h) (k' : stabsF cs σ h) : stabsF (o :: cs) σ h := ⟨k, k'⟩
theorem stabF.skip {d : Option Nat} {o : IOp} {g : Nat} {b t : Bool} (hg : σ g = .v (.bool t)) (hb : t = !b) : stabF ⟨d, o, some (g, b)⟩ σ h := by
  subst hb
  cases b <;> simp [stabF, wantF, hg]
theorem stabF.und {d : Option Nat} {o : IOp} {g : Nat} {b : Bool} (hg : σ g = .v undef) : stabF ⟨d, o, some (g, b)⟩ σ h := by
  simp only [stabF, wantF, hg, undef, Bool.false_eq_true, if_false]
theorem stabF.want {d : Option Nat} {o : IOp} {g : Nat} {b t : Bool} (hg : σ g = .v (.bool t)) (hb : t = b) (k : stabF ⟨d, o, none⟩ σ h) : stabF ⟨d, o, some (g, b)⟩ σ h := by
  subst hb
  simp only [stabF, wantF, hg, beq_self_eq_true, if_true] at k ⊢
  exact k
theorem stabF.op {d : Nat} {o : IOp} {v : AV} {h' : AH} (hs : istep o (evF σ) h = some (v, h')) (hv : σ d = v) : stabF ⟨some d, o, none⟩ σ h := by
  simp only [stabF, wantF, if_true, hs, hv]
theorem dopsF.op {d : Option Nat} {o : IOp} {cs : List IOper} {os : List (IOper × List IOper)} {Q : Fm → AH → Prop} (hn : o.noCall = true) {v : AV} {h' : AH} (hs : istep o (evF σ) h = some (v, h')) (kc : stabsF cs (up σ d v) h') (k : dopsF P w0 os Q (up σ d v) h') : dopsF P w0 ((⟨d, o, none⟩, cs) :: os) Q σ h := by
  simp only [dopsF, wantF, if_true]
  exact opF_of hn hs ⟨kc, k⟩
theorem dopsF.skip {d : Option Nat} {o : IOp} {g : Nat} {b : Bool} {cs : List IOper} {os : List (IOper × List IOper)} {Q : Fm → AH → Prop} {t : Bool} (hg : σ g = .v (.bool t)) (hb : t = !b) (k : dopsF P w0 os Q (up σ d (.v undef)) h) : dopsF P w0 ((⟨d, o, some (g, b)⟩, cs) :: os) Q σ h := by
  subst hb
  simp only [dopsF, wantF, hg]
  cases b <;> simp only [Bool.not_true, Bool.not_false, Bool.false_beq, Bool.true_beq, Bool.not_true, Bool.not_false, Bool.false_eq_true, if_false] <;> exact k
theorem dopsF.want {d : Option Nat} {o : IOp} {g : Nat} {b : Bool} {cs : List IOper} {os : List (IOper × List IOper)} {Q : Fm → AH → Prop} {t : Bool} (hg : σ g = .v (.bool t)) (hb : t = b) (k : dopsF P w0 ((⟨d, o, none⟩, cs) :: os) Q σ h) : dopsF P w0 ((⟨d, o, some (g, b)⟩, cs) :: os) Q σ h := by
  subst hb
  simp only [dopsF, wantF, hg, beq_self_eq_true, if_true] at k ⊢
  exact k
theorem dopsF.und {d : Option Nat} {o : IOp} {g : Nat} {b : Bool} {cs : List IOper} {os : List (IOper × List IOper)} {Q : Fm → AH → Prop} (hg : σ g = .v undef) (k : dopsF P w0 os Q (up σ d (.v undef)) h) : dopsF P w0 ((⟨d, o, some (g, b)⟩, cs) :: os) Q σ h := by
  simp only [dopsF, wantF, hg, undef, Bool.false_eq_true, if_false]
  exact k
theorem dopsF.case {d : Option Nat} {o : IOp} {g : Nat} {b : Bool} {cs : List IOper} {os : List (IOper × List IOper)} {Q : Fm → AH → Prop} {t : Bool} (hg : σ g = .v (.bool t)) (k1 : t = b → dopsF P w0 ((⟨d, o, none⟩, cs) :: os) Q σ h) (k2 : t = !b → dopsF P w0 os Q (up σ d (.v undef)) h) : dopsF P w0 ((⟨d, o, some (g, b)⟩, cs) :: os) Q σ h := by
  by_cases hb : t = b
  · exact dopsF.want hg hb (k1 hb)
  · exact dopsF.skip hg (by cases t <;> cases b <;> simp_all) (k2 (by cases t <;> cases b <;> simp_all))
theorem dopsF.call {d : Option Nat} {f : FuncId} {xs : List Opd} {cs : List IOper} {os : List (IOper × List IOper)} {Q : Fm → AH → Prop} {vs : List AV} (hx : xs.map (evF σ) = vs) (k : Call P w0 f vs h fun v h' => stabsF cs (up σ d v) h' ∧ dopsF P w0 os Q (up σ d v) h') : dopsF P w0 ((⟨d, .call f xs, none⟩, cs) :: os) Q σ h := by
  simp only [dopsF, wantF, if_true, opF, hx]; exact k
theorem dopsF.callv {d : Option Nat} {x : Opd} {f : FuncId} {xs : List Opd} {cs : List IOper} {os : List (IOper × List IOper)} {Q : Fm → AH → Prop} {vs first caps : List AV} (hf : evF σ x = .func (.func f) first caps) (hx : first ++ xs.map (evF σ) ++ caps = vs) (k : Call P w0 f vs h fun v h' => stabsF cs (up σ d v) h' ∧ dopsF P w0 os Q (up σ d v) h') : dopsF P w0 ((⟨d, .callv x xs, none⟩, cs) :: os) Q σ h := by
  simp only [dopsF, wantF, if_true, opF, hf, hx]; exact k
end

/-! bytes -/
theorem bs_size (l : List UInt8) : (bs l).size = l.length := rfl
theorem bs_data (l : List UInt8) (i : Nat) : (bs l).data[i]? = l[i]? := by simp [bs]
theorem bs_toList (l : List UInt8) : (bs l).toList = l := by
  have key : ∀ (l : List UInt8), ByteArray.toList ⟨l.toArray⟩ = l := by
    intro l
    have loop : ∀ (k i : Nat) (r : List UInt8), k = l.length - i → ByteArray.toList.loop ⟨l.toArray⟩ i r = r.reverse ++ l.drop i := by
      intro k
      induction k with
      | zero =>
        intro i r hk
        unfold ByteArray.toList.loop
        have : ¬ i < (⟨l.toArray⟩ : ByteArray).size := by show ¬ i < l.length; omega
        rw [if_neg this, List.drop_eq_nil_of_le (by omega), List.append_nil]
      | succ k ih =>
        intro i r hk
        unfold ByteArray.toList.loop
        have hlt : i < l.length := by omega
        have : i < (⟨l.toArray⟩ : ByteArray).size := hlt
        rw [if_pos this, ih (i + 1) _ (by omega)]
        have hg : (⟨l.toArray⟩ : ByteArray).get! i = l[i] := by
          simp [ByteArray.get!, hlt]
        rw [hg, List.reverse_cons, List.append_assoc, List.singleton_append, List.drop_eq_getElem_cons hlt]
    have := loop l.length 0 [] (by simp)
    simpa [ByteArray.toList] using this
  exact key l
theorem bs_ext {a b : ByteArray} (h : a.data.toList = b.data.toList) : a = b := by
  cases a; cases b; simp only at h; rw [Array.toList_inj.1 h]
theorem bs_inj {a b : List UInt8} : bs a = bs b ↔ a = b := ⟨fun h => by have := congrArg (fun x => x.data.toList) h; simpa [bs] using this, fun h => h ▸ rfl⟩
theorem bs_append (a b : List UInt8) : bs a ++ bs b = bs (a ++ b) := bs_ext (by simp [bs])
theorem bs_extract (l : List UInt8) (a b : Nat) : (bs l).extract a b = bs ((l.take b).drop a) := bs_ext (by
  simp [bs, ByteArray.data_extract, Array.toList_extract, List.drop_take])
theorem bs_of (a : ByteArray) : bs a.data.toList = a := bs_ext (by simp [bs])
theorem byteRows_bs (l : List UInt8) : byteRows (bs l) = l.map fun b => [.v (.int .u8 b.toNat)] := by simp [byteRows, bs]

/-! one operation at a time -/
theorem alloc_at (h : AH) (o : AObj) (i : Nat) : (h.alloc o).objs i = if i = h.n then some o else h.objs i := rfl
theorem set_at (h : AH) (j : Nat) (o : AObj) (i : Nat) : (h.set j o).objs i = if i = j then some o else h.objs i := rfl
theorem alloc_n (h : AH) (o : AObj) : (h.alloc o).n = h.n + 1 := rfl
theorem set_n (h : AH) (j : Nat) (o : AObj) : (h.set j o).n = h.n := rfl
theorem newTok_at (h : AH) (i : Nat) : h.newTok.objs i = h.objs i := rfl
theorem bump_at (h : AH) (t i : Nat) : (h.bump t).objs i = h.objs i := rfl
theorem newTok_n (h : AH) : h.newTok.n = h.n := rfl
theorem bump_n (h : AH) (t : Nat) : (h.bump t).n = h.n := rfl
theorem alloc_nt (h : AH) (o : AObj) : (h.alloc o).nt = h.nt := rfl
theorem set_nt (h : AH) (j : Nat) (o : AObj) : (h.set j o).nt = h.nt := rfl
theorem bump_nt (h : AH) (t : Nat) : (h.bump t).nt = h.nt := rfl
theorem newTok_nt (h : AH) : h.newTok.nt = h.nt + 1 := rfl
theorem alloc_ver (h : AH) (o : AObj) (t : Nat) : (h.alloc o).ver t = h.ver t := rfl
theorem set_ver (h : AH) (j : Nat) (o : AObj) (t : Nat) : (h.set j o).ver t = h.ver t := rfl
theorem newTok_ver (h : AH) (t : Nat) : h.newTok.ver t = if t = h.nt then 0 else h.ver t := rfl
theorem bump_ver (h : AH) (s t : Nat) : (h.bump s).ver t = if t = s then h.ver s + 1 else h.ver t := rfl

section
variable {σ : Fm} {h : AH}
theorem is_mv {x : Opd} {a : AV} (hx : evF σ x = a) : istep (.mv x) (evF σ) h = some (a, h) := by simp only [istep, hx]
theorem is_pick {c x y : Opd} {t : Bool} {a b v : AV} (hc : evF σ c = .v (.bool t)) (hx : evF σ x = a) (hy : evF σ y = b) (hv : (if t = true then a else b) = v) : istep (.pick c x y) (evF σ) h = some (v, h) := by
  simp only [istep, hc, hx, hy, hv]
theorem is_pickt {c x y : Opd} {t : Bool} {v : AV} (hc : evF σ c = .v (.bool t)) (hb : t = true) (hx : evF σ x = v) : istep (.pick c x y) (evF σ) h = some (v, h) := by
  subst hb
  simp only [istep, hc, hx, if_true]
theorem is_pickf {c x y : Opd} {t : Bool} {v : AV} (hc : evF σ c = .v (.bool t)) (hb : t = false) (hx : evF σ y = v) : istep (.pick c x y) (evF σ) h = some (v, h) := by
  subst hb
  simp only [istep, hc, hx, Bool.false_eq_true, if_false]
theorem is_box {x : Opd} {a : AV} {cs : List AV} (hx : evF σ x = a) (hv : scells a = some cs) : istep (.box x) (evF σ) h = some (.ptr h.n 0, h.alloc (.cells cs)) := by simp only [istep, hx, hv]
theorem is_new {z : List AV} : istep (.new z) (evF σ) h = some (.ptr h.n 0, h.alloc (.cells z)) := rfl
theorem is_newT {t : TypeId} {z : List AV} : istep (.newT t z) (evF σ) h = some (.ptr h.n 0, h.alloc (.bld t none 0 0)) := rfl
theorem is_load {x : Opd} {id off : Nat} {sz : Option Nat} {cs : List AV} {v : AV} (hx : evF σ x = .ptr id off) (ho : h.objs id = some (.cells cs)) (hv : rd cs off sz = some v) : istep (.load x sz) (evF σ) h = some (v, h) := by
  simp only [istep, hx, ho, hv, Option.map_some]
theorem is_loadl {x : Opd} {off : Nat} {sz : Option Nat} {cs : List AV} {v : AV} (hx : evF σ x = .lptr cs off) (hv : rd cs off sz = some v) : istep (.load x sz) (evF σ) h = some (v, h) := by
  simp only [istep, hx, hv, Option.map_some]
theorem is_store {x y : Opd} {id off sz : Nat} {b : AV} {as cs cs' : List AV} (hx : evF σ x = .ptr id off) (hy : evF σ y = b) (hv : scells b = some as) (ho : h.objs id = some (.cells cs)) (hb : as.length = sz ∧ off + sz ≤ cs.length) (hw : wrL cs off as = cs') : istep (.store x y sz) (evF σ) h = some (.v undef, h.set id (.cells cs')) := by
  simp only [istep, hx, hy, hv, ho, if_pos hb, hw]
theorem is_nilp {x : Opd} {id off : Nat} (hx : evF σ x = .ptr id off) : istep (.nilc x) (evF σ) h = some (.ptr id off, h) := by simp only [istep, hx]
theorem is_nill {x : Opd} {cs : List AV} {off : Nat} (hx : evF σ x = .lptr cs off) : istep (.nilc x) (evF σ) h = some (.lptr cs off, h) := by simp only [istep, hx]
theorem is_bin {op : BinOp} {k : EqK} {x y : Opd} {a b v : AV} (hx : evF σ x = a) (hy : evF σ y = b) (hv : abin op k a b = some v) : istep (.bin op k x y) (evF σ) h = some (v, h) := by simp only [istep, hx, hy, hv, Option.map_some]
theorem is_un {op : UnOp} {x : Opd} {a v : AV} (hx : evF σ x = a) (hv : aun op a = some v) : istep (.un op x) (evF σ) h = some (v, h) := by simp only [istep, hx, hv, Option.map_some]
theorem is_convI {k k' : IntKind} {x : Opd} {n m : Int} (hx : evF σ x = .v (.int k' n)) (hv : k.wrap n = m) : istep (.convI k x) (evF σ) h = some (.v (.int k m), h) := by simp only [istep, hx, hv]
theorem is_convS {x : Opd} {s : ByteArray} (hx : evF σ x = .v (.string s)) : istep (.convS x) (evF σ) h = some (.v (.string s), h) := by simp only [istep, hx]
theorem is_s2b {x : Opd} {s : ByteArray} {rows : List (List AV)} (hx : evF σ x = .v (.string s)) (hv : byteRows s = rows) : istep (.s2b false x) (evF σ) h = some (.list 1 rows .no, h) := by simp only [istep, hx, hv, Bool.false_eq_true, if_false]
theorem is_fadp {x : Opd} {id o off o' : Nat} (hx : evF σ x = .ptr id o) (hv : o + off = o') : istep (.fad x off) (evF σ) h = some (.ptr id o', h) := by simp only [istep, hx, hv]
theorem is_fadl {x : Opd} {cs : List AV} {o off o' : Nat} (hx : evF σ x = .lptr cs o) (hv : o + off = o') : istep (.fad x off) (evF σ) h = some (.lptr cs o', h) := by simp only [istep, hx, hv]
theorem is_fld {x : Opd} {off : Nat} {sz : Option Nat} {cs : List AV} {v : AV} (hx : evF σ x = .agg cs) (hv : rd cs off sz = some v) : istep (.fld x off sz) (evF σ) h = some (v, h) := by simp only [istep, hx, hv, Option.map_some]
theorem is_iaL {sz : Nat} {x i : Opd} {rows : List (List AV)} {tok : Tok} {k : IntKind} {n : Int} {r : List AV} (hx : evF σ x = .list sz rows tok) (hy : evF σ i = .v (.int k n)) (hb : 0 ≤ n) (hv : rows[n.toNat]? = some r) : istep (.iaL sz x i) (evF σ) h = some (.lptr r 0, h) := by
  simp only [istep, hx, hy, if_true, if_pos hb, hv]
theorem is_iaLr {sz : Nat} {x i : Opd} {id off len : Nat} {cap : Option Nat} {k : IntKind} {n : Int} {o' : Nat} (hx : evF σ x = .row id off len cap) (hy : evF σ i = .v (.int k n)) (hb : 0 ≤ n ∧ n < len) (hv : off + n.toNat * sz = o') : istep (.iaL sz x i) (evF σ) h = some (.ptr id o', h) := by
  simp only [istep, hx, hy, if_pos hb, hv]
theorem is_ixS {x i : Opd} {s : ByteArray} {k : IntKind} {n : Int} {b : UInt8} (hx : evF σ x = .v (.string s)) (hy : evF σ i = .v (.int k n)) (hb : 0 ≤ n) (hv : s.data[n.toNat]? = some b) : istep (.ixS x i) (evF σ) h = some (.v (.int .u8 b.toNat), h) := by
  simp only [istep, hx, hy, if_pos hb, hv]
theorem is_lenS {x : Opd} {s : ByteArray} {n : Nat} (hx : evF σ x = .v (.string s)) (hv : s.size = n) : istep (.len .str x) (evF σ) h = some (.v (.int .i64 n), h) := by simp only [istep, hx, hv]
theorem is_lenL {x : Opd} {sz : Nat} {rows : List (List AV)} {tok : Tok} {n : Nat} (hx : evF σ x = .list sz rows tok) (hv : rows.length = n) : istep (.len .sl x) (evF σ) h = some (.v (.int .i64 n), h) := by simp only [istep, hx, hv]
theorem is_lenR {x : Opd} {id off n : Nat} {cap : Option Nat} (hx : evF σ x = .row id off n cap) : istep (.len .sl x) (evF σ) h = some (.v (.int .i64 n), h) := by simp only [istep, hx]
theorem is_ext {x : Opd} {i : Nat} {vs : List AV} {v : AV} (hx : evF σ x = .tup vs) (hv : vs[i]? = some v) : istep (.ext x i) (evF σ) h = some (v, h) := by simp only [istep, hx, hv, Option.map_some]
theorem is_app {sz eb : Nat} {x y : Opd} {rows new rows' : List (List AV)} {r : List AV} {tok tok' : Tok} {b : AV} {h' : AH} (hx : evF σ x = .list sz rows tok) (hy : evF σ y = b) (hv : srcRows sz h b = some (r :: new)) (ht : appTok h tok = some (tok', h')) (hb : (rows.length + (new.length + 1)) * eb ≤ 140737488355328)
    (hw : rows ++ r :: new = rows') : istep (.app sz eb x y) (evF σ) h = some (.list sz rows' tok', h') := by
  subst hw
  simp only [istep, hx, hy, hv, if_true, ht, if_pos hb]
theorem is_lss {q : EqK} {x y : Opd} {k : IntKind} {a b : Int} (hx : evF σ x = .v (.int k a)) (hy : evF σ y = .v (.int k b)) : istep (.bin .lss q x y) (evF σ) h = some (.v (.bool (decide (a < b))), h) := by
  simp [istep, hx, hy, abin, intBin]
theorem is_leq {q : EqK} {x y : Opd} {k : IntKind} {a b : Int} (hx : evF σ x = .v (.int k a)) (hy : evF σ y = .v (.int k b)) : istep (.bin .leq q x y) (evF σ) h = some (.v (.bool (decide (a ≤ b))), h) := by
  simp [istep, hx, hy, abin, intBin]
theorem is_gtr {q : EqK} {x y : Opd} {k : IntKind} {a b : Int} (hx : evF σ x = .v (.int k a)) (hy : evF σ y = .v (.int k b)) : istep (.bin .gtr q x y) (evF σ) h = some (.v (.bool (decide (b < a))), h) := by
  simp [istep, hx, hy, abin, intBin]
theorem is_geq {q : EqK} {x y : Opd} {k : IntKind} {a b : Int} (hx : evF σ x = .v (.int k a)) (hy : evF σ y = .v (.int k b)) : istep (.bin .geq q x y) (evF σ) h = some (.v (.bool (decide (b ≤ a))), h) := by
  simp [istep, hx, hy, abin, intBin]
theorem is_eql {q : EqK} {x y : Opd} {k : IntKind} {a b : Int} (hx : evF σ x = .v (.int k a)) (hy : evF σ y = .v (.int k b)) : istep (.bin .eql q x y) (evF σ) h = some (.v (.bool (decide (a = b))), h) := by
  simp [istep, hx, hy, abin, intBin]
  by_cases e : a = b <;> simp [e]
theorem is_neq {q : EqK} {x y : Opd} {k : IntKind} {a b : Int} (hx : evF σ x = .v (.int k a)) (hy : evF σ y = .v (.int k b)) : istep (.bin .neq q x y) (evF σ) h = some (.v (.bool (decide (¬ a = b))), h) := by
  simp [istep, hx, hy, abin, intBin]
  by_cases e : a = b <;> simp [e]
theorem is_add {q : EqK} {x y : Opd} {k : IntKind} {a b c : Int} (hx : evF σ x = .v (.int k a)) (hy : evF σ y = .v (.int k b)) (hw : k.wrap (a + b) = c) : istep (.bin .add q x y) (evF σ) h = some (.v (.int k c), h) := by
  simp [istep, hx, hy, abin, intBin, hw]
theorem is_sub {q : EqK} {x y : Opd} {k : IntKind} {a b c : Int} (hx : evF σ x = .v (.int k a)) (hy : evF σ y = .v (.int k b)) (hw : k.wrap (a - b) = c) : istep (.bin .sub q x y) (evF σ) h = some (.v (.int k c), h) := by
  simp [istep, hx, hy, abin, intBin, hw]
theorem is_mul {q : EqK} {x y : Opd} {k : IntKind} {a b c : Int} (hx : evF σ x = .v (.int k a)) (hy : evF σ y = .v (.int k b)) (hw : k.wrap (a * b) = c) : istep (.bin .mul q x y) (evF σ) h = some (.v (.int k c), h) := by
  simp [istep, hx, hy, abin, intBin, hw]
theorem is_eqls {q : EqK} {x y : Opd} {a b : List UInt8} (hx : evF σ x = .v (.string (bs a))) (hy : evF σ y = .v (.string (bs b))) : istep (.bin .eql q x y) (evF σ) h = some (.v (.bool (decide (a = b))), h) := by
  simp [istep, hx, hy, abin, strBin, bs_toList]
  by_cases e : a = b <;> simp [e]
theorem is_neqs {q : EqK} {x y : Opd} {a b : List UInt8} (hx : evF σ x = .v (.string (bs a))) (hy : evF σ y = .v (.string (bs b))) : istep (.bin .neq q x y) (evF σ) h = some (.v (.bool (decide (¬ a = b))), h) := by
  simp [istep, hx, hy, abin, strBin, bs_toList]
  by_cases e : a = b <;> simp [e]
theorem is_adds {q : EqK} {x y : Opd} {a b c : List UInt8} (hx : evF σ x = .v (.string (bs a))) (hy : evF σ y = .v (.string (bs b))) (hb : a.length + b.length ≤ 9223372036854775807) (hw : a ++ b = c) : istep (.bin .add q x y) (evF σ) h = some (.v (.string (bs c)), h) := by
  subst hw
  simp [istep, hx, hy, abin, strBin, bs_size, hb, bs_append]
theorem is_not {x : Opd} {t : Bool} (hx : evF σ x = .v (.bool t)) : istep (.un .not x) (evF σ) h = some (.v (.bool !t), h) := by
  simp only [istep, hx, aun, Option.map_some]
theorem is_lenB {x : Opd} {l : List UInt8} {n : Nat} (hx : evF σ x = .v (.string (bs l))) (hw : l.length = n) : istep (.len .str x) (evF σ) h = some (.v (.int .i64 n), h) := by simp only [istep, hx, bs_size, hw]
theorem is_ixB {x i : Opd} {l : List UInt8} {k : IntKind} {n : Int} {b : UInt8} (hx : evF σ x = .v (.string (bs l))) (hy : evF σ i = .v (.int k n)) (hb : 0 ≤ n) (hw : l[n.toNat]? = some b) : istep (.ixS x i) (evF σ) h = some (.v (.int .u8 b.toNat), h) := by
  simp only [istep, hx, hy, if_pos hb, bs_data, hw]
end

section
variable {σ : Fm} {h : AH}
theorem args_nil : ([] : List Opd).map (evF σ) = [] := rfl
theorem args_cons {x : Opd} {xs : List Opd} {v : AV} {vs : List AV} (hx : evF σ x = v) (hr : xs.map (evF σ) = vs) : (x :: xs).map (evF σ) = v :: vs := by simp only [List.map_cons, hx, hr]
theorem res_tmp {t : Nat} {v : AV} (hx : σ t = v) : resF σ h (.tmp t) = some v := by simp only [resF, hx]
theorem res_cell {t id off : Nat} {sz : Option Nat} {cs : List AV} {v : AV} (hx : σ t = .ptr id off) (ho : h.objs id = some (.cells cs)) (hv : rd cs off sz = some v) : resF σ h (.cell t sz) = some v := by simp only [resF, hx, ho, hv]
theorem ress_nil : ressF σ h [] = some [] := rfl
theorem ress_cons {r : ARes} {rs : List ARes} {v : AV} {vs : List AV} (hq : resF σ h r = some v) (hr : ressF σ h rs = some vs) : ressF σ h (r :: rs) = some (v :: vs) := by simp only [ressF, hq, hr]
theorem ares_one {r : ARes} {v : AV} (hq : resF σ h r = some v) : aresF σ h [r] = some v := hq
theorem ares_many {r s : ARes} {rs : List ARes} {vs : List AV} (hr : ressF σ h (r :: s :: rs) = some vs) : aresF σ h (r :: s :: rs) = some (.tup vs) := by simp only [aresF, hr, Option.map_some]
theorem ares_none : aresF σ h [] = some (.tup []) := rfl
end

/-! numbers in range -/
theorem w64 {x : Int} (h0 : -9223372036854775808 ≤ x) (h1 : x ≤ 9223372036854775807) : IntKind.i64.wrap x = x := by rw [IntKind.wrap_i64]; omega
theorem w32 {x : Int} (h0 : -2147483648 ≤ x) (h1 : x ≤ 2147483647) : IntKind.i32.wrap x = x := by rw [IntKind.wrap_i32]; omega
theorem wu8 {x : Int} (h0 : 0 ≤ x) (h1 : x ≤ 255) : IntKind.u8.wrap x = x := by rw [IntKind.wrap_u8]; omega
theorem wu64 {x : Int} (h0 : 0 ≤ x) (h1 : x ≤ 18446744073709551615) : IntKind.u64.wrap x = x := by
  have : IntKind.u64.wrap x = x % 18446744073709551616 := by simp [IntKind.wrap, IntKind.bits, IntKind.signed]
  rw [this]; omega

end Go.Abs
