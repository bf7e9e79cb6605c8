/- What the proof needs, part 19: Layer 7: arguments as bytes; what feeding keeps. -/
import Derived.Test.YtlmgpkopcgcbgaaDoorQSendWell17
import Derived.Test.YtlmgpkopcgcbgaaDoorQSendWell18
/- Layer 7: arguments as bytes; what feeding keeps. -/
namespace Go.Abs.F
open Go Go.Abs
set_option maxRecDepth 10000
set_option maxHeartbeats 20000000
set_option linter.unusedSimpArgs false
set_option linter.unusedVariables false
variable {w0 : World}
theorem u8_wf {n : Int} (h : (Lit.int .u8 n).wf = true) : 0 ≤ n ∧ n ≤ 255 := by
  simp [Lit.wf, IntKind.min, IntKind.max, IntKind.signed, IntKind.bits] at h
  exact ⟨by omega, by omega⟩
/-! what feeding keeps -/
structure FK (s s' : CS) (n : Nat) (W : L8) : Prop where
  tg : s'.tg = s.tg
  host : s'.host = s.host
  sndr : s'.sndr = s.sndr
  out : s'.out.length ≤ s.out.length + n
  ok : s'.over = false → s'.Ok2 ∧ s'.nls + W.length ≤ s.nls + n ∧ s'.out.length + W.length ≤ s.out.length + n
theorem lines_fk : ∀ (n : Nat) (w : L8) (s : CS), w.length = n → s.over = false → s.Ok2 → FK s (s.lines (crlfS 512 [] w).1) n (crlfS 512 [] w).2 := by
  intro n
  induction n using Nat.strongRecOn with
  | _ n ih =>
    intro w s hn ho hok
    have hcr := crlfS_cut 512 w []
    cases hc : cutL w with
    | none =>
      rw [hc] at hcr
      simp only [List.nil_append] at hcr
      rw [hcr]
      exact ⟨rfl, rfl, rfl, Nat.le_add_right _ _, fun _ => ⟨hok, by dsimp only [CS.lines]; omega, by dsimp only [CS.lines]; omega⟩⟩
    | some p =>
      obtain ⟨a, r⟩ := p
      rw [hc] at hcr
      simp only [List.nil_append] at hcr
      rw [hcr]
      have hlen := cutL_len hc
      have q := line_kept s (lineS 512 a).1 (lineS 512 a).2 hok ho
      generalize lineS 512 a = ln at *
      obtain ⟨k1, k2⟩ := ln
      rw [CS.lines_cons ho]
      dsimp only at *
      generalize s.line k1 k2 = s2 at *
      rcases Bool.eq_false_or_eq_true s2.over with hov | hov
      · rw [CS.lines_over hov]
        refine ⟨q.tg, q.host, q.sndr, ?_, fun e => by rw [hov] at e; cases e⟩
        have := q.out
        omega
      · have f := ih r.length (by omega) r s2 rfl hov (q.ok hov)
        refine ⟨f.tg.trans q.tg, f.host.trans q.host, f.sndr.trans q.sndr, ?_, fun e => ?_⟩
        · have := q.out; have := f.out; omega
        · obtain ⟨f1, f2, f3⟩ := f.ok e
          have := q.out
          have := q.nls
          exact ⟨f1, by omega, by omega⟩
theorem feed_fk (s : CS) (b : L8) (ho : s.over = false) (hok : s.Ok2) : FK s (s.feed b) (s.wait.length + b.length) (s.feed b).wait := by
  unfold CS.feed
  rw [if_neg (by rw [ho]; simp)]
  have f := lines_fk _ (s.wait ++ b) s rfl ho hok
  rw [List.length_append] at f
  exact ⟨f.tg, f.host, f.sndr, f.out, fun e => by
    obtain ⟨f1, f2, f3⟩ := f.ok e
    exact ⟨⟨f1.st, f1.p2, f1.p3, f1.tg⟩, f2, f3⟩⟩
/-- What holds of a session all the time. -/
structure CS.In (s : CS) (n : Nat) : Prop where
  sz : s.Sz
  out : s.out.length ≤ n
  ok : s.over = false → s.Ok2 ∧ s.nls + s.wait.length ≤ n ∧ s.out.length + s.wait.length ≤ n
theorem CS.In.feed {s : CS} {n : Nat} (h : s.In n) (b : L8) : (s.feed b).In (n + b.length) := by
  rcases Bool.eq_false_or_eq_true s.over with ho | ho
  · have e : s.feed b = s := by unfold CS.feed; rw [if_pos ho]
    rw [e]
    exact ⟨h.sz, Nat.le_trans h.out (Nat.le_add_right _ _), fun e => by rw [ho] at e; cases e⟩
  · obtain ⟨h1, h2, h3⟩ := h.ok ho
    have f := feed_fk s b ho h1
    refine ⟨⟨by rw [f.host]; exact h.sz.host, by rw [f.sndr]; exact h.sz.sndr, by rw [f.tg]; exact h.sz.tgs, by rw [f.tg]; exact h.sz.tgl⟩, ?_, fun e => ?_⟩
    · have := f.out; omega
    · obtain ⟨f1, f2, f3⟩ := f.ok e
      exact ⟨f1, by omega, by omega⟩
theorem CS.In.lost {s : CS} {n : Nat} (h : s.In n) : s.lost.In n := by
  unfold CS.lost
  split
  · exact h
  · exact ⟨⟨h.sz.host, h.sz.sndr, h.sz.tgs, h.sz.tgl⟩, Nat.zero_le _, fun e => by cases e⟩
theorem CS.In.outs {s : CS} {n : Nat} (h : s.In n) (o : List L8) (hl : o.length ≤ s.out.length) : ({ s with out := o } : CS).In n :=
  ⟨⟨h.sz.host, h.sz.sndr, h.sz.tgs, h.sz.tgl⟩, Nat.le_trans hl h.out, fun e => by
    obtain ⟨h1, h2, h3⟩ := h.ok e
    exact ⟨⟨h1.st, h1.p2, h1.p3, h1.tg⟩, h2, by show o.length + s.wait.length ≤ n; omega⟩⟩
theorem CS.In.mono {s : CS} {n m : Nat} (h : s.In n) (k : n ≤ m) : s.In m :=
  ⟨h.sz, Nat.le_trans h.out k, fun e => by
    obtain ⟨h1, h2, h3⟩ := h.ok e
    exact ⟨h1, by omega, by omega⟩⟩
theorem newC_in (host sndr : L8) (tg body : List L8) (h1 : host.length ≤ 140737488351232) (h2 : sndr.length ≤ 140737488351232) (h3 : ∀ t ∈ tg, t.length ≤ 140737488351232) (h4 : tg.length ≤ 140737488351232) : (newC host sndr tg body).In 0 := by
  rw [newC_eq]
  split
  · rename_i hh
    exact ⟨⟨h1, h2, h3, h4⟩, Nat.le_refl _, fun _ => ⟨⟨Nat.zero_le _, fun _ => rfl, (fun e => by cases e), by show 1 ≤ tg.length; omega⟩, Nat.le_refl _, Nat.le_refl _⟩⟩
  · exact ⟨⟨h1, h2, h3, h4⟩, Nat.le_refl _, fun e => by cases e⟩
end Go.Abs.F
