/- What the proof needs, part 21: Layer 7: sessions to which whole replies come: the plain side of SendStops and SendWell; Layer 7: SendWell, the plain side. -/
import Derived.Test.YtlmgpkopcgcbgaaDoorQSendWell19
import Derived.Test.YtlmgpkopcgcbgaaDoorQSendWell20
/- Layer 7: sessions to which whole replies come: the plain side of SendStops and SendWell. -/
namespace Go.Abs.F
open Go Go.Abs
set_option maxRecDepth 10000
set_option maxHeartbeats 20000000
set_option linter.unusedSimpArgs false
set_option linter.unusedVariables false
/-- A session that waits for a reply, with nothing begun. -/
structure Idle (s : CS) (st p : Nat) (tg : List L8) (cs : List Int) : Prop where
  ov : s.over = false
  w : s.wait = []
  c : s.code = 0
  n : s.nls = 0
  st : s.st = st
  p : s.pos = p
  tg : s.tg = tg
  cs : s.codes = cs
/-- A line, as one reply that is whole. -/
structure Rpl (b : L8) (n : Int) : Prop where
  k : ∃ a t, crlfS 512 [] b = ([(1, a)], []) ∧ oneS 1 a = some (n, false, t)
theorem Idle.feed {s : CS} {st p : Nat} {tg : List L8} {cs : List Int} (h : Idle s st p tg cs) {b : L8} {n : Int} (hb : Rpl b n) : s.feed b = s.take n := by
  obtain ⟨a, t, h1, h2⟩ := hb.k
  exact feed1 h.ov h.w h1 h2 h.n h.c
theorem rpl_of (a t : L8) (n : Int) (h1 : (1, a) = lineS 512 a) (h2 : cutL (a ++ [13, 10]) = some (a, [])) (h3 : oneS 1 a = some (n, false, t)) : Rpl (a ++ [13, 10]) n := ⟨⟨a, t, crlf_line a h1 h2, h3⟩⟩
def r220 : L8 := [50, 50, 48, 32, 120, 13, 10]
theorem rp220 : Rpl r220 220 := rpl_of [50, 50, 48, 32, 120] [120] 220 (by decide) (by decide) (by decide)
def r250k : L8 := [50, 53, 48, 32, 111, 107, 13, 10]
def r550n : L8 := [53, 53, 48, 32, 110, 111, 13, 10]
def r354g : L8 := [51, 53, 52, 32, 103, 111, 13, 10]
theorem rp250k : Rpl r250k 250 := rpl_of [50, 53, 48, 32, 111, 107] [111, 107] 250 (by decide) (by decide) (by decide)
theorem rp550n : Rpl r550n 550 := rpl_of [53, 53, 48, 32, 110, 111] [110, 111] 550 (by decide) (by decide) (by decide)
theorem rp354g : Rpl r354g 354 := rpl_of [51, 53, 52, 32, 103, 111] [103, 111] 354 (by decide) (by decide) (by decide)
theorem take_next {s : CS} {st p : Nat} {tg : List L8} {cs : List Int} (h : Idle s st p tg cs) (h3 : st ≠ 3) (h5 : st ≠ 5) : s.take (wantC st) = s.next := by
  unfold CS.take
  rw [if_neg (by rw [h.st]; exact h3), h.st, if_neg (by simp), if_neg h5]
theorem idle_next {s : CS} {st p : Nat} {tg : List L8} {cs : List Int} (h : Idle s st p tg cs) (hst : st ≤ 4) : Idle s.next (st + 1) p tg cs := by
  obtain ⟨host, sndr, tg', body, wait, code, out, st', pos, codes, over, nls⟩ := s
  obtain ⟨h1, h2, h3, h4, h5, h6, h7, h8⟩ := h
  simp only at h1 h2 h3 h4 h5 h6 h7 h8
  subst h1 h2 h3 h4 h5 h6 h7 h8
  match st', hst with
  | 0, _ => exact ⟨rfl, rfl, rfl, rfl, rfl, rfl, rfl, rfl⟩
  | 1, _ => exact ⟨rfl, rfl, rfl, rfl, rfl, rfl, rfl, rfl⟩
  | 2, _ => exact ⟨rfl, rfl, rfl, rfl, rfl, rfl, rfl, rfl⟩
  | 3, _ => exact ⟨rfl, rfl, rfl, rfl, rfl, rfl, rfl, rfl⟩
  | 4, _ => exact ⟨rfl, rfl, rfl, rfl, rfl, rfl, rfl, rfl⟩
theorem Idle.go {s : CS} {st p : Nat} {tg : List L8} {cs : List Int} (h : Idle s st p tg cs) (h3 : st ≠ 3) (h5 : st ≤ 4) {b : L8} (hb : Rpl b (wantC st)) : Idle (s.feed b) (st + 1) p tg cs := by
  rw [h.feed hb, take_next h h3 (by omega)]
  exact idle_next h h5
/-- A target's reply. -/
theorem Idle.tgt {s : CS} {p : Nat} {tg : List L8} {cs : List Int} (h : Idle s 3 p tg cs) {b : L8} {n : Int} (hb : Rpl b n) : s.feed b = (s.tcode n).tnext := by
  rw [h.feed hb]
  unfold CS.take
  rw [if_pos h.st, target_eq]
theorem idle_code {s : CS} {p : Nat} {tg : List L8} {cs : List Int} (h : Idle s 3 p tg cs) (n : Int) : Idle (s.tcode n) 3 p tg (if n ≠ 250 ∧ n ≠ 251 then cs.set p n else cs) :=
  ⟨h.ov, h.w, h.c, h.n, h.st, h.p, h.tg, by unfold CS.tcode; dsimp only; rw [h.cs, h.p]⟩
theorem idle_tnext {s : CS} {p : Nat} {tg : List L8} {cs : List Int} (h : Idle s 3 p tg cs) (hp : p + 1 < tg.length) : Idle s.tnext 3 (p + 1) tg cs ∧ s.tnext.out = s.out ++ [tRCPT ++ tg.getD (p + 1) [] ++ [62] ++ [13, 10]] ∧ s.tnext.body = s.body := by
  unfold CS.tnext
  dsimp only
  rw [if_pos (by rw [h.p, h.tg]; exact hp)]
  refine ⟨⟨h.ov, h.w, h.c, h.n, h.st, ?_, h.tg, h.cs⟩, ?_, rfl⟩
  · show s.pos + 1 = p + 1
    rw [h.p]
  · show s.out ++ [_] = _
    rw [h.p, h.tg]
theorem idle_tdata {s : CS} {p : Nat} {tg : List L8} {cs : List Int} (h : Idle s 3 p tg cs) (hp : tg.length ≤ p + 1) (h0 : cs.contains 0 = true) : Idle s.tnext 4 (p + 1) tg cs ∧ s.tnext.out = s.out ++ [tDATA ++ [13, 10]] ∧ s.tnext.body = s.body := by
  have e : s.tnext = ({ s with pos := s.pos + 1 } : CS).next := by
    unfold CS.tnext
    dsimp only
    rw [if_neg (by rw [h.p, h.tg]; omega), if_pos (by rw [h.cs]; exact h0)]
  rw [e, next3 (s := ({ s with pos := s.pos + 1 } : CS)) h.st]
  exact ⟨⟨h.ov, h.w, h.c, h.n, rfl, by show s.pos + 1 = p + 1; rw [h.p], h.tg, h.cs⟩, rfl, rfl⟩
/-! SendStops -/
theorem newC_idle (host sndr : L8) (tg body : List L8) (h1 : bodyS body = true) (h2 : 1 ≤ tg.length) (h3 : tg.length ≤ 50) : Idle (newC host sndr tg body) 0 0 tg (List.replicate tg.length 0) ∧ (newC host sndr tg body).host = host ∧ (newC host sndr tg body).sndr = sndr ∧ (newC host sndr tg body).body = stuffGo body := by
  rw [newC_eq, if_pos ⟨h1, by omega, h3⟩, if_pos h1]
  exact ⟨⟨rfl, rfl, rfl, rfl, rfl, rfl, rfl, rfl⟩, rfl, rfl, rfl⟩
end Go.Abs.F
/- Layer 7: SendWell, the plain side. -/
namespace Go.Abs.F
open Go Go.Abs
set_option maxRecDepth 10000
set_option maxHeartbeats 20000000
set_option linter.unusedSimpArgs false
set_option linter.unusedVariables false
/-- A reply comes, and all that goes is taken. -/
def runS (p : CS × L8) (b : L8) : CS × L8 := ({ p.1.feed b with out := [] }, p.2 ++ (p.1.feed b).out.flatten)
def runs (p : CS × L8) (l : List L8) : CS × L8 := l.foldl runS p
theorem runs_app (p : CS × L8) (a b : List L8) : runs p (a ++ b) = runs (runs p a) b := List.foldl_append
theorem runs_cons (p : CS × L8) (a : L8) (b : List L8) : runs p (a :: b) = runs (runS p a) b := rfl
theorem runs_len : ∀ (l : List L8) (p : CS × L8), p.2.length ≤ (runs p l).2.length
  | [], p => Nat.le_refl _
  | b :: l, p => by
    have := runs_len l (runS p b)
    rw [runs_cons]
    refine Nat.le_trans ?_ this
    simp [runS]
theorem runs_take {p : CS × L8} {L : List L8} {j : Nat} {b : L8} (h : L[j]? = some b) : runs p (L.take (j + 1)) = runS (runs p (L.take j)) b := by
  rw [List.take_add_one, h, runs_app]
  rfl
theorem runs_bound (p : CS × L8) (L : List L8) (j : Nat) : (runs p (L.take j)).2.length ≤ (runs p L).2.length := by
  conv => rhs; rw [← List.take_append_drop j L, runs_app]
  exact runs_len _ _
/-- A session that waits, its texts. -/
structure Idl2 (s : CS) (st p : Nat) (tg : List L8) (cs : List Int) (B : L8) : Prop where
  i : Idle s st p tg cs
  h : s.host = [104]
  n : s.sndr = []
  b : s.body = B
  o : s.out = []
def r2a : L8 := [50, 53, 48, 45, 97, 13, 10, 50, 53, 48, 32, 98, 13, 10]
theorem lines_2a : crlfS 512 [] r2a = ([(1, [50, 53, 48, 45, 97]), (1, [50, 53, 48, 32, 98])], []) := by
  rw [crlfS_cut, show cutL r2a = some ([50, 53, 48, 45, 97], [50, 53, 48, 32, 98, 13, 10]) by decide]
  dsimp only
  rw [show ([50, 53, 48, 32, 98, 13, 10] : L8) = [50, 53, 48, 32, 98] ++ [13, 10] from rfl, crlf_line [50, 53, 48, 32, 98] (by decide) (by decide)]
  rfl
theorem feed_2a {s : CS} {st p : Nat} {tg : List L8} {cs : List Int} (h : Idle s st p tg cs) : s.feed r2a = s.take 250 := by
  obtain ⟨host, sndr, tg', body, wait, code, out, st', pos, codes, over, nls⟩ := s
  obtain ⟨h1, h2, h3, h4, h5, h6, h7, h8⟩ := h
  simp only at h1 h2 h3 h4 h5 h6 h7 h8
  subst h1 h2 h3 h4 h5 h6 h7 h8
  unfold CS.feed
  rw [if_neg (by simp)]
  dsimp only
  rw [List.nil_append, lines_2a]
  dsimp only
  rw [CS.lines_cons rfl]
  have e1 : ({ host := host, sndr := sndr, tg := tg', body := body, wait := [], code := 0, out := out, st := st', pos := pos, codes := codes, over := false, nls := 0 } : CS).line 1 [50, 53, 48, 45, 97] = { host := host, sndr := sndr, tg := tg', body := body, wait := [], code := 250, out := out, st := st', pos := pos, codes := codes, over := false, nls := 1 } := rfl
  rw [e1, CS.lines_cons rfl]
  have e2 : ({ host := host, sndr := sndr, tg := tg', body := body, wait := [], code := 250, out := out, st := st', pos := pos, codes := codes, over := false, nls := 1 } : CS).line 1 [50, 53, 48, 32, 98] = ({ host := host, sndr := sndr, tg := tg', body := body, wait := [], code := 0, out := out, st := st', pos := pos, codes := codes, over := false, nls := 0 } : CS).take 250 := rfl
  rw [e2, CS.lines]
  have q := take_wait ({ host := host, sndr := sndr, tg := tg', body := body, wait := [], code := 0, out := out, st := st', pos := pos, codes := codes, over := false, nls := 0 } : CS) 250 []
  exact q.symm
theorem idl_next {s : CS} {st p : Nat} {tg : List L8} {cs : List Int} {B : L8} (h : Idl2 s st p tg cs B) (hst : st ≤ 4) : Idl2 ({ s.next with out := [] } : CS) (st + 1) p tg cs B := by
  obtain ⟨⟨h1, h2, h3, h4, h5, h6, h7, h8⟩, g1, g2, g3, g4⟩ := h
  obtain ⟨host, sndr, tg', body, wait, code, out, st', pos, codes, over, nls⟩ := s
  simp only at h1 h2 h3 h4 h5 h6 h7 h8 g1 g2 g3 g4
  subst h1 h2 h3 h4 h5 h6 h7 h8
  match st', hst with
  | 0, _ => exact ⟨⟨rfl, rfl, rfl, rfl, rfl, rfl, rfl, rfl⟩, g1, g2, g3, rfl⟩
  | 1, _ => exact ⟨⟨rfl, rfl, rfl, rfl, rfl, rfl, rfl, rfl⟩, g1, g2, g3, rfl⟩
  | 2, _ => exact ⟨⟨rfl, rfl, rfl, rfl, rfl, rfl, rfl, rfl⟩, g1, g2, g3, rfl⟩
  | 3, _ => exact ⟨⟨rfl, rfl, rfl, rfl, rfl, rfl, rfl, rfl⟩, g1, g2, g3, rfl⟩
  | 4, _ => exact ⟨⟨rfl, rfl, rfl, rfl, rfl, rfl, rfl, rfl⟩, g1, g2, g3, rfl⟩
def rcptL (t : L8) : L8 := tRCPT ++ t ++ [62] ++ [13, 10]
def rep (k i : Nat) : L8 := if i = k then r550n else r250k
def cds (n k p : Nat) : List Int := (List.range n).map fun i => if i = k ∧ i < p then 550 else 0
theorem cds_len (n k p : Nat) : (cds n k p).length = n := by simp [cds]
theorem cds_get {n k p i : Nat} (h : i < n) : (cds n k p)[i]? = some (if i = k ∧ i < p then 550 else 0) := by
  simp [cds, h]
theorem cds_step (n k p : Nat) : cds n k (p + 1) = if p = k then (cds n k p).set p 550 else cds n k p := by
  refine List.ext_getElem? fun i => ?_
  by_cases hi : i < n
  · rw [cds_get hi]
    by_cases hpk : p = k
    · subst hpk
      rw [if_pos rfl, List.getElem?_set]
      by_cases hp : p = i
      · subst hp
        rw [if_pos (show p = p ∧ p < p + 1 from ⟨rfl, by omega⟩), if_pos rfl, if_pos (by rw [cds_len]; exact hi)]
      · rw [if_neg hp, cds_get hi, if_neg (by omega), if_neg (by omega)]
    · rw [if_neg hpk, cds_get hi]
      by_cases hk : i = k
      · by_cases hip : i < p
        · rw [if_pos ⟨hk, by omega⟩, if_pos ⟨hk, hip⟩]
        · rw [if_neg (by omega), if_neg (by omega)]
      · rw [if_neg (by omega), if_neg (by omega)]
  · rw [List.getElem?_eq_none (by rw [cds_len]; omega)]
    symm
    split
    · rw [List.getElem?_eq_none (by rw [List.length_set, cds_len]; omega)]
    · rw [List.getElem?_eq_none (by rw [cds_len]; omega)]
theorem cds_zero (n k : Nat) : cds n k 0 = List.replicate n 0 := by
  refine List.ext_getElem? fun i => ?_
  rw [List.getElem?_replicate]
  split
  · rename_i h; rw [cds_get h, if_neg (by omega)]
  · rw [List.getElem?_eq_none (by rw [cds_len]; omega)]
theorem cds_has {n k p i : Nat} (h : i < n) (hk : i ≠ k) : (cds n k p).contains 0 = true := by
  simp only [List.contains_eq_mem, decide_eq_true_eq]
  refine List.mem_of_getElem? (i := i) ?_
  rw [cds_get h, if_neg (by omega)]
theorem next_hs (s : CS) : s.next.host = s.host ∧ s.next.sndr = s.sndr := by
  obtain ⟨host, sndr, tg, body, wait, code, out, st, pos, codes, over, nls⟩ := s
  match st with
  | 0 => exact ⟨rfl, rfl⟩
  | 1 => exact ⟨rfl, rfl⟩
  | 2 => exact ⟨rfl, rfl⟩
  | 3 => exact ⟨rfl, rfl⟩
  | 4 => exact ⟨rfl, rfl⟩
  | n + 5 => exact ⟨rfl, rfl⟩
theorem tnext_host (s : CS) : s.tnext.host = s.host := by
  unfold CS.tnext
  dsimp only
  split
  · rfl
  · split
    · exact (next_hs _).1
    · rfl
theorem tnext_sndr (s : CS) : s.tnext.sndr = s.sndr := by
  unfold CS.tnext
  dsimp only
  split
  · rfl
  · split
    · exact (next_hs _).2
    · rfl
/-- What a target's reply gives. -/
theorem rep_code (n k p : Nat) : ∃ c : Int, Rpl (rep k p) c ∧ (if c ≠ 250 ∧ c ≠ 251 then (cds n k p).set p c else cds n k p) = cds n k (p + 1) := by
  unfold rep
  rw [cds_step]
  split
  · exact ⟨550, rp550n, by rw [if_pos ⟨by decide, by decide⟩]⟩
  · exact ⟨250, rp250k, by rw [if_neg (by simp)]⟩
theorem well_targets (tg : List L8) (k : Nat) (B : L8) (hw : ∃ i, i < tg.length ∧ i ≠ k) : ∀ (m p : Nat) (s : CS) (t : L8), Idl2 s 3 p tg (cds tg.length k p) B → p + m + 1 = tg.length →
    ∃ s', runs (s, t) ((List.range' p (m + 1)).map (rep k)) = (s', t ++ ((((tg.drop (p + 1)).map rcptL).flatten) ++ (tDATA ++ [13, 10]))) ∧ Idl2 s' 4 tg.length tg (cds tg.length k tg.length) B := by
  intro m
  induction m with
  | zero =>
    intro p s t h hp
    obtain ⟨c, hc, hcd⟩ := rep_code tg.length k p
    obtain ⟨i, hi, hik⟩ := hw
    have q := idle_tdata (idle_code h.i c) (by omega) (by rw [hcd]; exact cds_has hi hik)
    rw [hcd] at q
    obtain ⟨q1, q2, q3⟩ := q
    have ef : s.feed (rep k p) = (s.tcode c).tnext := h.i.tgt hc
    refine ⟨{ (s.tcode c).tnext with out := [] }, ?_, ⟨⟨q1.ov, q1.w, q1.c, q1.n, q1.st, by rw [← hp]; exact q1.p, q1.tg, by have := q1.cs; rw [show p + 1 = tg.length by omega] at this; exact this⟩, ?_, ?_, by rw [show ({ (s.tcode c).tnext with out := [] } : CS).body = (s.tcode c).tnext.body from rfl, q3]; exact h.b, rfl⟩⟩
    · show runS (s, t) (rep k p) = _
      unfold runS
      dsimp only
      rw [ef, q2, List.drop_eq_nil_of_le (by omega), show (s.tcode c).out = s.out from rfl, h.o]
      simp
    · show (s.tcode c).tnext.host = _
      rw [tnext_host]; exact h.h
    · show (s.tcode c).tnext.sndr = _
      rw [tnext_sndr]; exact h.n
  | succ m ih =>
    intro p s t h hp
    obtain ⟨c, hc, hcd⟩ := rep_code tg.length k p
    have q := idle_tnext (idle_code h.i c) (by omega)
    rw [hcd] at q
    obtain ⟨q1, q2, q3⟩ := q
    have ef : s.feed (rep k p) = (s.tcode c).tnext := h.i.tgt hc
    have h2 : Idl2 ({ (s.tcode c).tnext with out := [] } : CS) 3 (p + 1) tg (cds tg.length k (p + 1)) B := ⟨⟨q1.ov, q1.w, q1.c, q1.n, q1.st, q1.p, q1.tg, q1.cs⟩, by show (s.tcode c).tnext.host = _; rw [tnext_host]; exact h.h, by show (s.tcode c).tnext.sndr = _; rw [tnext_sndr]; exact h.n, by show (s.tcode c).tnext.body = _; rw [q3]; exact h.b, rfl⟩
    obtain ⟨s', e1, e2⟩ := ih (p + 1) _ (t ++ (tRCPT ++ tg.getD (p + 1) [] ++ [62] ++ [13, 10])) h2 (by omega)
    refine ⟨s', ?_, e2⟩
    rw [List.range'_succ, List.map_cons, runs_cons]
    have er : runS (s, t) (rep k p) = ({ (s.tcode c).tnext with out := [] }, t ++ (tRCPT ++ tg.getD (p + 1) [] ++ [62] ++ [13, 10])) := by
      unfold runS
      dsimp only
      rw [ef, q2, show (s.tcode c).out = s.out from rfl, h.o]
      simp
    rw [er, e1]
    obtain ⟨y, hy⟩ : ∃ y, tg[p + 1]? = some y := ⟨_, List.getElem?_eq_getElem (by omega)⟩
    rw [drop_step hy, show tg.getD (p + 1) [] = y by simp [List.getD, hy]]
    simp [rcptL]
/-- The replies. -/
def wellL (n k : Nat) : List L8 := [r220, r2a, r250k] ++ (List.range n).map (rep k) ++ [r354g, r250k]
def wantH : L8 := tEHLO ++ [104] ++ [13, 10] ++ (tMAIL ++ [62] ++ [13, 10])
def wantT (tg : List L8) (body : List L8) (k : Nat) : L8 := (wantH ++ (tg.map rcptL).flatten ++ (if 1 < tg.length ∨ k ≠ 0 then tDATA ++ [13, 10] ++ stuffGo body else [])) ++ (tQUIT ++ [13, 10])
theorem runS_next {s : CS} {st p : Nat} {tg : List L8} {cs : List Int} {B : L8} (h : Idl2 s st p tg cs B) (h3 : st ≠ 3) (h5 : st ≤ 4) {b : L8} (hb : s.feed b = s.take (wantC st)) (t : L8) : runS (s, t) b = ({ s.next with out := [] }, t ++ s.next.out.flatten) := by
  unfold runS
  dsimp only
  rw [hb, take_next h.i h3 (by omega)]
theorem newC_out' (host sndr : L8) (tg body : List L8) : (newC host sndr tg body).out = [] := by rw [newC_eq]; split <;> rfl
theorem well_runs (tg body : List L8) (k : Nat) (hb : bodyS body = true) (h1 : 1 ≤ tg.length) (h2 : tg.length ≤ 50) :
    (runs (newC [104] [] tg body, []) (wellL tg.length k)).1.over = true ∧ (runs (newC [104] [] tg body, []) (wellL tg.length k)).1.codes = (List.range tg.length).map (fun i => if i = k then (550 : Int) else 250) ∧ (runs (newC [104] [] tg body, []) (wellL tg.length k)).2 = wantT tg body k := by
  obtain ⟨i0, n1, n2, n3⟩ := newC_idle [104] [] tg body hb h1 h2
  have d0 : Idl2 (newC [104] [] tg body) 0 0 tg (cds tg.length k 0) (stuffGo body) := ⟨by rw [cds_zero]; exact i0, n1, n2, n3, newC_out' _ _ _ _⟩
  generalize newC [104] [] tg body = s0 at *
  have r1 := runS_next d0 (by decide) (by decide) (d0.i.feed rp220) []
  have o1 : s0.next.out = [tEHLO ++ [104] ++ [13, 10]] := by
    rw [next0 d0.i.st]
    show s0.out ++ [tEHLO ++ s0.host ++ [13, 10]] = _
    rw [d0.o, d0.h]; rfl
  have d1 := idl_next d0 (by decide)
  rw [o1] at r1
  generalize ({ s0.next with out := [] } : CS) = s1 at *
  have r2 := runS_next d1 (by decide) (by decide) (feed_2a d1.i) ([] ++ [tEHLO ++ [104] ++ [13, 10]].flatten)
  have o2 : s1.next.out = [tMAIL ++ [62] ++ [13, 10]] := by
    rw [next1 d1.i.st]
    show s1.out ++ [tMAIL ++ s1.sndr ++ [62] ++ [13, 10]] = _
    rw [d1.o, d1.n]; rfl
  have d2 := idl_next d1 (by decide)
  rw [o2] at r2
  generalize ({ s1.next with out := [] } : CS) = s2 at *
  have r3 := runS_next d2 (by decide) (by decide) (d2.i.feed rp250k) ([] ++ [tEHLO ++ [104] ++ [13, 10]].flatten ++ [tMAIL ++ [62] ++ [13, 10]].flatten)
  have o3 : s2.next.out = [rcptL (tg.headD [])] := by
    rw [next2 d2.i.st]
    show s2.out ++ [tRCPT ++ s2.tg.headD [] ++ [62] ++ [13, 10]] = _
    rw [d2.o, d2.i.tg]; rfl
  have d3 := idl_next d2 (by decide)
  rw [o3] at r3
  generalize ({ s2.next with out := [] } : CS) = s3 at *
  have hh : runs (s0, []) [r220, r2a, r250k] = (s3, wantH ++ rcptL (tg.headD [])) := by
    show runS (runS (runS (s0, []) r220) r2a) r250k = _
    rw [r1, r2, r3]
    simp [wantH]
  have hrg : List.range tg.length = List.range' 0 (tg.length - 1 + 1) := by rw [List.range_eq_range']; congr 1; omega
  have hdr : ((tg.map rcptL).flatten) = rcptL (tg.headD []) ++ ((tg.drop 1).map rcptL).flatten := by
    cases tg with
    | nil => simp at h1
    | cons a r => simp
  unfold wellL
  rw [runs_app, runs_app, hh]
  by_cases hw : 1 < tg.length ∨ k ≠ 0
  · have hw2 : ∃ i, i < tg.length ∧ i ≠ k := by
      by_cases hk : k = 0
      · exact ⟨1, by omega, by omega⟩
      · exact ⟨0, by omega, fun e => hk e.symm⟩
    obtain ⟨s4, e4, d4⟩ := well_targets tg k (stuffGo body) hw2 (tg.length - 1) 0 s3 (wantH ++ rcptL (tg.headD [])) d3 (by omega)
    rw [hrg, e4]
    have r5 := fun t => runS_next d4 (by decide) (by decide) (d4.i.feed rp354g) t
    have o5 : s4.next.out = [stuffGo body] := by
      rw [next4 d4.i.st]
      show s4.out ++ [s4.body] = _
      rw [d4.o, d4.b]; rfl
    have d5 := idl_next d4 (by decide)
    rw [o5] at r5
    generalize ({ s4.next with out := [] } : CS) = s5 at *
    have f6 : s5.feed r250k = s5.quit 250 := by
      rw [d5.i.feed rp250k]
      unfold CS.take
      rw [if_neg (by rw [d5.i.st]; decide), d5.i.st, if_neg (by decide), if_pos rfl]
    have hR : ∀ t, runs (s4, t) [r354g, r250k] = ({ s5.quit 250 with out := [] }, t ++ stuffGo body ++ (tQUIT ++ [13, 10])) := fun t => by
      show runS (runS (s4, t) r354g) r250k = _
      rw [r5]
      unfold runS
      dsimp only
      rw [f6, show (s5.quit 250).out = s5.out ++ [tQUIT ++ [13, 10]] from rfl, d5.o]
      simp
    rw [hR]
    refine ⟨rfl, ?_, ?_⟩
    · show openC 250 s5.codes = _
      rw [d5.i.cs]
      unfold openC cds
      rw [List.map_map, ← hrg]
      refine List.map_congr_left fun i hi => ?_
      have := List.mem_range.1 hi
      by_cases hik : i = k
      · simp [hik]; omega
      · simp [hik]
    · unfold wantT
      rw [if_pos hw, hdr]
      simp
  · have hn : tg.length = 1 := by omega
    have hk : k = 0 := by omega
    subst hk
    have el : (List.range tg.length).map (rep 0) = [r550n] := by rw [hn]; rfl
    rw [el]
    have hf : s3.feed r550n = (s3.tcode 550).tnext := d3.i.tgt rp550n
    have hc : (s3.tcode 550).codes = [550] := by
      show (if (550 : Int) ≠ 250 ∧ (550 : Int) ≠ 251 then s3.codes.set s3.pos 550 else s3.codes) = _
      rw [if_pos ⟨by decide, by decide⟩, d3.i.cs, d3.i.p, cds_zero, hn]; rfl
    have ht : (s3.tcode 550).tnext = ({ s3.tcode 550 with pos := (s3.tcode 550).pos + 1 } : CS).quit 0 := by
      unfold CS.tnext
      dsimp only
      rw [if_neg (by rw [show (s3.tcode 550).pos = 0 from d3.i.p, show (s3.tcode 550).tg = tg from d3.i.tg]; omega), hc, if_neg (by decide)]
    have ho4 : ∀ b, ({ s3.tcode 550 with pos := (s3.tcode 550).pos + 1, codes := openC 0 (s3.tcode 550).codes, over := true, out := [] } : CS).feed b = { s3.tcode 550 with pos := (s3.tcode 550).pos + 1, codes := openC 0 (s3.tcode 550).codes, over := true, out := [] } := fun b => by unfold CS.feed; rw [if_pos rfl]
    have e4 : runS (s3, wantH ++ rcptL (tg.headD [])) r550n = ({ s3.tcode 550 with pos := (s3.tcode 550).pos + 1, codes := openC 0 (s3.tcode 550).codes, over := true, out := [] }, wantH ++ rcptL (tg.headD []) ++ (tQUIT ++ [13, 10])) := by
      unfold runS
      dsimp only
      rw [hf, ht]
      show (_, wantH ++ rcptL (tg.headD []) ++ (s3.out ++ [tQUIT ++ [13, 10]]).flatten) = _
      rw [d3.o]
      simp [CS.quit, CS.say, CS.fin]
    have e5 : runs (s3, wantH ++ rcptL (tg.headD [])) [r550n] = runS (s3, wantH ++ rcptL (tg.headD [])) r550n := rfl
    rw [e5, e4]
    generalize hs4 : ({ s3.tcode 550 with pos := (s3.tcode 550).pos + 1, codes := openC 0 (s3.tcode 550).codes, over := true, out := [] } : CS) = s4 at *
    have ho : s4.out = [] := by rw [← hs4]
    have e6 : ∀ t b, runS (s4, t) b = (s4, t) := fun t b => by
      unfold runS
      dsimp only
      rw [ho4, ho, show ({ s4 with out := [] } : CS) = s4 by rw [← hs4]]
      simp
    have e7 : ∀ t, runs (s4, t) [r354g, r250k] = (s4, t) := fun t => by
      show runS (runS (s4, t) r354g) r250k = _
      rw [e6, e6]
    rw [e7]
    refine ⟨by rw [← hs4], ?_, ?_⟩
    · rw [← hs4]
      show openC 0 (s3.tcode 550).codes = _
      rw [hc, hn]; rfl
    · unfold wantT
      rw [if_neg hw, hdr]
      have : tg.drop 1 = [] := List.drop_eq_nil_of_le (by omega)
      rw [this]
      simp
end Go.Abs.F
