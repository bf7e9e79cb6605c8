/- What the proof needs, part 21: Layer 7: sessions to which whole replies come: the plain side of SendStops and SendWell. -/
import Derived.Test.YtlmgpkopcgcbgaaDoorQSendStops19
import Derived.Test.YtlmgpkopcgcbgaaDoorQSendStops20
/- Layer 7: sessions to which whole replies come: the plain side of SendStops and SendWell. -/
namespace Go.Abs.F
open Go Go.Abs
set_option maxRecDepth 10000
set_option maxHeartbeats 20000000
set_option linter.unusedSimpArgs false
set_option linter.unusedVariables false
/-- A session that waits for a reply, with nothing begun. -/
structure Idle (s : CS) (st p : Nat) (tg : List L8) (cs : List Int) : Prop where
  ov : s.over = false
  w : s.wait = []
  c : s.code = 0
  n : s.nls = 0
  st : s.st = st
  p : s.pos = p
  tg : s.tg = tg
  cs : s.codes = cs
/-- A line, as one reply that is whole. -/
structure Rpl (b : L8) (n : Int) : Prop where
  k : ∃ a t, crlfS 512 [] b = ([(1, a)], []) ∧ oneS 1 a = some (n, false, t)
theorem Idle.feed {s : CS} {st p : Nat} {tg : List L8} {cs : List Int} (h : Idle s st p tg cs) {b : L8} {n : Int} (hb : Rpl b n) : s.feed b = s.take n := by
  obtain ⟨a, t, h1, h2⟩ := hb.k
  exact feed1 h.ov h.w h1 h2 h.n h.c
theorem rpl_of (a t : L8) (n : Int) (h1 : (1, a) = lineS 512 a) (h2 : cutL (a ++ [13, 10]) = some (a, [])) (h3 : oneS 1 a = some (n, false, t)) : Rpl (a ++ [13, 10]) n := ⟨⟨a, t, crlf_line a h1 h2, h3⟩⟩
def r220 : L8 := [50, 50, 48, 32, 120, 13, 10]
def r250 : L8 := [50, 53, 48, 32, 120, 13, 10]
def r354 : L8 := [51, 53, 52, 32, 120, 13, 10]
theorem rp220 : Rpl r220 220 := rpl_of [50, 50, 48, 32, 120] [120] 220 (by decide) (by decide) (by decide)
theorem rp250 : Rpl r250 250 := rpl_of [50, 53, 48, 32, 120] [120] 250 (by decide) (by decide) (by decide)
theorem rp354 : Rpl r354 354 := rpl_of [51, 53, 52, 32, 120] [120] 354 (by decide) (by decide) (by decide)
theorem take_next {s : CS} {st p : Nat} {tg : List L8} {cs : List Int} (h : Idle s st p tg cs) (h3 : st ≠ 3) (h5 : st ≠ 5) : s.take (wantC st) = s.next := by
  unfold CS.take
  rw [if_neg (by rw [h.st]; exact h3), h.st, if_neg (by simp), if_neg h5]
theorem idle_next {s : CS} {st p : Nat} {tg : List L8} {cs : List Int} (h : Idle s st p tg cs) (hst : st ≤ 4) : Idle s.next (st + 1) p tg cs := by
  obtain ⟨host, sndr, tg', body, wait, code, out, st', pos, codes, over, nls⟩ := s
  obtain ⟨h1, h2, h3, h4, h5, h6, h7, h8⟩ := h
  simp only at h1 h2 h3 h4 h5 h6 h7 h8
  subst h1 h2 h3 h4 h5 h6 h7 h8
  match st', hst with
  | 0, _ => exact ⟨rfl, rfl, rfl, rfl, rfl, rfl, rfl, rfl⟩
  | 1, _ => exact ⟨rfl, rfl, rfl, rfl, rfl, rfl, rfl, rfl⟩
  | 2, _ => exact ⟨rfl, rfl, rfl, rfl, rfl, rfl, rfl, rfl⟩
  | 3, _ => exact ⟨rfl, rfl, rfl, rfl, rfl, rfl, rfl, rfl⟩
  | 4, _ => exact ⟨rfl, rfl, rfl, rfl, rfl, rfl, rfl, rfl⟩
theorem Idle.go {s : CS} {st p : Nat} {tg : List L8} {cs : List Int} (h : Idle s st p tg cs) (h3 : st ≠ 3) (h5 : st ≤ 4) {b : L8} (hb : Rpl b (wantC st)) : Idle (s.feed b) (st + 1) p tg cs := by
  rw [h.feed hb, take_next h h3 (by omega)]
  exact idle_next h h5
/-- A target's reply. -/
theorem Idle.tgt {s : CS} {p : Nat} {tg : List L8} {cs : List Int} (h : Idle s 3 p tg cs) {b : L8} {n : Int} (hb : Rpl b n) : s.feed b = (s.tcode n).tnext := by
  rw [h.feed hb]
  unfold CS.take
  rw [if_pos h.st, target_eq]
theorem idle_code {s : CS} {p : Nat} {tg : List L8} {cs : List Int} (h : Idle s 3 p tg cs) (n : Int) : Idle (s.tcode n) 3 p tg (if n ≠ 250 ∧ n ≠ 251 then cs.set p n else cs) :=
  ⟨h.ov, h.w, h.c, h.n, h.st, h.p, h.tg, by unfold CS.tcode; dsimp only; rw [h.cs, h.p]⟩
theorem idle_tnext {s : CS} {p : Nat} {tg : List L8} {cs : List Int} (h : Idle s 3 p tg cs) (hp : p + 1 < tg.length) : Idle s.tnext 3 (p + 1) tg cs ∧ s.tnext.out = s.out ++ [tRCPT ++ tg.getD (p + 1) [] ++ [62] ++ [13, 10]] ∧ s.tnext.body = s.body := by
  unfold CS.tnext
  dsimp only
  rw [if_pos (by rw [h.p, h.tg]; exact hp)]
  refine ⟨⟨h.ov, h.w, h.c, h.n, h.st, ?_, h.tg, h.cs⟩, ?_, rfl⟩
  · show s.pos + 1 = p + 1
    rw [h.p]
  · show s.out ++ [_] = _
    rw [h.p, h.tg]
theorem idle_tdata {s : CS} {p : Nat} {tg : List L8} {cs : List Int} (h : Idle s 3 p tg cs) (hp : tg.length ≤ p + 1) (h0 : cs.contains 0 = true) : Idle s.tnext 4 (p + 1) tg cs ∧ s.tnext.out = s.out ++ [tDATA ++ [13, 10]] ∧ s.tnext.body = s.body := by
  have e : s.tnext = ({ s with pos := s.pos + 1 } : CS).next := by
    unfold CS.tnext
    dsimp only
    rw [if_neg (by rw [h.p, h.tg]; omega), if_pos (by rw [h.cs]; exact h0)]
  rw [e, next3 (s := ({ s with pos := s.pos + 1 } : CS)) h.st]
  exact ⟨⟨h.ov, h.w, h.c, h.n, rfl, by show s.pos + 1 = p + 1; rw [h.p], h.tg, h.cs⟩, rfl, rfl⟩
/-! SendStops -/
def ab : L8 := [97, 64, 98]
/-- What was said ahead of the place. -/
def stopL (k at_ : Nat) : List L8 := match at_ with
  | 0 => []
  | 1 => [r220]
  | 2 => [r220, r250]
  | 3 => [r220, r250, r250] ++ List.replicate k r250
  | _ => [r220, r250, r250] ++ List.replicate k r250 ++ [r354]
def feeds (s : CS) (l : List L8) : CS := l.foldl CS.feed s
theorem feeds_app (s : CS) (a b : List L8) : feeds s (a ++ b) = feeds (feeds s a) b := List.foldl_append
def stopSt (at_ : Nat) : Nat := match at_ with
  | 0 => 0
  | 1 => 1
  | 2 => 2
  | 3 => 4
  | _ => 5
theorem feeds_targets (tg : List L8) (cs : List Int) (h0 : cs.contains 0 = true) : ∀ (m p : Nat) (s : CS), Idle s 3 p tg cs → p + m + 1 = tg.length → Idle (feeds s (List.replicate (m + 1) r250)) 4 tg.length tg cs := by
  intro m
  induction m with
  | zero =>
    intro p s h hp
    show Idle (s.feed r250) 4 tg.length tg cs
    rw [h.tgt rp250, ← hp]
    have q := idle_tdata (idle_code h 250) (by omega) (by rw [if_neg (by simp)]; exact h0)
    rw [if_neg (by simp)] at q
    exact q.1
  | succ m ih =>
    intro p s h hp
    show Idle (feeds (s.feed r250) (List.replicate (m + 1) r250)) 4 tg.length tg cs
    rw [h.tgt rp250]
    have q := idle_tnext (idle_code h 250) (by omega)
    rw [if_neg (by simp)] at q
    exact ih (p + 1) _ q.1 (by omega)
theorem newC_idle (host sndr : L8) (tg body : List L8) (h1 : bodyS body = true) (h2 : 1 ≤ tg.length) (h3 : tg.length ≤ 50) : Idle (newC host sndr tg body) 0 0 tg (List.replicate tg.length 0) ∧ (newC host sndr tg body).host = host ∧ (newC host sndr tg body).sndr = sndr ∧ (newC host sndr tg body).body = stuffGo body := by
  rw [newC_eq, if_pos ⟨h1, by omega, h3⟩, if_pos h1]
  exact ⟨⟨rfl, rfl, rfl, rfl, rfl, rfl, rfl, rfl⟩, rfl, rfl, rfl⟩
theorem stop_idle (k at_ : Nat) (hk : 1 ≤ k) (hk2 : k ≤ 5) : ∃ p, Idle (feeds (newC [104] [] (List.replicate k ab) []) (stopL k at_)) (stopSt at_) p (List.replicate k ab) (List.replicate k 0) := by
  have q0 := (newC_idle [104] [] (List.replicate k ab) [] (by decide) (by simpa using hk) (by simp; omega)).1
  rw [List.length_replicate] at q0
  have q1 := q0.go (by decide) (by decide) rp220
  have q2 := q1.go (by decide) (by decide) rp250
  have q3 := q2.go (by decide) (by decide) rp250
  have hz : (List.replicate k (0 : Int)).contains 0 = true := by
    cases k with
    | zero => omega
    | succ k => simp [List.replicate_succ]
  have q4 := feeds_targets (List.replicate k ab) (List.replicate k 0) hz (k - 1) 0 _ q3 (by simp; omega)
  rw [show k - 1 + 1 = k by omega] at q4
  match at_ with
  | 0 => exact ⟨_, q0⟩
  | 1 => exact ⟨_, q1⟩
  | 2 => exact ⟨_, q2⟩
  | 3 => exact ⟨_, by
      show Idle (feeds _ ([r220, r250, r250] ++ List.replicate k r250)) 4 _ _ _
      rw [feeds_app]; exact q4⟩
  | n + 4 => exact ⟨_, by
      show Idle (feeds _ ([r220, r250, r250] ++ List.replicate k r250 ++ [r354])) 5 _ _ _
      rw [feeds_app, feeds_app]; exact q4.go (by decide) (by decide) rp354⟩
/-- A code, and another line behind it. -/
def badL (c : Nat) : L8 := udecS c ++ [32, 120, 13, 10, 50, 53, 48, 32, 109, 111, 114, 101, 13, 10]
def digs (c : Nat) : L8 := [UInt8.ofNat (48 + c / 100), UInt8.ofNat (48 + c / 10 % 10), UInt8.ofNat (48 + c % 10)]
theorem badL_key : ∀ c : Fin 400, (1, digs (200 + c.val) ++ [32, 120]) = lineS 512 (digs (200 + c.val) ++ [32, 120]) ∧ cutL (digs (200 + c.val) ++ [32, 120, 13, 10, 50, 53, 48, 32, 109, 111, 114, 101, 13, 10]) = some (digs (200 + c.val) ++ [32, 120], [50, 53, 48, 32, 109, 111, 114, 101, 13, 10]) ∧ oneS 1 (digs (200 + c.val) ++ [32, 120]) = some (((200 + c.val : Nat) : Int), false, [120]) := by decide +kernel
theorem badL_lines : ∀ c : Nat, 200 ≤ c → c ≤ 599 → ∃ r, crlfS 512 [] (badL c) = ((1, udecS c ++ [32, 120]) :: r, []) ∧ oneS 1 (udecS c ++ [32, 120]) = some ((c : Int), false, [120]) := by
  intro c h1 h2
  have e : udecS c = [UInt8.ofNat (48 + c / 100), UInt8.ofNat (48 + c / 10 % 10), UInt8.ofNat (48 + c % 10)] := by
    rw [udecS, dif_neg (by omega), udecS, dif_neg (by omega), udecS, dif_pos (by omega), show c / 10 / 10 = c / 100 by omega]
    rfl
  obtain ⟨k1, k2, k3⟩ := badL_key ⟨c - 200, by omega⟩
  rw [show 200 + (⟨c - 200, by omega⟩ : Fin 400).val = c by show 200 + (c - 200) = c; omega] at k1 k2 k3
  have hm := crlf_line [50, 53, 48, 32, 109, 111, 114, 101] (by decide) (by decide)
  refine ⟨[(1, [50, 53, 48, 32, 109, 111, 114, 101])], ?_, ?_⟩
  · unfold badL
    rw [e]
    show crlfS 512 [] (digs c ++ _) = ((1, digs c ++ [32, 120]) :: _, [])
    rw [crlfS_cut, k2]
    dsimp only
    rw [List.nil_append, ← k1, show ([50, 53, 48, 32, 109, 111, 114, 101, 13, 10] : L8) = [50, 53, 48, 32, 109, 111, 114, 101] ++ [13, 10] from rfl, hm]
  · rw [e]; exact k3
theorem stop_fed {s : CS} {st p k : Nat} {tg : List L8} (h : Idle s st p tg (List.replicate k 0)) (hst : st ≠ 3) (c : Nat) (h1 : 200 ≤ c) (h2 : c ≤ 599) (hc : (c : Int) ≠ wantC st) : (s.feed (badL c)).over = true ∧ (s.feed (badL c)).out = s.out ++ [[81, 85, 73, 84, 13, 10]] ∧ (s.feed (badL c)).codes = List.replicate k (c : Int) := by
  obtain ⟨r, e1, e2⟩ := badL_lines c h1 h2
  have e0 : ({ s with code := 0, nls := 0 } : CS) = s := by
    have hn := h.n; have h0 := h.c
    cases s; simp at hn h0; subst hn h0; rfl
  have hl : s.line 1 (udecS c ++ [32, 120]) = s.quit c := by
    unfold CS.line
    rw [e2]
    dsimp only
    rw [if_neg (by rintro ⟨q, _⟩; exact q h.n), if_neg (by simp), e0]
    unfold CS.take
    rw [if_neg (by rw [h.st]; exact hst), if_pos (by rw [h.st]; exact hc)]
  unfold CS.feed
  rw [if_neg (by rw [h.ov]; simp), h.w, List.nil_append, e1]
  dsimp only
  rw [CS.lines_cons h.ov, hl, CS.lines_over rfl]
  refine ⟨rfl, rfl, ?_⟩
  show openC c s.codes = _
  rw [h.cs]
  simp [openC]
end Go.Abs.F
