/- Layer 26: steps as text: the plain side. -/
import Derived.Test.YtnpdmkbfphcioaaGreatDoorDec
namespace Go.Abs.F
open Go Go.Abs
set_option maxRecDepth 10000
set_option linter.unusedSimpArgs false
set_option linter.unusedVariables false
/-! texts cut at a byte -/
def cutB (c : UInt8) : List UInt8 → List UInt8 × List UInt8 × Bool
  | [] => ([], [], false)
  | x :: r => if x = c then ([], r, true) else (x :: (cutB c r).1, (cutB c r).2.1, (cutB c r).2.2)
theorem cutB_hit {c : UInt8} {r : List UInt8} : ∀ {a : List UInt8}, c ∉ a → cutB c (a ++ c :: r) = (a, r, true)
  | [], _ => by simp [cutB]
  | x :: a, h => by
    simp only [List.mem_cons, not_or] at h
    simp only [List.cons_append, cutB, if_neg (fun e => h.1 (Eq.symm e)), cutB_hit h.2]
theorem cutB_miss {c : UInt8} : ∀ {a : List UInt8}, c ∉ a → cutB c a = (a, [], false)
  | [], _ => rfl
  | x :: a, h => by
    simp only [List.mem_cons, not_or] at h
    simp only [cutB, if_neg (fun e => h.1 (Eq.symm e)), cutB_miss h.2]
theorem cutB_cases (c : UInt8) : ∀ s : List UInt8, (c ∉ s ∧ cutB c s = (s, [], false)) ∨ ∃ a r, s = a ++ c :: r ∧ c ∉ a ∧ cutB c s = (a, r, true)
  | [] => .inl ⟨by simp, rfl⟩
  | x :: s => by
    by_cases hx : x = c
    · subst hx
      exact .inr ⟨[], s, rfl, by simp, by simp [cutB]⟩
    · rcases cutB_cases c s with ⟨h1, h2⟩ | ⟨a, r, h1, h2, h3⟩
      · have : c ∉ x :: s := by simp only [List.mem_cons, not_or]; exact ⟨fun e => hx e.symm, h1⟩
        exact .inl ⟨this, cutB_miss this⟩
      · have : c ∉ x :: a := by simp only [List.mem_cons, not_or]; exact ⟨fun e => hx e.symm, h2⟩
        refine .inr ⟨x :: a, r, by rw [h1]; rfl, this, ?_⟩
        rw [h1, ← List.cons_append]
        exact cutB_hit this
theorem cutB_len (c : UInt8) (s : List UInt8) (h : s ≠ []) : (cutB c s).2.1.length < s.length := by
  rcases cutB_cases c s with ⟨_, h2⟩ | ⟨a, r, h1, _, h3⟩
  · rw [h2]; exact List.length_pos_iff.2 h
  · rw [h3, h1]; simp; omega
def splB (c : UInt8) : List UInt8 → List (List UInt8)
  | [] => [[]]
  | x :: r => if x = c then [] :: splB c r else (x :: (splB c r).headD []) :: (splB c r).tail
theorem splB_ne (c : UInt8) (s : List UInt8) : splB c s ≠ [] := by
  cases s with
  | nil => simp [splB]
  | cons x r => rw [splB]; split <;> simp
theorem splB_miss {c : UInt8} : ∀ {a : List UInt8}, c ∉ a → splB c a = [a]
  | [], _ => rfl
  | x :: a, h => by
    simp only [List.mem_cons, not_or] at h
    simp only [splB, if_neg (fun e => h.1 (Eq.symm e)), splB_miss h.2]
    rfl
theorem splB_hit {c : UInt8} {r : List UInt8} : ∀ {a : List UInt8}, c ∉ a → splB c (a ++ c :: r) = a :: splB c r
  | [], _ => by simp [splB]
  | x :: a, h => by
    simp only [List.mem_cons, not_or] at h
    simp only [List.cons_append, splB, if_neg (fun e => h.1 (Eq.symm e)), splB_hit h.2]
    rfl
def joinB (c : UInt8) : List (List UInt8) → List UInt8
  | [] => []
  | [a] => a
  | a :: b :: r => a ++ c :: joinB c (b :: r)
theorem splB_join (c : UInt8) : ∀ (n : Nat) (s : List UInt8), s.length ≤ n → joinB c (splB c s) = s
  | 0, [], _ => rfl
  | n + 1, s, hn => by
    rcases cutB_cases c s with ⟨h1, _⟩ | ⟨a, r, rfl, h2, _⟩
    · rw [splB_miss h1]; rfl
    · have hr : r.length ≤ n := by simp at hn; omega
      have ih := splB_join c n r hr
      rw [splB_hit h2]
      cases hs : splB c r with
      | nil => exact absurd hs (splB_ne c r)
      | cons b t => rw [joinB, ← hs, ih]
theorem join_splB (c : UInt8) (s : List UInt8) : joinB c (splB c s) = s := splB_join c _ s (Nat.le_refl _)
/-! what is written -/
/-- A step: its kind, its numbers, its text. -/
abbrev St := Int × Int × Int × List UInt8
def fitsS (n : Int) : Bool := decide (-4611686018427387904 ≤ n) && decide (n ≤ 4611686018427387904)
def hexd (n : Nat) : UInt8 := if n < 10 then UInt8.ofNat (48 + n) else UInt8.ofNat (87 + n)
def hexG : List UInt8 → List UInt8
  | [] => []
  | b :: r => hexd (b.toNat / 16) :: hexd (b.toNat % 16) :: hexG r
def hexS (s : List UInt8) : List UInt8 := 120 :: hexG s
def wordsS (x : St) : List (List UInt8) := [[115, 116, 101, 112], decS x.1, decS x.2.1, decS x.2.2.1, hexS x.2.2.2]
def stepS (x : St) : List UInt8 := joinB 32 (wordsS x) ++ [10]
def roomS (n : Int) : List UInt8 := joinB 32 [[114, 111, 111, 109], decS n] ++ [10]
def stepsS : List St → List UInt8
  | [] => []
  | x :: l => stepS x ++ stepsS l
def printS (n : Int) (l : List St) : List UInt8 := roomS n ++ stepsS l
def stFits (x : St) : Bool := fitsS x.1 && fitsS x.2.1 && fitsS x.2.2.1
def goodS (n : Int) (l : List St) : Bool := fitsS n && l.all stFits
/-! what is read -/
def isHexd (b : UInt8) : Bool := (decide (48 ≤ b.toNat) && decide (b.toNat ≤ 57)) || (decide (97 ≤ b.toNat) && decide (b.toNat ≤ 102))
def unhexd (b : UInt8) : Nat := if b.toNat ≤ 57 then b.toNat - 48 else b.toNat - 87
def unhex : List UInt8 → List UInt8
  | a :: b :: r => UInt8.ofNat (unhexd a * 16 + unhexd b) :: unhex r
  | _ => []
def textO : List UInt8 → Option (List UInt8)
  | [] => none
  | x :: r => if x = 120 ∧ r.length % 2 = 0 ∧ r.all isHexd = true then some (unhex r) else none
def numO (s : List UInt8) : Option Int := match Lib.atoiAll s with
  | .ok v => if decS v = s ∧ fitsS v = true then some v else none
  | _ => none
def stepO : List (List UInt8) → Option St
  | [w, k, a, b, t] => if w = [115, 116, 101, 112] then
      match numO k, numO a, numO b, textO t with
      | some k, some a, some b, some t => some (k, a, b, t)
      | _, _, _, _ => none
    else none
  | _ => none
def roomO : List (List UInt8) → Option Int
  | [w, n] => if w = [114, 111, 111, 109] then numO n else none
  | _ => none
/-- The steps behind a text's first line; the number of a line that is none, or 0. -/
def parseT (k : Nat) (s : List UInt8) (acc : List St) : Nat × List St :=
  if h : s = [] then (0, acc) else
  match stepO (splB 32 (cutB 10 s).1), (cutB 10 s).2.2 with
  | some x, true => parseT (k + 1) (cutB 10 s).2.1 (acc ++ [x])
  | _, _ => (k, [])
termination_by s.length
decreasing_by exact cutB_len 10 s h
/-- A text: the room, the steps, the line that is none (0: all are). -/
def parseS (s : List UInt8) : Int × List St × Nat :=
  match roomO (splB 32 (cutB 10 s).1), (cutB 10 s).2.2 with
  | some n, true => if (parseT 2 (cutB 10 s).2.1 []).1 = 0 then (n, (parseT 2 (cutB 10 s).2.1 []).2, 0) else (0, [], (parseT 2 (cutB 10 s).2.1 []).1)
  | _, _ => (0, [], 1)
theorem parseT_nil (k : Nat) (acc : List St) : parseT k [] acc = (0, acc) := by rw [parseT, dif_pos rfl]
theorem parseT_ok {k : Nat} {a r : List UInt8} {acc : List St} {x : St} (ha : (10 : UInt8) ∉ a) (hx : stepO (splB 32 a) = some x) : parseT k (a ++ 10 :: r) acc = parseT (k + 1) r (acc ++ [x]) := by
  rw [parseT, dif_neg (by simp), cutB_hit ha]
  simp only [hx]
theorem parseT_bad {k : Nat} {a r : List UInt8} {acc : List St} (ha : (10 : UInt8) ∉ a) (hx : stepO (splB 32 a) = none) : parseT k (a ++ 10 :: r) acc = (k, []) := by
  rw [parseT, dif_neg (by simp), cutB_hit ha]
  simp only [hx]
theorem parseT_cut {k : Nat} {a : List UInt8} {acc : List St} (ha : (10 : UInt8) ∉ a) (hn : a ≠ []) : parseT k a acc = (k, []) := by
  rw [parseT, dif_neg hn, cutB_miss ha]
  cases stepO (splB 32 a) <;> rfl
/-! numbers, texts, steps -/
theorem fitsS_iff {n : Int} : fitsS n = true ↔ -4611686018427387904 ≤ n ∧ n ≤ 4611686018427387904 := by simp [fitsS]
theorem numO_dec {n : Int} (h : fitsS n = true) : numO (decS n) = some n := by
  have h2 := fitsS_iff.1 h
  rw [numO, atoi_dec n (by omega) (by omega)]
  simp only [h, and_self, if_true]
theorem numO_some {s : List UInt8} {n : Int} (h : numO s = some n) : s = decS n ∧ fitsS n = true := by
  unfold numO at h
  split at h
  · split at h
    · rename_i hh
      simp only [Option.some.injEq] at h
      subst h
      exact ⟨hh.1.symm, hh.2⟩
    · cases h
  · cases h
theorem hexd_lt {n : Nat} (h : n < 16) : (hexd n).toNat = if n < 10 then 48 + n else 87 + n := by
  unfold hexd
  split
  · rw [u8n (by omega)]
  · rw [u8n (by omega)]
theorem hexd_is {n : Nat} (h : n < 16) : isHexd (hexd n) = true := by
  rw [isHexd, hexd_lt h]
  split <;> simp <;> omega
theorem unhexd_hexd {n : Nat} (h : n < 16) : unhexd (hexd n) = n := by
  rw [unhexd, hexd_lt h]
  split <;> split <;> omega
theorem hexG_len : ∀ s : List UInt8, (hexG s).length = 2 * s.length
  | [] => rfl
  | b :: r => by simp only [hexG, List.length_cons, hexG_len r]; omega
theorem hexG_all : ∀ s : List UInt8, (hexG s).all isHexd = true
  | [] => rfl
  | b :: r => by
    have := b.toNat_lt
    simp only [hexG, List.all_cons, hexG_all r, hexd_is (show b.toNat / 16 < 16 by omega), hexd_is (show b.toNat % 16 < 16 by omega), Bool.and_self]
theorem unhex_hexG : ∀ s : List UInt8, unhex (hexG s) = s
  | [] => rfl
  | b :: r => by
    have := b.toNat_lt
    simp only [hexG, unhex, unhex_hexG r, unhexd_hexd (show b.toNat / 16 < 16 by omega), unhexd_hexd (show b.toNat % 16 < 16 by omega)]
    congr 1
    apply UInt8.toNat_inj.1
    rw [u8n (by omega)]; omega
theorem unhexd_lt {a : UInt8} (h : isHexd a = true) : unhexd a < 16 ∧ hexd (unhexd a) = a := by
  have hl := a.toNat_lt
  simp only [isHexd, Bool.or_eq_true, Bool.and_eq_true, decide_eq_true_eq] at h
  have h1 : unhexd a < 16 := by rw [unhexd]; split <;> omega
  refine ⟨h1, ?_⟩
  apply UInt8.toNat_inj.1
  rw [hexd_lt h1]
  simp only [unhexd]
  split <;> split <;> omega
theorem hexG_unhex : ∀ (n : Nat) (s : List UInt8), s.length = 2 * n → s.all isHexd = true → hexG (unhex s) = s
  | 0, [], _, _ => rfl
  | n + 1, [], h, _ => by simp at h
  | n + 1, [a], h, _ => by simp at h; omega
  | n + 1, a :: b :: r, h, hh => by
    simp only [List.all_cons, Bool.and_eq_true] at hh
    have ⟨a1, a2⟩ := unhexd_lt hh.1
    have ⟨b1, b2⟩ := unhexd_lt hh.2.1
    simp only [unhex, hexG]
    rw [hexG_unhex n r (by simp at h; omega) hh.2.2, u8n (by omega), show (unhexd a * 16 + unhexd b) / 16 = unhexd a by omega, show (unhexd a * 16 + unhexd b) % 16 = unhexd b by omega, a2, b2]
theorem textO_hex (s : List UInt8) : textO (hexS s) = some s := by
  rw [hexS, textO, if_pos ⟨rfl, by rw [hexG_len]; omega, hexG_all s⟩, unhex_hexG]
theorem textO_some {s t : List UInt8} (h : textO s = some t) : s = hexS t := by
  cases s with
  | nil => cases h
  | cons x r =>
    rw [textO] at h
    split at h
    · rename_i hh
      simp only [Option.some.injEq] at h
      subst h
      rw [hexS, hexG_unhex (r.length / 2) r (by omega) hh.2.2, hh.1]
    · cases h
theorem stepO_words {x : St} (h : stFits x = true) : stepO (wordsS x) = some x := by
  simp only [stFits, Bool.and_eq_true] at h
  simp only [wordsS, stepO, if_true, numO_dec h.1.1, numO_dec h.1.2, numO_dec h.2, textO_hex]
theorem stepO_some {ws : List (List UInt8)} {x : St} (h : stepO ws = some x) : ws = wordsS x ∧ stFits x = true := by
  unfold stepO at h
  split at h
  · split at h
    · rename_i w k a b t hw
      split at h
      · rename_i k' a' b' t' hk ha hb ht
        simp only [Option.some.injEq] at h
        subst h
        have h1 := numO_some hk
        have h2 := numO_some ha
        have h3 := numO_some hb
        have h4 := textO_some ht
        refine ⟨?_, ?_⟩
        · simp only [wordsS, ← h1.1, ← h2.1, ← h3.1, ← h4, hw]
        · simp only [stFits, h1.2, h2.2, h3.2, Bool.and_self]
      · cases h
    · cases h
  · cases h
theorem roomO_words {n : Int} (h : fitsS n = true) : roomO [[114, 111, 111, 109], decS n] = some n := by
  simp only [roomO, if_true, numO_dec h]
theorem roomO_some {ws : List (List UInt8)} {n : Int} (h : roomO ws = some n) : ws = [[114, 111, 111, 109], decS n] ∧ fitsS n = true := by
  unfold roomO at h
  split at h
  · split at h
    · rename_i w k hw
      have h1 := numO_some h
      refine ⟨?_, h1.2⟩
      rw [← h1.1, hw]
    · cases h
  · cases h
theorem hexG_not {s : List UInt8} {c : UInt8} (h : isHexd c = false) : c ∉ hexG s := fun hm => by
  have := List.all_eq_true.1 (hexG_all s) c hm
  rw [h] at this
  cases this
theorem hexS_not {s : List UInt8} {c : UInt8} (h : isHexd c = false) (h2 : c ≠ 120) : c ∉ hexS s := by
  simp only [hexS, List.mem_cons, not_or]
  exact ⟨h2, hexG_not h⟩
theorem words_spl (x : St) : splB 32 (joinB 32 (wordsS x)) = wordsS x := by
  simp only [wordsS, joinB]
  rw [splB_hit (by decide), splB_hit (decS_not (by decide) (by decide)), splB_hit (decS_not (by decide) (by decide)), splB_hit (decS_not (by decide) (by decide)), splB_miss (hexS_not (by decide) (by decide))]
theorem words_nl (x : St) : (10 : UInt8) ∉ joinB 32 (wordsS x) := by
  simp only [wordsS, joinB, List.mem_append, List.mem_cons, not_or]
  refine ⟨by decide, by decide, decS_not (by decide) (by decide), by decide, decS_not (by decide) (by decide), by decide, decS_not (by decide) (by decide), by decide, hexS_not (by decide) (by decide)⟩
theorem room_spl (n : Int) : splB 32 (joinB 32 [[114, 111, 111, 109], decS n]) = [[114, 111, 111, 109], decS n] := by
  simp only [joinB]
  rw [splB_hit (by decide), splB_miss (decS_not (by decide) (by decide))]
theorem room_nl (n : Int) : (10 : UInt8) ∉ joinB 32 [[114, 111, 111, 109], decS n] := by
  simp only [joinB, List.mem_append, List.mem_cons, not_or]
  refine ⟨by decide, by decide, decS_not (by decide) (by decide)⟩
/-! the laws' plain sides -/
theorem parseT_steps {r : List UInt8} : ∀ (l : List St) (k : Nat) (acc : List St), l.all stFits = true → parseT k (stepsS l ++ r) acc = parseT (k + l.length) r (acc ++ l)
  | [], k, acc, _ => by simp [stepsS]
  | x :: l, k, acc, h => by
    simp only [List.all_cons, Bool.and_eq_true] at h
    rw [stepsS, stepS, List.append_assoc, List.append_assoc, List.singleton_append, parseT_ok (words_nl x) (by rw [words_spl]; exact stepO_words h.1), parseT_steps l _ _ h.2, List.length_cons, List.append_assoc, List.singleton_append]
    congr 1; omega
theorem parseS_room {n : Int} {r : List UInt8} (h : fitsS n = true) : parseS (roomS n ++ r) = if (parseT 2 r []).1 = 0 then (n, (parseT 2 r []).2, 0) else (0, [], (parseT 2 r []).1) := by
  rw [parseS, roomS, List.append_assoc, List.singleton_append, cutB_hit (room_nl n)]
  simp only [room_spl, roomO_words h]
theorem parseS_print {n : Int} {l : List St} (h : goodS n l = true) : parseS (printS n l) = (n, l, 0) := by
  simp only [goodS, Bool.and_eq_true] at h
  have := parseT_steps (r := []) l 2 [] h.2
  rw [List.append_nil, parseT_nil, List.nil_append] at this
  rw [printS, parseS_room h.1, this]
  simp only [if_true]
theorem parseT_reads : ∀ (m : Nat) (s : List UInt8) (k : Nat) (acc : List St), s.length ≤ m → 0 < k →
    ((parseT k s acc).1 = 0 → ∃ l, (parseT k s acc).2 = acc ++ l ∧ stepsS l = s) ∧ ((parseT k s acc).1 ≠ 0 → k ≤ (parseT k s acc).1 ∧ (parseT k s acc).1 ≤ k + s.count 10)
  | m, [], k, acc, _, _ => by rw [parseT_nil]; exact ⟨fun _ => ⟨[], by simp, rfl⟩, fun h => absurd rfl h⟩
  | m + 1, x :: s, k, acc, hm, hk => by
    generalize hs : x :: s = t at hm
    have hne : t ≠ [] := by rw [← hs]; simp
    clear hs
    rcases cutB_cases 10 t with ⟨h1, h2⟩ | ⟨a, r, rfl, h2, h3⟩
    · rw [parseT_cut h1 hne]
      exact ⟨fun h => by simp at h; omega, fun _ => ⟨Nat.le_refl _, Nat.le_add_right _ _⟩⟩
    · cases hx : stepO (splB 32 a) with
      | none =>
        rw [parseT_bad h2 hx]
        exact ⟨fun h => by simp at h; omega, fun _ => ⟨Nat.le_refl _, Nat.le_add_right _ _⟩⟩
      | some y =>
        rw [parseT_ok h2 hx]
        have hr : r.length ≤ m := by simp at hm; omega
        obtain ⟨i1, i2⟩ := parseT_reads m r (k + 1) (acc ++ [y]) hr (by omega)
        refine ⟨fun h => ?_, fun h => ?_⟩
        · obtain ⟨l, e1, e2⟩ := i1 h
          refine ⟨y :: l, by rw [e1]; simp, ?_⟩
          have h4 := (stepO_some hx).1
          rw [stepsS, stepS, ← h4, join_splB, e2]
          simp
        · have := i2 h
          simp only [List.count_append, List.count_cons_self]
          omega
theorem parseS_reads (s : List UInt8) : ((parseS s).2.2 = 0 → printS (parseS s).1 (parseS s).2.1 = s) ∧ ((parseS s).2.2 ≠ 0 → (parseS s).1 = 0 ∧ (parseS s).2.1 = [] ∧ 1 ≤ (parseS s).2.2 ∧ (parseS s).2.2 ≤ s.count 10 + 1) := by
  rcases cutB_cases 10 s with ⟨h1, h2⟩ | ⟨a, r, rfl, h2, h3⟩
  · have : parseS s = (0, [], 1) := by
      rw [parseS, h2]
      cases roomO (splB 32 s) <;> rfl
    rw [this]
    exact ⟨fun h => by simp at h, fun _ => ⟨rfl, rfl, Nat.le_refl _, by simp⟩⟩
  · cases hx : roomO (splB 32 a) with
    | none =>
      have : parseS (a ++ 10 :: r) = (0, [], 1) := by rw [parseS, h3]; simp only [hx]
      rw [this]
      exact ⟨fun h => by simp at h, fun _ => ⟨rfl, rfl, Nat.le_refl _, by simp⟩⟩
    | some n =>
      obtain ⟨e1, e2⟩ := roomO_some hx
      have ea : joinB 32 [[114, 111, 111, 109], decS n] = a := by rw [← e1, join_splB]
      have es : a ++ 10 :: r = roomS n ++ r := by rw [roomS, ea]; simp
      rw [es, parseS_room e2]
      obtain ⟨i1, i2⟩ := parseT_reads r.length r 2 [] (Nat.le_refl _) (by omega)
      split
      · rename_i h0
        obtain ⟨l, f1, f2⟩ := i1 h0
        refine ⟨fun _ => ?_, fun h => absurd rfl h⟩
        rw [f1, List.nil_append, printS, f2]
      · rename_i h0
        refine ⟨fun h => absurd h h0, fun _ => ⟨rfl, rfl, ?_⟩⟩
        have h5 := i2 h0
        have h6 : (roomS n ++ r).count 10 = 1 + r.count 10 := by
          rw [roomS, List.append_assoc, List.singleton_append, List.count_append, List.count_eq_zero.2 (room_nl n), List.count_cons_self]
          omega
        rw [h6]
        simp only at h5 ⊢
        omega
theorem parseS_line {n n' : Int} {l l' : List St} {t : List UInt8} (h : goodS n l = true) (ht : (10 : UInt8) ∉ t) (hx : stepO (splB 32 t) = none) {r : List UInt8} : parseS (printS n l ++ t ++ 10 :: r) = (0, [], l.length + 2) := by
  simp only [goodS, Bool.and_eq_true] at h
  rw [printS, List.append_assoc, List.append_assoc, parseS_room h.1, parseT_steps l 2 [] h.2, parseT_bad ht hx]
  simp only []
  rw [if_neg (by omega), Nat.add_comm]
theorem stepsS_app (l m : List St) : stepsS (l ++ m) = stepsS l ++ stepsS m := by
  induction l with
  | nil => rfl
  | cons x l ih => rw [List.cons_append, stepsS, stepsS, ih, List.append_assoc]
theorem parseS_ends {n : Int} {l : List St} (h : goodS n l = true) : parseS ((printS n l).dropLast) = (0, [], l.length + 1) := by
  simp only [goodS, Bool.and_eq_true] at h
  rcases List.eq_nil_or_concat l with rfl | ⟨l', x, rfl⟩
  · rw [printS, stepsS, List.append_nil, roomS, List.dropLast_concat, parseS, cutB_miss (room_nl n)]
    cases roomO (splB 32 (joinB 32 [[114, 111, 111, 109], decS n])) <;> rfl
  · have h2 := h.2
    rw [List.concat_eq_append, List.all_append] at h2
    simp only [Bool.and_eq_true] at h2
    have e : (printS n (l'.concat x)).dropLast = roomS n ++ (stepsS l' ++ joinB 32 (wordsS x)) := by
      rw [printS, List.concat_eq_append, stepsS_app, stepsS, stepsS, List.append_nil, stepS, ← List.append_assoc, ← List.append_assoc, List.dropLast_concat, List.append_assoc]
    rw [e, parseS_room h.1, parseT_steps l' 2 [] h2.1, parseT_cut (words_nl x) (by simp [wordsS, joinB])]
    simp only [List.length_concat]
    rw [if_neg (by omega)]
    congr 2; omega
end Go.Abs.F
