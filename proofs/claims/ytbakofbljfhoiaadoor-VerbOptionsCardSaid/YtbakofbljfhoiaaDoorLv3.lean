/- Layer 3: mailboxes in commands: the plain side. -/
import Derived.Test.YtbakofbljfhoiaaDoorLv2
import Derived.Test.YtbakofbljfhoiaaDoorAbsW
namespace Go.Abs.F
open Go Go.Abs
set_option maxRecDepth 10000
set_option maxHeartbeats 20000000
set_option linter.unusedSimpArgs false
set_option linter.unusedVariables false
variable {w0 : World}
theorem splB_cov {c : UInt8} : ∀ {s : List UInt8} {x : UInt8}, x ∈ s → x = c ∨ ∃ w ∈ splB c s, x ∈ w
  | y :: s, x, h => by
    rw [splB]
    by_cases hy : y = c
    · rw [if_pos hy]
      rcases List.mem_cons.1 h with rfl | h
      · exact .inl hy
      · rcases splB_cov h with e | ⟨w, hw, hx⟩
        · exact .inl e
        · exact .inr ⟨w, List.mem_cons_of_mem _ hw, hx⟩
    · rw [if_neg hy]
      obtain ⟨a, t, ht⟩ : ∃ a t, splB c s = a :: t := by
        cases hq : splB c s with
        | nil => exact absurd hq (splB_ne c s)
        | cons a t => exact ⟨a, t, rfl⟩
      rw [ht]
      rcases List.mem_cons.1 h with rfl | h
      · exact .inr ⟨x :: a, by simp, by simp⟩
      · rcases splB_cov h with e | ⟨w, hw, hx⟩
        · exact .inl e
        · rw [ht] at hw
          rcases List.mem_cons.1 hw with rfl | hw
          · exact .inr ⟨y :: w, by simp, by simp [hx]⟩
          · exact .inr ⟨w, by simp [hw], hx⟩
def okB (x : UInt8) : Bool := atomB x || innerB x || decide (x = 46) || decide (x = 64)
theorem fullP_mem {p : UInt8 → Bool} {s : List UInt8} {x : UInt8} (h : fullP p s = true) (hx : x ∈ s) : p x = true := by
  simp only [fullP, Bool.and_eq_true, List.all_eq_true] at h
  exact h.2 x hx
theorem local_mem {s : List UInt8} {x : UInt8} (h : localS s = true) (hx : x ∈ s) : atomB x = true ∨ x = 46 := by
  simp only [localS, Bool.and_eq_true, List.all_eq_true] at h
  rcases splB_cov (c := 46) hx with e | ⟨w, hw, hxw⟩
  · exact .inr e
  · exact .inl (fullP_mem (h.2 w hw) hxw)
theorem domain_mem {s : List UInt8} {x : UInt8} (h : domainS s = true) (hx : x ∈ s) : innerB x = true ∨ x = 46 := by
  simp only [domainS, Bool.and_eq_true, List.all_eq_true] at h
  rcases splB_cov (c := 46) hx with e | ⟨w, hw, hxw⟩
  · exact .inr e
  · have := h.2 w hw
    simp only [labelS, Bool.and_eq_true] at this
    exact .inl (fullP_mem this.1.1.2 hxw)
theorem splitO_some {m a b : List UInt8} (h : splitO m = some (a, b)) : m = a ++ 64 :: b ∧ localS a = true ∧ domainS b = true ∧ 64 ∉ a := by
  unfold splitO at h
  split at h
  · rename_i hh
    injection h with h
    rcases cutB_cases 64 m with ⟨_, h2⟩ | ⟨a', r', h1, h3, h2⟩
    · rw [h2] at hh; exact absurd hh.1 (by simp)
    · rw [h2] at hh h
      simp only [Prod.mk.injEq] at h
      obtain ⟨rfl, rfl⟩ := h
      exact ⟨h1, hh.2.1, hh.2.2, h3⟩
  · cases h
theorem local_ne {s : List UInt8} (h : localS s = true) : s ≠ [] := by
  rintro rfl
  exact absurd h (by decide)
theorem okB_32 : okB 32 = false := by decide
theorem okB_60 : okB 60 = false := by decide
theorem okB_62 : okB 62 = false := by decide
theorem mail_ok {m c : List UInt8} (h : canonO m = some c) : m ≠ [] ∧ m.head? ≠ some 64 ∧ 32 ∉ m := by
  obtain ⟨⟨a, b⟩, hs, _⟩ : ∃ x, splitO m = some x ∧ x.1 ++ 64 :: lowerS x.2 = c := by
    unfold canonO at h
    cases hq : splitO m with
    | none => rw [hq] at h; cases h
    | some x => rw [hq] at h; injection h with h; exact ⟨x, rfl, h⟩
  obtain ⟨rfl, hl, hd, hn⟩ := splitO_some hs
  obtain ⟨y, t, rfl⟩ : ∃ y t, a = y :: t := by
    cases a with
    | nil => exact absurd rfl (local_ne hl)
    | cons y t => exact ⟨y, t, rfl⟩
  refine ⟨by simp, ?_, ?_⟩
  · intro e
    simp only [List.cons_append, List.head?_cons, Option.some.injEq] at e
    exact hn (by rw [e]; simp)
  · intro e
    rcases List.mem_append.1 e with e | e
    · rcases local_mem hl e with e | e
      · exact absurd e (by decide)
      · exact absurd e (by decide)
    · rcases List.mem_cons.1 e with e | e
      · exact absurd e (by decide)
      · rcases domain_mem hd e with e | e
        · exact absurd e (by decide)
        · exact absurd e (by decide)
theorem path_box {m c : List UInt8} (h : canonO m = some c) : pathO (60 :: (m ++ [62])) = some c := by
  obtain ⟨h1, h2, _⟩ := mail_ok h
  have hne : ¬ (60 :: (m ++ [62])) = [60, 62] := by
    intro e
    injection e with _ e
    exact h1 (by simpa using e)
  have ht : (60 :: (m ++ [62])).tail.dropLast = m := by simp
  have hr : routeO m = some m := by rw [routeO, if_neg h2]
  rw [pathO, if_neg hne, if_pos ⟨by simp, rfl, by rw [← List.cons_append, List.getLast?_append]; rfl⟩, ht, hr]
  exact h
theorem path_x {m : List UInt8} : pathO (60 :: (m ++ [62, 120])) = none := by
  have hne : ¬ (60 :: (m ++ [62, 120])) = [60, 62] := by
    intro e
    have := congrArg List.length e
    simp at this
  rw [pathO, if_neg hne, if_neg]
  rintro ⟨_, _, e⟩
  rw [← List.cons_append, List.getLast?_append] at e
  exact absurd e (by simp)
def tailJ : List (List UInt8) → List UInt8
  | [] => []
  | w :: ws => 32 :: (w ++ tailJ ws)
theorem splB_tail : ∀ (ws : List (List UInt8)) (p : List UInt8), 32 ∉ p → (∀ w ∈ ws, 32 ∉ w) → splB 32 (p ++ tailJ ws) = p :: ws
  | [], p, hp, _ => by rw [tailJ, List.append_nil, splB_miss hp]
  | w :: ws, p, hp, hw => by
    rw [tailJ, splB_hit hp, splB_tail ws w (hw w (by simp)) (fun x hx => hw x (by simp [hx]))]
theorem verbS_mail {l4 f5 p m : List UInt8} (ws : List (List UInt8)) (h4 : 32 ∉ l4) (hu4 : upperS l4 = [77, 65, 73, 76]) (hf : f5.length = 5) (hu5 : upperS f5 = [70, 82, 79, 77, 58]) (hp : 32 ∉ p) (hw : ∀ w ∈ ws, 32 ∉ w) (hpo : pathO p = some m) :
    verbS (l4 ++ 32 :: (f5 ++ (p ++ tailJ ws))) = normS ((eachG optS (-1, false, false) 0 ws).1, ([77, 65, 73, 76], m, (eachG optS (-1, false, false) 0 ws).2.1, (eachG optS (-1, false, false) 0 ws).2.2.1)) := by
  obtain ⟨e1, e2, e3⟩ := cut3 (w := l4) (f5 ++ (p ++ tailJ ws)) h4
  rw [verbS, cmd_MAIL e1 e2 e3 hu4 rfl, mailS, pathW]
  have hl5 : ([70, 82, 79, 77, 58] : List UInt8).length = 5 := rfl
  rw [hl5, ← hf, List.take_left, List.drop_left, splB_tail ws p hp hw, if_pos ⟨by simp, hu5⟩]
  simp only [List.headD_cons, List.tail_cons, hpo, Option.map_some]
theorem verbS_mailx {l4 f5 p : List UInt8} (h4 : 32 ∉ l4) (hu4 : upperS l4 = [77, 65, 73, 76]) (hf : f5.length = 5) (hu5 : upperS f5 = [70, 82, 79, 77, 58]) (hp : 32 ∉ p) (hpo : pathO p = none) :
    verbS (l4 ++ 32 :: (f5 ++ p)) = (501, zeroV) := by
  obtain ⟨e1, e2, e3⟩ := cut3 (w := l4) (f5 ++ p) h4
  rw [verbS, cmd_MAIL e1 e2 e3 hu4 rfl, mailS, pathW]
  have hl5 : ([70, 82, 79, 77, 58] : List UInt8).length = 5 := rfl
  rw [hl5, ← hf, List.take_left, List.drop_left, splB_miss hp, if_pos ⟨by simp, hu5⟩]
  simp only [List.headD_cons, hpo, Option.map_none]
  rfl
theorem verbS_rcpt {l4 f3 p m : List UInt8} (ws : List (List UInt8)) (h4 : 32 ∉ l4) (hu4 : upperS l4 = [82, 67, 80, 84]) (hf : f3.length = 3) (hu5 : upperS f3 = [84, 79, 58]) (hp : 32 ∉ p) (hw : ∀ w ∈ ws, 32 ∉ w) (hpo : pathO p = some m) (hm : m ≠ []) :
    verbS (l4 ++ 32 :: (f3 ++ (p ++ tailJ ws))) = normS ((eachG (fun (_ : Unit) w => (rcptO w, ())) () 0 ws).1, ([82, 67, 80, 84], m, -1, false)) := by
  obtain ⟨e1, e2, e3⟩ := cut3 (w := l4) (f3 ++ (p ++ tailJ ws)) h4
  rw [verbS, cmd_RCPT e1 e2 e3 hu4 rfl, rcptS, pathW]
  have hl5 : ([84, 79, 58] : List UInt8).length = 3 := rfl
  rw [hl5, ← hf, List.take_left, List.drop_left, splB_tail ws p hp hw, if_pos ⟨by simp, hu5⟩]
  simp only [List.headD_cons, List.tail_cons, hpo, Option.map_some]
  rw [if_neg hm]
theorem canon_ne {m c : List UInt8} (h : canonO m = some c) : c ≠ [] := by
  unfold canonO at h
  cases hq : splitO m with
  | none => rw [hq] at h; cases h
  | some x => rw [hq] at h; injection h with h; rw [← h]; simp
theorem upB_dig {b : UInt8} (h : 48 ≤ b.toNat ∧ b.toNat ≤ 57) : upB b = b := by rw [upB, if_neg (by omega)]
theorem upper_dec (n : Nat) : upperS (udecS n) = udecS n := by
  rw [upperS]
  conv => rhs; rw [← List.map_id (udecS n)]
  exact List.map_congr_left fun b hb => upB_dig (udecS_mem hb)
theorem digO_dec {n : Nat} (h : n < 1000000000) : digO (udecS n) = some n := by
  have hl : (udecS n).length ≤ 9 := udecS_len 8 n (by omega)
  have ha : (udecS n).all digB = true := by
    rw [List.all_eq_true]
    intro b hb
    exact decide_eq_true (udecS_mem hb)
  have h1 := atoi_dig (udecS_ne n) hl ha
  have h2 := atoi_dec (n : Int) (by omega) (by omega)
  rw [decS_nat] at h2
  rw [h2] at h1
  injection h1 with h1
  rw [digO, if_pos ⟨udecS_ne n, hl, ha⟩]
  congr 1
  omega
theorem optS_size (n : Nat) (h : n < 1000000000) : optS (-1, false, false) ([83, 105, 122, 101, 61] ++ udecS n) = (0, ((n : Int), false, false)) := by
  have hu : upperS ([83, 105, 122, 101, 61] ++ udecS n) = [83, 73, 90, 69] ++ 61 :: udecS n := by
    rw [upperS, List.map_append]
    have := upper_dec n
    rw [upperS] at this
    rw [this]
    rfl
  rw [optS, hu, cutB_hit (by decide), optK]
  simp [digO_dec h, sizeS]
end Go.Abs.F
