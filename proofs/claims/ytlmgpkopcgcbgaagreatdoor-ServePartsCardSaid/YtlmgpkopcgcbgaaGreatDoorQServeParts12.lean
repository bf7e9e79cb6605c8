/- What the proof needs, part 12: The reference's numbers; Layer 26: steps as text: the plain side; Digits. -/
import Derived.Test.YtlmgpkopcgcbgaaGreatDoorQServeParts10
import Derived.Test.YtlmgpkopcgcbgaaGreatDoorQServeParts11
import Derived.Lib.AtoiAll
/- The reference's numbers. -/
namespace Go.Abs.F
open Go Go.Abs
set_option maxRecDepth 10000
set_option maxHeartbeats 20000000
set_option linter.unusedSimpArgs false
set_option linter.unusedVariables false
variable {w0 : World}
/-- A number's digits. -/
def udecS (n : Nat) : List UInt8 := if h : n < 10 then [UInt8.ofNat (48 + n)] else udecS (n / 10) ++ [UInt8.ofNat (48 + n % 10)]
termination_by n
decreasing_by omega
theorem udecS_len (k : Nat) : ∀ n, n < 10 ^ (k + 1) → (udecS n).length ≤ k + 1 := by
  induction k with
  | zero =>
    intro n hn
    rw [udecS, dif_pos (by omega)]
    simp
  | succ k ih =>
    intro n hn
    rw [udecS]
    split
    · simp
    · have := ih (n / 10) (by rw [Nat.pow_succ] at hn; omega)
      simp only [List.length_append, List.length_cons, List.length_nil]
      omega
theorem udecS_20 (n : Nat) (h : n ≤ 18446744073709551615) : (udecS n).length ≤ 20 := udecS_len 19 n (by omega)
/-- An int's digits. -/
def decS (n : Int) : List UInt8 := if n < 0 then 45 :: udecS (-n).toNat else udecS n.toNat
theorem decS_nat (n : Nat) : decS (n : Int) = udecS n := by rw [decS, if_neg (by omega), Int.toNat_natCast]
theorem decS_len (n : Int) (h0 : -9223372036854775808 ≤ n) (h1 : n ≤ 9223372036854775807) : (decS n).length ≤ 21 := by
  rw [decS]
  split
  · have := udecS_20 (-n).toNat (by omega)
    simp only [List.length_cons]; omega
  · have := udecS_20 n.toNat (by omega)
    omega
/-! numbers read back -/
theorem u8n {n : Nat} (h : n < 256) : (UInt8.ofNat n).toNat = n := by rw [UInt8.toNat_ofNat']; omega
end Go.Abs.F
/- Layer 26: steps as text: the plain side. -/
namespace Go.Abs.F
open Go Go.Abs
set_option maxRecDepth 10000
set_option linter.unusedSimpArgs false
set_option linter.unusedVariables false
/-! texts cut at a byte -/
def cutB (c : UInt8) : List UInt8 → List UInt8 × List UInt8 × Bool
  | [] => ([], [], false)
  | x :: r => if x = c then ([], r, true) else (x :: (cutB c r).1, (cutB c r).2.1, (cutB c r).2.2)
theorem cutB_hit {c : UInt8} {r : List UInt8} : ∀ {a : List UInt8}, c ∉ a → cutB c (a ++ c :: r) = (a, r, true)
  | [], _ => by simp [cutB]
  | x :: a, h => by
    simp only [List.mem_cons, not_or] at h
    simp only [List.cons_append, cutB, if_neg (fun e => h.1 (Eq.symm e)), cutB_hit h.2]
theorem cutB_miss {c : UInt8} : ∀ {a : List UInt8}, c ∉ a → cutB c a = (a, [], false)
  | [], _ => rfl
  | x :: a, h => by
    simp only [List.mem_cons, not_or] at h
    simp only [cutB, if_neg (fun e => h.1 (Eq.symm e)), cutB_miss h.2]
theorem cutB_cases (c : UInt8) : ∀ s : List UInt8, (c ∉ s ∧ cutB c s = (s, [], false)) ∨ ∃ a r, s = a ++ c :: r ∧ c ∉ a ∧ cutB c s = (a, r, true)
  | [] => .inl ⟨by simp, rfl⟩
  | x :: s => by
    by_cases hx : x = c
    · subst hx
      exact .inr ⟨[], s, rfl, by simp, by simp [cutB]⟩
    · rcases cutB_cases c s with ⟨h1, h2⟩ | ⟨a, r, h1, h2, h3⟩
      · have : c ∉ x :: s := by simp only [List.mem_cons, not_or]; exact ⟨fun e => hx e.symm, h1⟩
        exact .inl ⟨this, cutB_miss this⟩
      · have : c ∉ x :: a := by simp only [List.mem_cons, not_or]; exact ⟨fun e => hx e.symm, h2⟩
        refine .inr ⟨x :: a, r, by rw [h1]; rfl, this, ?_⟩
        rw [h1, ← List.cons_append]
        exact cutB_hit this
def splB (c : UInt8) : List UInt8 → List (List UInt8)
  | [] => [[]]
  | x :: r => if x = c then [] :: splB c r else (x :: (splB c r).headD []) :: (splB c r).tail
theorem splB_ne (c : UInt8) (s : List UInt8) : splB c s ≠ [] := by
  cases s with
  | nil => simp [splB]
  | cons x r => rw [splB]; split <;> simp
theorem splB_miss {c : UInt8} : ∀ {a : List UInt8}, c ∉ a → splB c a = [a]
  | [], _ => rfl
  | x :: a, h => by
    simp only [List.mem_cons, not_or] at h
    simp only [splB, if_neg (fun e => h.1 (Eq.symm e)), splB_miss h.2]
    rfl
theorem splB_hit {c : UInt8} {r : List UInt8} : ∀ {a : List UInt8}, c ∉ a → splB c (a ++ c :: r) = a :: splB c r
  | [], _ => by simp [splB]
  | x :: a, h => by
    simp only [List.mem_cons, not_or] at h
    simp only [List.cons_append, splB, if_neg (fun e => h.1 (Eq.symm e)), splB_hit h.2]
    rfl
/-! what is written -/
/-! what is read -/
/-! numbers, texts, steps -/
/-! the laws' plain sides -/
end Go.Abs.F
/- Digits. -/
namespace Go.Abs.F
open Go Go.Abs
set_option maxRecDepth 10000
set_option linter.unusedSimpArgs false
set_option linter.unusedVariables false
def digB (b : UInt8) : Bool := decide (48 ≤ b.toNat ∧ b.toNat ≤ 57)
def valB (acc : Nat) (s : List UInt8) : Nat := s.foldl (fun n b => n * 10 + (b.toNat - 48)) acc
def digO (s : List UInt8) : Option Nat := if s ≠ [] ∧ s.length ≤ 9 ∧ s.all digB = true then some (valB 0 s) else none
theorem valB_lt : ∀ (s : List UInt8) (acc k : Nat), s.all digB = true → acc < 10 ^ k → valB acc s < 10 ^ (k + s.length)
  | [], acc, k, _, h => h
  | b :: s, acc, k, hd, h => by
    simp only [List.all_cons, Bool.and_eq_true, digB, decide_eq_true_eq] at hd
    have := valB_lt s (acc * 10 + (b.toNat - 48)) (k + 1) (by simpa [digB] using hd.2) (by rw [Nat.pow_succ]; omega)
    rw [List.length_cons, show k + (s.length + 1) = k + 1 + s.length by omega]
    exact this
theorem parse10_all : ∀ (s : List UInt8) (acc k : Nat), s.all digB = true → acc < 10 ^ k → k + s.length ≤ 18 → Lib.parseUint10 acc s = .ok (valB acc s)
  | [], acc, k, _, h, _ => rfl
  | b :: s, acc, k, hd, h, hk => by
    simp only [List.all_cons, Bool.and_eq_true, digB, decide_eq_true_eq] at hd
    have hp : (10 : Nat) ^ (k + 1) ≤ 10 ^ 18 := Nat.pow_le_pow_right (by decide) (by simp at hk; omega)
    have hp2 : acc * 10 + (b.toNat - 48) < 10 ^ (k + 1) := by rw [Nat.pow_succ]; omega
    have e18 : (10 : Nat) ^ 18 = 1000000000000000000 := by decide
    rw [Nat.pow_succ] at hp
    rw [Nat.pow_succ] at hp2
    simp only [Lib.parseUint10]
    rw [if_pos hd.1, if_neg (by omega), if_neg (by omega)]
    exact parse10_all s _ (k + 1) (by simpa [digB] using hd.2) (by rw [Nat.pow_succ]; exact hp2) (by simp at hk; omega)
theorem atoi_dig {s : List UInt8} (h1 : s ≠ []) (h2 : s.length ≤ 9) (h3 : s.all digB = true) : Lib.atoiAll s = .ok ((valB 0 s : Nat) : Int) := by
  have hp := parse10_all s 0 0 h3 (by decide) (by omega)
  have hv := valB_lt s 0 0 h3 (by decide)
  have hq : (10 : Nat) ^ (0 + s.length) ≤ 10 ^ 9 := Nat.pow_le_pow_right (by decide) (by omega)
  have e9 : (10 : Nat) ^ 9 = 1000000000 := by decide
  cases s with
  | nil => exact absurd rfl h1
  | cons c r =>
    have hc : 48 ≤ c.toNat ∧ c.toNat ≤ 57 := by
      simp only [List.all_cons, Bool.and_eq_true, digB, decide_eq_true_eq] at h3
      exact h3.1
    simp only [Lib.atoiAll]
    rw [if_neg (by omega), Lib.parseMag, if_neg (by simp), hp]
    simp only []
    rw [if_neg (by omega), if_neg (by omega), if_neg (by omega)]
end Go.Abs.F
