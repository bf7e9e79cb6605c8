/- Digits. -/
import Derived.Test.YtnpdmkbfphcioaaGreatDoorDec
namespace Go.Abs.F
open Go Go.Abs
set_option maxRecDepth 10000
set_option linter.unusedSimpArgs false
set_option linter.unusedVariables false
def digB (b : UInt8) : Bool := decide (48 ≤ b.toNat ∧ b.toNat ≤ 57)
def valB (acc : Nat) (s : List UInt8) : Nat := s.foldl (fun n b => n * 10 + (b.toNat - 48)) acc
def digO (s : List UInt8) : Option Nat := if s ≠ [] ∧ s.length ≤ 9 ∧ s.all digB = true then some (valB 0 s) else none
theorem valB_lt : ∀ (s : List UInt8) (acc k : Nat), s.all digB = true → acc < 10 ^ k → valB acc s < 10 ^ (k + s.length)
  | [], acc, k, _, h => h
  | b :: s, acc, k, hd, h => by
    simp only [List.all_cons, Bool.and_eq_true, digB, decide_eq_true_eq] at hd
    have := valB_lt s (acc * 10 + (b.toNat - 48)) (k + 1) (by simpa [digB] using hd.2) (by rw [Nat.pow_succ]; omega)
    rw [List.length_cons, show k + (s.length + 1) = k + 1 + s.length by omega]
    exact this
theorem parse10_all : ∀ (s : List UInt8) (acc k : Nat), s.all digB = true → acc < 10 ^ k → k + s.length ≤ 18 → Lib.parseUint10 acc s = .ok (valB acc s)
  | [], acc, k, _, h, _ => rfl
  | b :: s, acc, k, hd, h, hk => by
    simp only [List.all_cons, Bool.and_eq_true, digB, decide_eq_true_eq] at hd
    have hp : (10 : Nat) ^ (k + 1) ≤ 10 ^ 18 := Nat.pow_le_pow_right (by decide) (by simp at hk; omega)
    have hp2 : acc * 10 + (b.toNat - 48) < 10 ^ (k + 1) := by rw [Nat.pow_succ]; omega
    have e18 : (10 : Nat) ^ 18 = 1000000000000000000 := by decide
    rw [Nat.pow_succ] at hp
    rw [Nat.pow_succ] at hp2
    simp only [Lib.parseUint10]
    rw [if_pos hd.1, if_neg (by omega), if_neg (by omega)]
    exact parse10_all s _ (k + 1) (by simpa [digB] using hd.2) (by rw [Nat.pow_succ]; exact hp2) (by simp at hk; omega)
theorem atoi_dig {s : List UInt8} (h1 : s ≠ []) (h2 : s.length ≤ 9) (h3 : s.all digB = true) : Lib.atoiAll s = .ok ((valB 0 s : Nat) : Int) := by
  have hp := parse10_all s 0 0 h3 (by decide) (by omega)
  have hv := valB_lt s 0 0 h3 (by decide)
  have hq : (10 : Nat) ^ (0 + s.length) ≤ 10 ^ 9 := Nat.pow_le_pow_right (by decide) (by omega)
  have e9 : (10 : Nat) ^ 9 = 1000000000 := by decide
  cases s with
  | nil => exact absurd rfl h1
  | cons c r =>
    have hc : 48 ≤ c.toNat ∧ c.toNat ≤ 57 := by
      simp only [List.all_cons, Bool.and_eq_true, digB, decide_eq_true_eq] at h3
      exact h3.1
    simp only [Lib.atoiAll]
    rw [if_neg (by omega), Lib.parseMag, if_neg (by simp), hp]
    simp only []
    rw [if_neg (by omega), if_neg (by omega), if_neg (by omega)]
theorem valB_app (p : List UInt8) (d : UInt8) (acc : Nat) : valB acc (p ++ [d]) = valB acc p * 10 + (d.toNat - 48) := by simp [valB]
theorem u8_dig {d : UInt8} (h : digB d = true) : UInt8.ofNat (48 + (d.toNat - 48)) = d := by
  simp only [digB, decide_eq_true_eq] at h
  apply UInt8.toNat_inj.1
  rw [UInt8.toNat_ofNat']
  have := d.toNat_lt
  omega
/-- Digits, the first not a nought, are a number's. -/
theorem udecS_val : ∀ (n : Nat) (s : List UInt8), s.length = n → s ≠ [] → s.head? ≠ some 48 → s.all digB = true → udecS (valB 0 s) = s ∧ 1 ≤ valB 0 s := by
  intro n
  induction n with
  | zero => intro s h hne; exact absurd (List.eq_nil_of_length_eq_zero h) hne
  | succ n ih =>
    intro s hl hne hh hd
    rcases List.eq_nil_or_concat s with rfl | ⟨p, d, rfl⟩
    · exact absurd rfl hne
    rw [List.concat_eq_append] at *
    rw [valB_app]
    rw [List.all_append, Bool.and_eq_true] at hd
    have hdd : digB d = true := by simpa using hd.2
    have hd2 : 48 ≤ d.toNat ∧ d.toNat ≤ 57 := by simpa [digB] using hdd
    cases p with
    | nil =>
      have h48 : d.toNat ≠ 48 := fun e => hh (by
        have : d = 48 := UInt8.toNat_inj.1 (by simpa using e)
        simp [this])
      have e0 : valB 0 ([] : List UInt8) = 0 := rfl
      rw [e0]
      refine ⟨?_, by omega⟩
      rw [udecS, dif_pos (by omega)]
      have := u8_dig hdd
      simp only [Nat.zero_mul, Nat.zero_add, List.nil_append]
      rw [this]
    | cons c p =>
      obtain ⟨h1, h2⟩ := ih (c :: p) (by simpa using hl) (by simp) (by simpa using hh) hd.1
      refine ⟨?_, by omega⟩
      rw [udecS, dif_neg (by omega)]
      have e1 : (valB 0 (c :: p) * 10 + (d.toNat - 48)) / 10 = valB 0 (c :: p) := by omega
      have e2 : (valB 0 (c :: p) * 10 + (d.toNat - 48)) % 10 = d.toNat - 48 := by omega
      rw [e1, e2, h1, u8_dig hdd]
theorem udecS_dig (n : Nat) : (udecS n).all digB = true := by
  rw [List.all_eq_true]
  intro b hb
  simp only [digB, decide_eq_true_eq]
  exact udecS_mem hb
theorem udecS_head : ∀ n : Nat, 1 ≤ n → (udecS n).head? ≠ some 48 := by
  intro n
  induction n using Nat.strongRecOn with
  | _ n ih =>
    intro h1
    rw [udecS]
    split
    · simp only [List.head?_cons, ne_eq, Option.some.injEq]
      intro e
      have := congrArg UInt8.toNat e
      rw [UInt8.toNat_ofNat'] at this
      simp at this
      omega
    · have := ih (n / 10) (by omega) (by omega)
      have hne := udecS_ne (n / 10)
      cases hu : udecS (n / 10) with
      | nil => exact absurd hu hne
      | cons c p => rw [hu] at this; simpa using this
end Go.Abs.F
