/- What the proof needs, part 12: The reference's numbers; Layer 26: steps as text: the plain side; Digits. -/
import Derived.Test.YtlmgpkopcgcbgaaGreatDoorQServeSizes10
import Derived.Test.YtlmgpkopcgcbgaaGreatDoorQServeSizes11
import Derived.Lib.AtoiAll
/- The reference's numbers. -/
namespace Go.Abs.F
open Go Go.Abs
set_option maxRecDepth 10000
set_option maxHeartbeats 20000000
set_option linter.unusedSimpArgs false
set_option linter.unusedVariables false
variable {w0 : World}
/-- A number's digits. -/
def udecS (n : Nat) : List UInt8 := if h : n < 10 then [UInt8.ofNat (48 + n)] else udecS (n / 10) ++ [UInt8.ofNat (48 + n % 10)]
termination_by n
decreasing_by omega
theorem udecS_len (k : Nat) : ∀ n, n < 10 ^ (k + 1) → (udecS n).length ≤ k + 1 := by
  induction k with
  | zero =>
    intro n hn
    rw [udecS, dif_pos (by omega)]
    simp
  | succ k ih =>
    intro n hn
    rw [udecS]
    split
    · simp
    · have := ih (n / 10) (by rw [Nat.pow_succ] at hn; omega)
      simp only [List.length_append, List.length_cons, List.length_nil]
      omega
theorem udecS_20 (n : Nat) (h : n ≤ 18446744073709551615) : (udecS n).length ≤ 20 := udecS_len 19 n (by omega)
theorem udec_call (n : Nat) : ∀ (h : AH), n ≤ 18446744073709551615 → Call P w0 ref01_udec [.v (.int .u64 (n : Int))] h (fun v h' => v = .v (.string (bs (udecS n))) ∧ h' = h) := by
  induction n using Nat.strongRecOn with
  | _ n ih =>
    intro h hn
    refine Call.bodyF b_ref01_udec rfl rfl ?_
    unfold c_ref01_udec
    rcases Nat.lt_or_ge n 10 with hlt | hge
    · have hq : (48 + (n : Int)).toNat = 48 + n := by omega
      repeat' (first
| ((with_reducible first | apply opsF.op rfl | apply dopsF.op rfl); case hs => first | exact tHT | exact tHS)
| (with_reducible first | apply opsF.nil | apply seqF.nn | apply vcF.seq | apply vcF.region | apply vcF.dregion | apply vcF.skip | apply vcF.ret | apply seqF.r | apply dopsF.nil | apply stabsF.nil | apply stabsF.cons | apply dopsF.cont)
| ((with_reducible first | apply opsF.call | apply dopsF.call); case hx => exact tAG)
| ((with_reducible first | apply opsF.want | apply dopsF.want | apply stabF.want); (case hg => exact tEV); case hb => exact tNB)
| ((with_reducible first | apply opsF.skip | apply dopsF.skip | apply stabF.skip); (case hg => exact tEV); case hb => exact tNB)
| (first | ((with_reducible first | apply opsF.case | apply dopsF.case); case hg => exact tEV) | ((with_reducible apply vcF.cond); case hx => exact tEV)) <;> ((intro hc; try simp only [Int.reduceLT, Int.reduceLE, Int.reduceEq, Int.reduceNe, Int.cast_ofNat_Int, Int.reduceNeg, reduceCtorEq, ne_eq, ge_iff_le, gt_iff_lt, beq_iff_eq, beq_eq_false_iff_ne, bne_iff_ne, bne_eq_false_iff_eq, nrm, *] at hc) <;> try (exfalso; omega))
| ((with_reducible first | apply opsF.und | apply dopsF.und); case hg => rfl)
| ((with_reducible apply stabF.und); rfl)
| ((with_reducible apply stabF.op); (case hs => first | exact tHT | exact tHS); case hv => exact tSV)
| ((with_reducible first | apply retF.r | apply retF.nn); case hv => exact tRS))
      refine ⟨?_, rfl⟩
      rw [udecS, dif_pos hlt]
      try rw [hq]
    · have hq : Int.tdiv (n : Int) 10 = ((n / 10 : Nat) : Int) := by rw [Int.tdiv_eq_ediv_of_nonneg (by omega)]; rfl
      have hr : Int.tmod (n : Int) 10 = ((n % 10 : Nat) : Int) := by rw [Int.tmod_eq_emod_of_nonneg (by omega)]; rfl
      have hr2 : n % 10 < 10 := Nat.mod_lt _ (by omega)
      have hq2 : n / 10 < n := by omega
      have hlen := udecS_20 (n / 10) (by omega)
      repeat' (first
| ((with_reducible first | apply opsF.op rfl | apply dopsF.op rfl); case hs => first | exact tHT | exact tHS)
| (with_reducible first | apply opsF.nil | apply seqF.nn | apply vcF.seq | apply vcF.region | apply vcF.dregion | apply vcF.skip | apply vcF.ret | apply seqF.r | apply dopsF.nil | apply stabsF.nil | apply stabsF.cons | apply dopsF.cont)
| ((with_reducible first | apply opsF.call | apply dopsF.call); case hx => exact tAG)
| ((with_reducible first | apply opsF.want | apply dopsF.want | apply stabF.want); (case hg => exact tEV); case hb => exact tNB)
| ((with_reducible first | apply opsF.skip | apply dopsF.skip | apply stabF.skip); (case hg => exact tEV); case hb => exact tNB)
| (first | ((with_reducible first | apply opsF.case | apply dopsF.case); case hg => exact tEV) | ((with_reducible apply vcF.cond); case hx => exact tEV)) <;> ((intro hc; try simp only [Int.reduceLT, Int.reduceLE, Int.reduceEq, Int.reduceNe, Int.cast_ofNat_Int, Int.reduceNeg, reduceCtorEq, ne_eq, ge_iff_le, gt_iff_lt, beq_iff_eq, beq_eq_false_iff_ne, bne_iff_ne, bne_eq_false_iff_eq, nrm, *] at hc) <;> try (exfalso; omega))
| ((with_reducible first | apply opsF.und | apply dopsF.und); case hg => rfl)
| ((with_reducible apply stabF.und); rfl)
| ((with_reducible apply stabF.op); (case hs => first | exact tHT | exact tHS); case hv => exact tSV)
| ((with_reducible first | apply retF.r | apply retF.nn); case hv => exact tRS)
| ((refine (ih (n / 10) hq2 _ (by omega)).mono fun v h' hp => ?_); obtain ⟨rfl, rfl⟩ := hp))
      refine ⟨?_, rfl⟩
      conv => rhs; rw [udecS]
      rw [dif_neg (by omega)]
      first | rfl | (rw [show (48 + ((n % 10 : Nat) : Int)).toNat = 48 + n % 10 by omega])
/-- An int's digits. -/
def decS (n : Int) : List UInt8 := if n < 0 then 45 :: udecS (-n).toNat else udecS n.toNat
theorem decS_nat (n : Nat) : decS (n : Int) = udecS n := by rw [decS, if_neg (by omega), Int.toNat_natCast]
theorem decS_len (n : Int) (h0 : -9223372036854775808 ≤ n) (h1 : n ≤ 9223372036854775807) : (decS n).length ≤ 21 := by
  rw [decS]
  split
  · have := udecS_20 (-n).toNat (by omega)
    simp only [List.length_cons]; omega
  · have := udecS_20 n.toNat (by omega)
    omega
theorem dec_call (n : Nat) (h : AH) (hn : n ≤ 9223372036854775807) : Call P w0 ref01_Dec [.v (.int .i64 (n : Int))] h (fun v h' => v = .v (.string (bs (udecS n))) ∧ h' = h) := by
  refine Call.bodyF b_ref01_Dec rfl rfl ?_
  unfold c_ref01_Dec
  repeat' (first
| ((with_reducible apply opsF.op rfl); case hs => first | exact tHT | exact tHS)
| (with_reducible first | apply opsF.nil | apply seqF.nn | apply vcF.seq | apply vcF.region | apply vcF.skip | apply vcF.ret | apply seqF.r)
| ((with_reducible apply opsF.call); case hx => exact tAG)
| ((with_reducible apply vcF.cond); case hx => exact tEV) <;> ((intro hc; try simp only [Int.reduceLT, Int.reduceLE, Int.reduceEq, Int.reduceNe, Int.cast_ofNat_Int, Int.reduceNeg, reduceCtorEq, ne_eq, ge_iff_le, gt_iff_lt, beq_iff_eq, beq_eq_false_iff_ne, bne_iff_ne, bne_eq_false_iff_eq, nrm, *] at hc) <;> try (exfalso; omega))
| ((with_reducible first | apply retF.r | apply retF.nn); case hv => exact tRS)
| ((refine (udec_call n _ (by omega)).mono fun v h' hp => ?_); obtain ⟨rfl, rfl⟩ := hp))
  all_goals exact ⟨rfl, rfl⟩
/-! numbers read back -/
theorem parse10_app : ∀ (l r : List UInt8) (acc a : Nat), Lib.parseUint10 acc l = .ok a → Lib.parseUint10 acc (l ++ r) = Lib.parseUint10 a r
  | [], r, acc, a, h => by
    simp only [Lib.parseUint10, Lib.NumEnd.ok.injEq] at h
    subst h; rfl
  | c :: l, r, acc, a, h => by
    simp only [Lib.parseUint10, List.cons_append] at h ⊢
    split at h
    · rename_i h1
      rw [if_pos h1]
      split at h
      · cases h
      · rename_i h2
        rw [if_neg h2]
        split at h
        · cases h
        · rename_i h3
          rw [if_neg h3]
          exact parse10_app l r _ a h
    · cases h
theorem u8n {n : Nat} (h : n < 256) : (UInt8.ofNat n).toNat = n := by rw [UInt8.toNat_ofNat']; omega
theorem parse10_dec (m : Nat) (hm : m < 18446744073709551616) : Lib.parseUint10 0 (udecS m) = .ok m := by
  induction m using Nat.strongRecOn with
  | _ m ih =>
    rw [udecS]
    split
    · simp only [Lib.parseUint10]
      rw [u8n (by omega), if_pos (by omega), if_neg (by omega), if_neg (by omega)]
      congr 1; omega
    · rw [parse10_app _ _ 0 (m / 10) (ih (m / 10) (by omega) (by omega))]
      simp only [Lib.parseUint10]
      rw [u8n (by omega), if_pos (by omega), if_neg (by omega), if_neg (by omega)]
      congr 1; omega
theorem udecS_ne (m : Nat) : udecS m ≠ [] := by
  rw [udecS]
  split <;> simp
theorem udecS_mem {m : Nat} {b : UInt8} (h : b ∈ udecS m) : 48 ≤ b.toNat ∧ b.toNat ≤ 57 := by
  induction m using Nat.strongRecOn with
  | _ m ih =>
    rw [udecS] at h
    split at h
    · simp only [List.mem_cons, List.not_mem_nil, or_false] at h
      subst h
      rw [u8n (by omega)]; omega
    · rcases List.mem_append.1 h with h | h
      · exact ih _ (by omega) h
      · simp only [List.mem_cons, List.not_mem_nil, or_false] at h
        subst h
        rw [u8n (by omega)]; omega
theorem atoi_dec (n : Int) (h0 : -9223372036854775808 ≤ n) (h1 : n ≤ 9223372036854775807) : Lib.atoiAll (decS n) = .ok n := by
  rw [decS]
  split
  · rename_i hn
    simp only [Lib.atoiAll]
    rw [if_pos (by right; rfl), Lib.parseMag, if_neg (udecS_ne _), parse10_dec _ (by omega)]
    have e : (45 : UInt8).toNat = 45 := rfl
    simp only [e]
    rw [if_neg (by simp), if_neg (by omega), if_pos trivial]
    congr 1; omega
  · rename_i hn
    obtain ⟨c, r, hc⟩ : ∃ c r, udecS n.toNat = c :: r := by
      cases h : udecS n.toNat with
      | nil => exact absurd h (udecS_ne _)
      | cons c r => exact ⟨c, r, rfl⟩
    have hm : c ∈ udecS n.toNat := by rw [hc]; simp
    have hb := udecS_mem hm
    rw [hc]
    simp only [Lib.atoiAll]
    rw [if_neg (by omega), Lib.parseMag, if_neg (by simp), ← hc, parse10_dec _ (by omega)]
    simp only []
    rw [if_neg (by omega), if_neg (by omega), if_neg (by omega)]
    congr 1; omega
end Go.Abs.F
/- Layer 26: steps as text: the plain side. -/
namespace Go.Abs.F
open Go Go.Abs
set_option maxRecDepth 10000
set_option linter.unusedSimpArgs false
set_option linter.unusedVariables false
/-! texts cut at a byte -/
def cutB (c : UInt8) : List UInt8 → List UInt8 × List UInt8 × Bool
  | [] => ([], [], false)
  | x :: r => if x = c then ([], r, true) else (x :: (cutB c r).1, (cutB c r).2.1, (cutB c r).2.2)
theorem cutB_hit {c : UInt8} {r : List UInt8} : ∀ {a : List UInt8}, c ∉ a → cutB c (a ++ c :: r) = (a, r, true)
  | [], _ => by simp [cutB]
  | x :: a, h => by
    simp only [List.mem_cons, not_or] at h
    simp only [List.cons_append, cutB, if_neg (fun e => h.1 (Eq.symm e)), cutB_hit h.2]
theorem cutB_miss {c : UInt8} : ∀ {a : List UInt8}, c ∉ a → cutB c a = (a, [], false)
  | [], _ => rfl
  | x :: a, h => by
    simp only [List.mem_cons, not_or] at h
    simp only [cutB, if_neg (fun e => h.1 (Eq.symm e)), cutB_miss h.2]
theorem cutB_cases (c : UInt8) : ∀ s : List UInt8, (c ∉ s ∧ cutB c s = (s, [], false)) ∨ ∃ a r, s = a ++ c :: r ∧ c ∉ a ∧ cutB c s = (a, r, true)
  | [] => .inl ⟨by simp, rfl⟩
  | x :: s => by
    by_cases hx : x = c
    · subst hx
      exact .inr ⟨[], s, rfl, by simp, by simp [cutB]⟩
    · rcases cutB_cases c s with ⟨h1, h2⟩ | ⟨a, r, h1, h2, h3⟩
      · have : c ∉ x :: s := by simp only [List.mem_cons, not_or]; exact ⟨fun e => hx e.symm, h1⟩
        exact .inl ⟨this, cutB_miss this⟩
      · have : c ∉ x :: a := by simp only [List.mem_cons, not_or]; exact ⟨fun e => hx e.symm, h2⟩
        refine .inr ⟨x :: a, r, by rw [h1]; rfl, this, ?_⟩
        rw [h1, ← List.cons_append]
        exact cutB_hit this
def splB (c : UInt8) : List UInt8 → List (List UInt8)
  | [] => [[]]
  | x :: r => if x = c then [] :: splB c r else (x :: (splB c r).headD []) :: (splB c r).tail
theorem splB_ne (c : UInt8) (s : List UInt8) : splB c s ≠ [] := by
  cases s with
  | nil => simp [splB]
  | cons x r => rw [splB]; split <;> simp
theorem splB_miss {c : UInt8} : ∀ {a : List UInt8}, c ∉ a → splB c a = [a]
  | [], _ => rfl
  | x :: a, h => by
    simp only [List.mem_cons, not_or] at h
    simp only [splB, if_neg (fun e => h.1 (Eq.symm e)), splB_miss h.2]
    rfl
theorem splB_hit {c : UInt8} {r : List UInt8} : ∀ {a : List UInt8}, c ∉ a → splB c (a ++ c :: r) = a :: splB c r
  | [], _ => by simp [splB]
  | x :: a, h => by
    simp only [List.mem_cons, not_or] at h
    simp only [List.cons_append, splB, if_neg (fun e => h.1 (Eq.symm e)), splB_hit h.2]
    rfl
/-! what is written -/
/-! what is read -/
/-! numbers, texts, steps -/
/-! the laws' plain sides -/
end Go.Abs.F
/- Digits. -/
namespace Go.Abs.F
open Go Go.Abs
set_option maxRecDepth 10000
set_option linter.unusedSimpArgs false
set_option linter.unusedVariables false
def digB (b : UInt8) : Bool := decide (48 ≤ b.toNat ∧ b.toNat ≤ 57)
def valB (acc : Nat) (s : List UInt8) : Nat := s.foldl (fun n b => n * 10 + (b.toNat - 48)) acc
def digO (s : List UInt8) : Option Nat := if s ≠ [] ∧ s.length ≤ 9 ∧ s.all digB = true then some (valB 0 s) else none
theorem valB_lt : ∀ (s : List UInt8) (acc k : Nat), s.all digB = true → acc < 10 ^ k → valB acc s < 10 ^ (k + s.length)
  | [], acc, k, _, h => h
  | b :: s, acc, k, hd, h => by
    simp only [List.all_cons, Bool.and_eq_true, digB, decide_eq_true_eq] at hd
    have := valB_lt s (acc * 10 + (b.toNat - 48)) (k + 1) (by simpa [digB] using hd.2) (by rw [Nat.pow_succ]; omega)
    rw [List.length_cons, show k + (s.length + 1) = k + 1 + s.length by omega]
    exact this
theorem parse10_all : ∀ (s : List UInt8) (acc k : Nat), s.all digB = true → acc < 10 ^ k → k + s.length ≤ 18 → Lib.parseUint10 acc s = .ok (valB acc s)
  | [], acc, k, _, h, _ => rfl
  | b :: s, acc, k, hd, h, hk => by
    simp only [List.all_cons, Bool.and_eq_true, digB, decide_eq_true_eq] at hd
    have hp : (10 : Nat) ^ (k + 1) ≤ 10 ^ 18 := Nat.pow_le_pow_right (by decide) (by simp at hk; omega)
    have hp2 : acc * 10 + (b.toNat - 48) < 10 ^ (k + 1) := by rw [Nat.pow_succ]; omega
    have e18 : (10 : Nat) ^ 18 = 1000000000000000000 := by decide
    rw [Nat.pow_succ] at hp
    rw [Nat.pow_succ] at hp2
    simp only [Lib.parseUint10]
    rw [if_pos hd.1, if_neg (by omega), if_neg (by omega)]
    exact parse10_all s _ (k + 1) (by simpa [digB] using hd.2) (by rw [Nat.pow_succ]; exact hp2) (by simp at hk; omega)
theorem atoi_dig {s : List UInt8} (h1 : s ≠ []) (h2 : s.length ≤ 9) (h3 : s.all digB = true) : Lib.atoiAll s = .ok ((valB 0 s : Nat) : Int) := by
  have hp := parse10_all s 0 0 h3 (by decide) (by omega)
  have hv := valB_lt s 0 0 h3 (by decide)
  have hq : (10 : Nat) ^ (0 + s.length) ≤ 10 ^ 9 := Nat.pow_le_pow_right (by decide) (by omega)
  have e9 : (10 : Nat) ^ 9 = 1000000000 := by decide
  cases s with
  | nil => exact absurd rfl h1
  | cons c r =>
    have hc : 48 ≤ c.toNat ∧ c.toNat ≤ 57 := by
      simp only [List.all_cons, Bool.and_eq_true, digB, decide_eq_true_eq] at h3
      exact h3.1
    simp only [Lib.atoiAll]
    rw [if_neg (by omega), Lib.parseMag, if_neg (by simp), hp]
    simp only []
    rw [if_neg (by omega), if_neg (by omega), if_neg (by omega)]
end Go.Abs.F
