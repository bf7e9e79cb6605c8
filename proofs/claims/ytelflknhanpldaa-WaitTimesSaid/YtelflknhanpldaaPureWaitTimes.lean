/- WaitTimes: for every now, born and tries the program's waits, next times and ends are the reference's. No condition. -/
import Derived.Test.YtelflknhanpldaaPWaitTimesx1
namespace Go.Proofs.Ytelflknhanpldaa.Pure
open Go.RowKit Go.Proofs.Ytelflknhanpldaa.PWaitTimes Go.Proofs.YtelflknhanpldaaW.PrintWords Go.Proofs.YtelflknhanpldaaW.PrintLast

/-- The wait behind so many tries. -/
def waitOf (t : Int) : Int := if t ≤ 1 then 60 else if t ≤ 2 then 120 else if t ≤ 3 then 240 else if t ≤ 4 then 480 else if t ≤ 5 then 960 else if t ≤ 6 then 1920 else 3840

theorem wait_is (k : Nat) (t : Int) : wait_Wait.f (k + 10) t = some (waitOf t) := by
  unfold wait_Wait.f waitOf
  by_cases h1 : t ≤ 1
  · rw [wait_Wait.l0, if_neg (by omega), if_pos h1]; simp [mn]
  rw [wait_Wait.l0, if_pos (by omega), if_pos (by omega), if_neg h1, show wrap64 (60 * 2) = 120 from by unfold wrap64; omega, show wrap64 (1 + 1) = 2 from by unfold wrap64; omega]
  by_cases h2 : t ≤ 2
  · rw [wait_Wait.l0, if_neg (by omega), if_pos h2]; simp [mn]
  rw [wait_Wait.l0, if_pos (by omega), if_pos (by omega), if_neg h2, show wrap64 (120 * 2) = 240 from by unfold wrap64; omega, show wrap64 (2 + 1) = 3 from by unfold wrap64; omega]
  by_cases h3 : t ≤ 3
  · rw [wait_Wait.l0, if_neg (by omega), if_pos h3]; simp [mn]
  rw [wait_Wait.l0, if_pos (by omega), if_pos (by omega), if_neg h3, show wrap64 (240 * 2) = 480 from by unfold wrap64; omega, show wrap64 (3 + 1) = 4 from by unfold wrap64; omega]
  by_cases h4 : t ≤ 4
  · rw [wait_Wait.l0, if_neg (by omega), if_pos h4]; simp [mn]
  rw [wait_Wait.l0, if_pos (by omega), if_pos (by omega), if_neg h4, show wrap64 (480 * 2) = 960 from by unfold wrap64; omega, show wrap64 (4 + 1) = 5 from by unfold wrap64; omega]
  by_cases h5 : t ≤ 5
  · rw [wait_Wait.l0, if_neg (by omega), if_pos h5]; simp [mn]
  rw [wait_Wait.l0, if_pos (by omega), if_pos (by omega), if_neg h5, show wrap64 (960 * 2) = 1920 from by unfold wrap64; omega, show wrap64 (5 + 1) = 6 from by unfold wrap64; omega]
  by_cases h6 : t ≤ 6
  · rw [wait_Wait.l0, if_neg (by omega), if_pos h6]; simp [mn]
  rw [wait_Wait.l0, if_pos (by omega), if_pos (by omega), if_neg h6, show wrap64 (1920 * 2) = 3840 from by unfold wrap64; omega, show wrap64 (6 + 1) = 7 from by unfold wrap64; omega]
  rw [wait_Wait.l0]
  by_cases h7 : 7 < t
  · rw [if_pos h7, if_neg (by omega)]; simp [mn]
  · rw [if_neg h7]; simp [mn]

theorem waitOf_bd (t : Int) : 60 ≤ waitOf t ∧ waitOf t ≤ 3840 := by
  unfold waitOf; omega

def cutOf (n : Int) : Int := if n < 0 then 0 else if n > 1099511627776 then 1099511627776 else n
theorem cut_is (n : Int) : wait_cut.f n = some (cutOf n) := by
  unfold wait_cut.f cutOf mn mx
  congr 1
  by_cases a : n < 0 <;> by_cases b : n > 1099511627776 <;> simp [a, b] <;> omega
theorem cutOf_bd (n : Int) : 0 ≤ cutOf n ∧ cutOf n ≤ 1099511627776 := by unfold cutOf; omega
theorem next_is (k : Nat) (n t : Int) : wait_Next.f (k + 10) n t = some (cutOf (cutOf n + waitOf t)) := by
  have a := cutOf_bd n; have b := waitOf_bd t
  unfold wait_Next.f
  simp only [cut_is, wait_is, Option.bind_some]
  rw [show wrap64 (cutOf n + waitOf t) = cutOf n + waitOf t from by unfold wrap64; omega]
theorem late_is (b n : Int) : wait_Late.f b n = some (decide (cutOf n - cutOf b ≥ 10000)) := by
  have x := cutOf_bd n; have y := cutOf_bd b
  unfold wait_Late.f
  simp only [cut_is, Option.bind_some]
  rw [show wrap64 (cutOf n - cutOf b) = cutOf n - cutOf b from by unfold wrap64; omega]
theorem answers_is (k : Nat) : estafettelaw19_answers.f (k + 10) = some true := by
  unfold estafettelaw19_answers.f
  simp only [wait_is, next_is, late_is, Option.bind_some]
  simp [waitOf, cutOf]

theorem refl0 (d : Nat) : ∀ (k : Nat) (x a b : Int), d < k → 20 - b ≤ d → b ≤ 20 → 3840 ≤ a → a ≤ 3840 * 2 ^ (b.toNat - 8) → 8 ≤ b → estafetteref14_Wait.l0 k x a b = some 3840 := by
  induction d with
  | zero =>
    intro k x a b hk hb hb2 ha ha2 hb3
    obtain ⟨k, rfl⟩ : ∃ m, k = m + 1 := ⟨k - 1, by omega⟩
    obtain rfl : b = 20 := by omega
    simp only [estafetteref14_Wait.l0]
    by_cases h : 20 ≤ x <;> by_cases g : a > 3840 <;> simp [h, g] <;> omega
  | succ d ih =>
    intro k x a b hk hb hb2 ha ha2 hb3
    obtain ⟨k, rfl⟩ : ∃ m, k = m + 1 := ⟨k - 1, by omega⟩
    simp only [estafetteref14_Wait.l0]
    have hend : (if a > 3840 then some 3840 else some a) = some (3840 : Int) := by
      by_cases g : a > 3840 <;> simp [g] <;> omega
    by_cases h : b ≤ x
    · by_cases g : b < 20
      · rw [if_pos h, if_pos g]
        obtain ⟨n, hn⟩ : ∃ n : Nat, b = 8 + n := ⟨(b - 8).toNat, by omega⟩
        have hn12 : n < 12 := by omega
        have hp : a * 2 ≤ 3840 * 2 ^ (n + 1) := by
          have : b.toNat - 8 = n := by omega
          rw [this] at ha2; rw [Int.pow_succ]; omega
        have hq : (2 : Int) ^ (n + 1) ≤ 2 ^ 12 := by
          have : (2 : Nat) ^ (n + 1) ≤ 2 ^ 12 := Nat.pow_le_pow_right (by decide) (by omega)
          exact_mod_cast this
        have w1 : wrap64 (a * 2) = a * 2 := by
          have : (2 : Int) ^ 12 = 4096 := by decide
          unfold wrap64; omega
        have w2 : wrap64 (b + 1) = b + 1 := by unfold wrap64; omega
        rw [w1, w2]
        refine ih k x (a * 2) (b + 1) (by omega) (by omega) (by omega) (by omega) ?_ (by omega)
        rw [show (b + 1).toNat - 8 = n + 1 from by omega]; exact hp
      · rw [if_pos h, if_neg g]; exact hend
    · rw [if_neg h]; exact hend

theorem ref_wait (t : Int) : estafetteref14_Wait.f 40 t = some (waitOf t) := by
  unfold estafetteref14_Wait.f waitOf
  by_cases h1 : t ≤ 1
  · rw [estafetteref14_Wait.l0, if_neg (by omega), if_pos h1]; simp
  rw [estafetteref14_Wait.l0, if_pos (by omega), if_pos (by omega), if_neg h1, show wrap64 (60 * 2) = 120 from by unfold wrap64; omega, show wrap64 (2 + 1) = 3 from by unfold wrap64; omega]
  by_cases h2 : t ≤ 2
  · rw [estafetteref14_Wait.l0, if_neg (by omega), if_pos h2]; simp
  rw [estafetteref14_Wait.l0, if_pos (by omega), if_pos (by omega), if_neg h2, show wrap64 (120 * 2) = 240 from by unfold wrap64; omega, show wrap64 (3 + 1) = 4 from by unfold wrap64; omega]
  by_cases h3 : t ≤ 3
  · rw [estafetteref14_Wait.l0, if_neg (by omega), if_pos h3]; simp
  rw [estafetteref14_Wait.l0, if_pos (by omega), if_pos (by omega), if_neg h3, show wrap64 (240 * 2) = 480 from by unfold wrap64; omega, show wrap64 (4 + 1) = 5 from by unfold wrap64; omega]
  by_cases h4 : t ≤ 4
  · rw [estafetteref14_Wait.l0, if_neg (by omega), if_pos h4]; simp
  rw [estafetteref14_Wait.l0, if_pos (by omega), if_pos (by omega), if_neg h4, show wrap64 (480 * 2) = 960 from by unfold wrap64; omega, show wrap64 (5 + 1) = 6 from by unfold wrap64; omega]
  by_cases h5 : t ≤ 5
  · rw [estafetteref14_Wait.l0, if_neg (by omega), if_pos h5]; simp
  rw [estafetteref14_Wait.l0, if_pos (by omega), if_pos (by omega), if_neg h5, show wrap64 (960 * 2) = 1920 from by unfold wrap64; omega, show wrap64 (6 + 1) = 7 from by unfold wrap64; omega]
  by_cases h6 : t ≤ 6
  · rw [estafetteref14_Wait.l0, if_neg (by omega), if_pos h6]; simp
  rw [estafetteref14_Wait.l0, if_pos (by omega), if_pos (by omega), if_neg h6, show wrap64 (1920 * 2) = 3840 from by unfold wrap64; omega, show wrap64 (7 + 1) = 8 from by unfold wrap64; omega]
  exact refl0 12 _ t 3840 8 (by omega) (by omega) (by omega) (by omega) (by decide) (by omega)
theorem ref_cut (n : Int) : estafetteref14_cut.f n = some (cutOf n) := by
  unfold estafetteref14_cut.f cutOf
  split <;> first | rfl | (split <;> rfl)
theorem ref_next (n t : Int) : estafetteref14_Next.f 40 n t = some (cutOf (cutOf n + waitOf t)) := by
  have a := cutOf_bd n; have b := waitOf_bd t
  unfold estafetteref14_Next.f
  simp only [ref_cut, ref_wait, Option.bind_some]
  rw [show wrap64 (cutOf n + waitOf t) = cutOf n + waitOf t from by unfold wrap64; omega]
theorem ref_late (b n : Int) : estafetteref14_Late.f b n = some (decide (cutOf n - cutOf b ≥ 10000)) := by
  have x := cutOf_bd n; have y := cutOf_bd b
  unfold estafetteref14_Late.f
  simp only [ref_cut, Option.bind_some]
  rw [show wrap64 (cutOf b + 10000) = cutOf b + 10000 from by unfold wrap64; omega]
  congr 1
  rw [decide_eq_decide]; omega

theorem WaitTimes : estafettelaw19_WaitTimes.Pure := by
  intro now born tries _ _ _
  refine ⟨40, ?_⟩
  unfold estafettelaw19_WaitTimes.f
  rw [answers_is 30]
  simp only [Option.bind_some, if_true]
  rw [wait_is 30, ref_wait]; simp only [Option.bind_some, if_true]
  rw [next_is 30, ref_next]; simp only [Option.bind_some, if_true]
  rw [late_is, ref_late]; simp

end Go.Proofs.Ytelflknhanpldaa.Pure
