/- WaitGrows: for every now of 32 bits and every number of tries the waits double up to the longest one and the next time is later. No condition. -/
import Derived.Test.YtelflknhanpldaaPWaitGrowsx1
namespace Go.Proofs.Ytelflknhanpldaa.Pure
open Go.RowKit Go.Proofs.Ytelflknhanpldaa.PWaitGrows Go.Proofs.YtelflknhanpldaaW.PrintWords Go.Proofs.YtelflknhanpldaaW.PrintLast

/-- The wait behind so many tries. -/
def waitOf (t : Int) : Int := if t ≤ 1 then 60 else if t ≤ 2 then 120 else if t ≤ 3 then 240 else if t ≤ 4 then 480 else if t ≤ 5 then 960 else if t ≤ 6 then 1920 else 3840

theorem wait_is (k : Nat) (t : Int) : wait_Wait.f (k + 10) t = some (waitOf t) := by
  unfold wait_Wait.f waitOf
  by_cases h1 : t ≤ 1
  · rw [wait_Wait.l0, if_neg (by omega), if_pos h1]; simp [mn]
  rw [wait_Wait.l0, if_pos (by omega), if_pos (by omega), if_neg h1, show wrap64 (60 * 2) = 120 from by unfold wrap64; omega, show wrap64 (1 + 1) = 2 from by unfold wrap64; omega]
  by_cases h2 : t ≤ 2
  · rw [wait_Wait.l0, if_neg (by omega), if_pos h2]; simp [mn]
  rw [wait_Wait.l0, if_pos (by omega), if_pos (by omega), if_neg h2, show wrap64 (120 * 2) = 240 from by unfold wrap64; omega, show wrap64 (2 + 1) = 3 from by unfold wrap64; omega]
  by_cases h3 : t ≤ 3
  · rw [wait_Wait.l0, if_neg (by omega), if_pos h3]; simp [mn]
  rw [wait_Wait.l0, if_pos (by omega), if_pos (by omega), if_neg h3, show wrap64 (240 * 2) = 480 from by unfold wrap64; omega, show wrap64 (3 + 1) = 4 from by unfold wrap64; omega]
  by_cases h4 : t ≤ 4
  · rw [wait_Wait.l0, if_neg (by omega), if_pos h4]; simp [mn]
  rw [wait_Wait.l0, if_pos (by omega), if_pos (by omega), if_neg h4, show wrap64 (480 * 2) = 960 from by unfold wrap64; omega, show wrap64 (4 + 1) = 5 from by unfold wrap64; omega]
  by_cases h5 : t ≤ 5
  · rw [wait_Wait.l0, if_neg (by omega), if_pos h5]; simp [mn]
  rw [wait_Wait.l0, if_pos (by omega), if_pos (by omega), if_neg h5, show wrap64 (960 * 2) = 1920 from by unfold wrap64; omega, show wrap64 (5 + 1) = 6 from by unfold wrap64; omega]
  by_cases h6 : t ≤ 6
  · rw [wait_Wait.l0, if_neg (by omega), if_pos h6]; simp [mn]
  rw [wait_Wait.l0, if_pos (by omega), if_pos (by omega), if_neg h6, show wrap64 (1920 * 2) = 3840 from by unfold wrap64; omega, show wrap64 (6 + 1) = 7 from by unfold wrap64; omega]
  rw [wait_Wait.l0]
  by_cases h7 : 7 < t
  · rw [if_pos h7, if_neg (by omega)]; simp [mn]
  · rw [if_neg h7]; simp [mn]

theorem waitOf_bd (t : Int) : 60 ≤ waitOf t ∧ waitOf t ≤ 3840 := by
  unfold waitOf; omega

def cutOf (n : Int) : Int := if n < 0 then 0 else if n > 1099511627776 then 1099511627776 else n
theorem cut_is (n : Int) : wait_cut.f n = some (cutOf n) := by
  unfold wait_cut.f cutOf mn mx
  congr 1
  by_cases a : n < 0 <;> by_cases b : n > 1099511627776 <;> simp [a, b] <;> omega
theorem cutOf_bd (n : Int) : 0 ≤ cutOf n ∧ cutOf n ≤ 1099511627776 := by unfold cutOf; omega
theorem next_is (k : Nat) (n t : Int) : wait_Next.f (k + 10) n t = some (cutOf (cutOf n + waitOf t)) := by
  have a := cutOf_bd n; have b := waitOf_bd t
  unfold wait_Next.f
  simp only [cut_is, wait_is, Option.bind_some]
  rw [show wrap64 (cutOf n + waitOf t) = cutOf n + waitOf t from by unfold wrap64; omega]
theorem late_is (b n : Int) : wait_Late.f b n = some (decide (cutOf n - cutOf b ≥ 10000)) := by
  have x := cutOf_bd n; have y := cutOf_bd b
  unfold wait_Late.f
  simp only [cut_is, Option.bind_some]
  rw [show wrap64 (cutOf n - cutOf b) = cutOf n - cutOf b from by unfold wrap64; omega]
theorem answers_is (k : Nat) : estafettelaw19_answers.f (k + 10) = some true := by
  unfold estafettelaw19_answers.f
  simp only [wait_is, next_is, late_is, Option.bind_some]
  simp [waitOf, cutOf]

theorem WaitGrows : estafettelaw19_WaitGrows.Pure := by
  intro now tries h1 h2
  have hn : 0 ≤ now ∧ now < 4294967296 := by have x := h1; simp [Lit.wf, IntKind.min, IntKind.max, IntKind.signed, IntKind.bits] at x; omega
  have ht : 0 ≤ tries ∧ tries < 256 := by have x := h2; simp [Lit.wf, IntKind.min, IntKind.max, IntKind.signed, IntKind.bits] at x; omega
  refine ⟨10, ?_⟩
  have e1 : wrap64 (wrap64 (Int.tmod tries 100) + 1) = tries % 100 + 1 := by
    rw [Int.tmod_eq_emod_of_nonneg ht.1]; unfold wrap64; omega
  have e2 : wrap64 (tries % 100 + 1 + 1) = tries % 100 + 2 := by unfold wrap64; omega
  have e3 : wrap64 now = now := by unfold wrap64; omega
  unfold estafettelaw19_WaitGrows.f
  rw [e1, e2, e3]
  generalize hk : tries % 100 + 1 = k
  have hk1 : 1 ≤ k ∧ k ≤ 100 := by omega
  rw [show tries % 100 + 2 = k + 1 from by omega]
  have a0 := answers_is 0; rw [Nat.zero_add] at a0
  have w0 := wait_is 0; rw [Nat.zero_add] at w0
  have n0 := next_is 0; rw [Nat.zero_add] at n0
  simp only [w0, n0, a0, Option.bind_some, if_true]
  have b1 := waitOf_bd k
  have w1 : wrap64 (2 * waitOf k) = 2 * waitOf k := by unfold wrap64; omega
  have w2 : wrap64 (now + waitOf k) = now + waitOf k := by unfold wrap64; omega
  have hc : cutOf (cutOf now + waitOf k) = now + waitOf k := by unfold cutOf; omega
  rw [w1, w2, hc]
  have hle : waitOf k ≤ waitOf (k + 1) := by unfold waitOf; omega
  have hd : decide (now + waitOf k > now) = true := by simp; omega
  by_cases h : waitOf (k + 1) = 2 * waitOf k
  · rw [if_pos h, if_pos hle, if_pos rfl, hd]
  · have h3 : waitOf (k + 1) = 3840 := by revert h; unfold waitOf; omega
    rw [if_neg h, if_pos h3, if_pos hle, if_pos rfl, hd]

end Go.Proofs.Ytelflknhanpldaa.Pure
