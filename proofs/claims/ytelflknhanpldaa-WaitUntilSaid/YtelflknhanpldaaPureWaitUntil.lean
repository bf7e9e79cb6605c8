/- WaitUntil: for every begin of 32 bits, trying again and again, a message is tried at least once more ahead of its end, and its end comes. No condition. -/
import Derived.Test.YtelflknhanpldaaPWaitUntilx1
namespace Go.Proofs.Ytelflknhanpldaa.Pure
open Go.RowKit Go.Proofs.Ytelflknhanpldaa.PWaitUntil Go.Proofs.YtelflknhanpldaaW.PrintWords Go.Proofs.YtelflknhanpldaaW.PrintLast

/-- The wait behind so many tries. -/
def waitOf (t : Int) : Int := if t ≤ 1 then 60 else if t ≤ 2 then 120 else if t ≤ 3 then 240 else if t ≤ 4 then 480 else if t ≤ 5 then 960 else if t ≤ 6 then 1920 else 3840

theorem wait_is (k : Nat) (t : Int) : wait_Wait.f (k + 10) t = some (waitOf t) := by
  unfold wait_Wait.f waitOf
  by_cases h1 : t ≤ 1
  · rw [wait_Wait.l0, if_neg (by omega), if_pos h1]; simp [mn]
  rw [wait_Wait.l0, if_pos (by omega), if_pos (by omega), if_neg h1, show wrap64 (60 * 2) = 120 from by unfold wrap64; omega, show wrap64 (1 + 1) = 2 from by unfold wrap64; omega]
  by_cases h2 : t ≤ 2
  · rw [wait_Wait.l0, if_neg (by omega), if_pos h2]; simp [mn]
  rw [wait_Wait.l0, if_pos (by omega), if_pos (by omega), if_neg h2, show wrap64 (120 * 2) = 240 from by unfold wrap64; omega, show wrap64 (2 + 1) = 3 from by unfold wrap64; omega]
  by_cases h3 : t ≤ 3
  · rw [wait_Wait.l0, if_neg (by omega), if_pos h3]; simp [mn]
  rw [wait_Wait.l0, if_pos (by omega), if_pos (by omega), if_neg h3, show wrap64 (240 * 2) = 480 from by unfold wrap64; omega, show wrap64 (3 + 1) = 4 from by unfold wrap64; omega]
  by_cases h4 : t ≤ 4
  · rw [wait_Wait.l0, if_neg (by omega), if_pos h4]; simp [mn]
  rw [wait_Wait.l0, if_pos (by omega), if_pos (by omega), if_neg h4, show wrap64 (480 * 2) = 960 from by unfold wrap64; omega, show wrap64 (4 + 1) = 5 from by unfold wrap64; omega]
  by_cases h5 : t ≤ 5
  · rw [wait_Wait.l0, if_neg (by omega), if_pos h5]; simp [mn]
  rw [wait_Wait.l0, if_pos (by omega), if_pos (by omega), if_neg h5, show wrap64 (960 * 2) = 1920 from by unfold wrap64; omega, show wrap64 (5 + 1) = 6 from by unfold wrap64; omega]
  by_cases h6 : t ≤ 6
  · rw [wait_Wait.l0, if_neg (by omega), if_pos h6]; simp [mn]
  rw [wait_Wait.l0, if_pos (by omega), if_pos (by omega), if_neg h6, show wrap64 (1920 * 2) = 3840 from by unfold wrap64; omega, show wrap64 (6 + 1) = 7 from by unfold wrap64; omega]
  rw [wait_Wait.l0]
  by_cases h7 : 7 < t
  · rw [if_pos h7, if_neg (by omega)]; simp [mn]
  · rw [if_neg h7]; simp [mn]

theorem waitOf_bd (t : Int) : 60 ≤ waitOf t ∧ waitOf t ≤ 3840 := by
  unfold waitOf; omega

def cutOf (n : Int) : Int := if n < 0 then 0 else if n > 1099511627776 then 1099511627776 else n
theorem cut_is (n : Int) : wait_cut.f n = some (cutOf n) := by
  unfold wait_cut.f cutOf mn mx
  congr 1
  by_cases a : n < 0 <;> by_cases b : n > 1099511627776 <;> simp [a, b] <;> omega
theorem cutOf_bd (n : Int) : 0 ≤ cutOf n ∧ cutOf n ≤ 1099511627776 := by unfold cutOf; omega
theorem next_is (k : Nat) (n t : Int) : wait_Next.f (k + 10) n t = some (cutOf (cutOf n + waitOf t)) := by
  have a := cutOf_bd n; have b := waitOf_bd t
  unfold wait_Next.f
  simp only [cut_is, wait_is, Option.bind_some]
  rw [show wrap64 (cutOf n + waitOf t) = cutOf n + waitOf t from by unfold wrap64; omega]
theorem late_is (b n : Int) : wait_Late.f b n = some (decide (cutOf n - cutOf b ≥ 10000)) := by
  have x := cutOf_bd n; have y := cutOf_bd b
  unfold wait_Late.f
  simp only [cut_is, Option.bind_some]
  rw [show wrap64 (cutOf n - cutOf b) = cutOf n - cutOf b from by unfold wrap64; omega]
theorem answers_is (k : Nat) : estafettelaw19_answers.f (k + 10) = some true := by
  unfold estafettelaw19_answers.f
  simp only [wait_is, next_is, late_is, Option.bind_some]
  simp [waitOf, cutOf]

theorem round (k : Nat) (b now n : Int) (h0 : 0 ≤ b ∧ b < 4294967296) (h1 : b ≤ now ∧ now < b + 10000) (h2 : 0 ≤ n ∧ n < 20) :
    estafettelaw19_WaitUntil.l0 (k + 10 + 1) b now n = estafettelaw19_WaitUntil.l0 (k + 10) b (now + waitOf (n + 1)) (n + 1) := by
  have hw := waitOf_bd (n + 1)
  have e1 : wrap64 b = b := by unfold wrap64; omega
  have e2 : wrap64 (n + 1) = n + 1 := by unfold wrap64; omega
  have hc : cutOf (cutOf now + waitOf (n + 1)) = now + waitOf (n + 1) := by unfold cutOf; omega
  have hd : decide (cutOf now - cutOf b ≥ 10000) = false := by simp; unfold cutOf; omega
  rw [estafettelaw19_WaitUntil.l0, e1, e2, late_is, hd]
  simp only [Option.bind_some]
  rw [if_neg (by decide), if_neg (by omega), next_is, hc]; rfl

theorem WaitUntil : estafettelaw19_WaitUntil.Pure := by
  intro b h1
  have hb : 0 ≤ b ∧ b < 4294967296 := by have x := h1; simp [Lit.wf, IntKind.min, IntKind.max, IntKind.signed, IntKind.bits] at x; omega
  refine ⟨40, ?_⟩
  have e1 : wrap64 b = b := by unfold wrap64; omega
  unfold estafettelaw19_WaitUntil.f
  rw [e1]
  rw [show estafettelaw19_WaitUntil.l0 40 b b 0 = estafettelaw19_WaitUntil.l0 40 b (b + 0) 0 from by rw [Int.add_zero]]
  rw [round 29 b (b + 0) 0 (by omega) (by omega) (by omega), show waitOf (0 + 1) = 60 from by unfold waitOf; omega, show b + 0 + 60 = b + 60 from by omega, show (0 : Int) + 1 = 1 from rfl]
  rw [round 28 b (b + 60) 1 (by omega) (by omega) (by omega), show waitOf (1 + 1) = 120 from by unfold waitOf; omega, show b + 60 + 120 = b + 180 from by omega, show (1 : Int) + 1 = 2 from rfl]
  rw [round 27 b (b + 180) 2 (by omega) (by omega) (by omega), show waitOf (2 + 1) = 240 from by unfold waitOf; omega, show b + 180 + 240 = b + 420 from by omega, show (2 : Int) + 1 = 3 from rfl]
  rw [round 26 b (b + 420) 3 (by omega) (by omega) (by omega), show waitOf (3 + 1) = 480 from by unfold waitOf; omega, show b + 420 + 480 = b + 900 from by omega, show (3 : Int) + 1 = 4 from rfl]
  rw [round 25 b (b + 900) 4 (by omega) (by omega) (by omega), show waitOf (4 + 1) = 960 from by unfold waitOf; omega, show b + 900 + 960 = b + 1860 from by omega, show (4 : Int) + 1 = 5 from rfl]
  rw [round 24 b (b + 1860) 5 (by omega) (by omega) (by omega), show waitOf (5 + 1) = 1920 from by unfold waitOf; omega, show b + 1860 + 1920 = b + 3780 from by omega, show (5 : Int) + 1 = 6 from rfl]
  rw [round 23 b (b + 3780) 6 (by omega) (by omega) (by omega), show waitOf (6 + 1) = 3840 from by unfold waitOf; omega, show b + 3780 + 3840 = b + 7620 from by omega, show (6 : Int) + 1 = 7 from rfl]
  rw [round 22 b (b + 7620) 7 (by omega) (by omega) (by omega), show waitOf (7 + 1) = 3840 from by unfold waitOf; omega, show b + 7620 + 3840 = b + 11460 from by omega, show (7 : Int) + 1 = 8 from rfl]
  have hd : decide (cutOf (b + 11460) - cutOf b ≥ 10000) = true := by simp; unfold cutOf; omega
  have e3 : wrap64 (b + 10000) = b + 10000 := by unfold wrap64; omega
  rw [estafettelaw19_WaitUntil.l0, e1, late_is, hd]
  simp only [Option.bind_some, if_true]
  rw [answers_is, e3]
  simp only [Option.bind_some, if_true]
  rw [if_pos (by omega)]
  congr 1; simp

end Go.Proofs.Ytelflknhanpldaa.Pure
