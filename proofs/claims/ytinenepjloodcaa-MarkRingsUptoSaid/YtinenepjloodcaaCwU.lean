/- PLAIN: a step around a place, seen by a ray to the right and by one upwards. -/
import Derived.Test.YtinenepjloodcaaCwA
namespace Go.Cw

theorem sg_mul (a d : Int) : (0 < a → 0 < d → 0 < a * d) ∧ (0 < a → d ≤ 0 → a * d ≤ 0) ∧ (a ≤ 0 → 0 < d → a * d ≤ 0) ∧ (a ≤ 0 → d ≤ 0 → 0 ≤ a * d) := by
  refine ⟨fun h1 h2 => Int.mul_pos h1 h2, fun h1 h2 => Int.mul_nonpos_of_nonneg_of_nonpos (by omega) h2, fun h1 h2 => ?_, fun h1 h2 => Int.mul_nonneg_of_nonpos_of_nonpos h1 h2⟩
  rw [Int.mul_comm]
  exact Int.mul_nonpos_of_nonneg_of_nonpos (by omega) h1

def rayR (a b c d D : Int) : Int := if b ≤ 0 ∧ 0 < d ∧ 0 < D then 1 else if d ≤ 0 ∧ 0 < b ∧ D < 0 then -1 else 0
def rayU (a b c d D : Int) : Int := (if 0 < a ∧ c ≤ 0 ∧ 0 < D then 1 else 0) - (if 0 < c ∧ a ≤ 0 ∧ D < 0 then 1 else 0)
def quad (a b : Int) : Int := if 0 < a ∧ 0 < b then 1 else 0

theorem ray_turn {a b c d m k : Int} (hm : m = a * d) (hk : k = b * c) (hon : ¬ (m - k = 0 ∧ min a c ≤ 0 ∧ 0 ≤ max a c ∧ min b d ≤ 0 ∧ 0 ≤ max b d)) :
    rayR a b c d (m - k) - rayU a b c d (m - k) = quad c d - quad a b := by
  obtain ⟨m1, m2, m3, m4⟩ := sg_mul a d
  obtain ⟨k1, k2, k3, k4⟩ := sg_mul b c
  rw [← hm] at m1 m2 m3 m4
  rw [← hk] at k1 k2 k3 k4
  clear hm hk
  unfold rayR rayU quad
  by_cases ha : 0 < a <;> by_cases hb : 0 < b <;> by_cases hc : 0 < c <;> by_cases hd : 0 < d <;>
    simp only [ha, hb, hc, hd, show (a ≤ 0) = ¬ 0 < a from propext (by omega), show (b ≤ 0) = ¬ 0 < b from propext (by omega), show (c ≤ 0) = ¬ 0 < c from propext (by omega), show (d ≤ 0) = ¬ 0 < d from propext (by omega), not_true, not_false_iff, true_and, false_and, and_true, and_false, if_false, if_true] <;>
    (repeat' split) <;> omega
end Go.Cw
