/- Whole numbers go round: the plain facts. -/
import Derived.RowKit
namespace Go.Proofs.YtacaknkfddlklaaGreatDoor
open Go.RowKit

theorem wrap64_of {n : Int} (h : -9223372036854775808 ≤ n ∧ n ≤ 9223372036854775807) : wrap64 n = n := by unfold wrap64; omega
/-- wrap64 takes away a multiple of 2^64 -/
theorem wrap64_mod (n : Int) : ∃ k : Int, wrap64 n = n + k * 18446744073709551616 :=
  ⟨-((n + 9223372036854775808) / 18446744073709551616), by unfold wrap64; omega⟩
theorem wrap64_add_mul (n k : Int) : wrap64 (n + k * 18446744073709551616) = wrap64 n := by unfold wrap64; omega
theorem rounds_sub (a b : Int) (ha : -9223372036854775808 ≤ a ∧ a ≤ 9223372036854775807) : wrap64 (wrap64 (a - b) + b) = a := by
  obtain ⟨k, hk⟩ := wrap64_mod (a - b)
  rw [hk, show a - b + k * 18446744073709551616 + b = a + k * 18446744073709551616 by omega, wrap64_add_mul, wrap64_of ha]
theorem rounds_neg (a : Int) (ha : -9223372036854775808 ≤ a ∧ a ≤ 9223372036854775807) : wrap64 (- wrap64 (- a)) = a := by
  obtain ⟨k, hk⟩ := wrap64_mod (- a)
  rw [hk, show -(- a + k * 18446744073709551616) = a + (- k) * 18446744073709551616 by omega, wrap64_add_mul, wrap64_of ha]
theorem rounds_div (a b : Int) (ha : -9223372036854775808 ≤ a ∧ a ≤ 9223372036854775807) : wrap64 (wrap64 (wrap64 (a.tdiv b) * b) + a.tmod b) = a := by
  obtain ⟨k, hk⟩ := wrap64_mod (a.tdiv b)
  have e : (a.tdiv b + k * 18446744073709551616) * b = a.tdiv b * b + k * b * 18446744073709551616 := by
    rw [Int.add_mul, Int.mul_right_comm]
  rw [hk, e, wrap64_add_mul]
  obtain ⟨j, hj⟩ := wrap64_mod (a.tdiv b * b)
  rw [hj, show a.tdiv b * b + j * 18446744073709551616 + a.tmod b = (a.tdiv b * b + a.tmod b) + j * 18446744073709551616 by omega, wrap64_add_mul, Int.tdiv_mul_add_tmod, wrap64_of ha]
theorem rounds_sign (a b : Int) : a.tmod b = 0 ∨ (a.tmod b < 0 ↔ a < 0) := by
  rcases Int.le_total 0 a with h | h
  · have h1 : 0 ≤ a.tmod b := Int.tmod_nonneg b h
    exact Or.inr ⟨fun h2 => by omega, fun h2 => by omega⟩
  · have e : a.tmod b = - ((-a).tmod b) := by rw [Int.neg_tmod, Int.neg_neg]
    have h1 : 0 ≤ (-a).tmod b := Int.tmod_nonneg b (by omega)
    by_cases h0 : a.tmod b = 0
    · exact Or.inl h0
    · right
      constructor
      · intro h2
        by_cases ha : a = 0
        · subst ha; simp at h0
        · omega
      · intro h2; omega
end Go.Proofs.YtacaknkfddlklaaGreatDoor
