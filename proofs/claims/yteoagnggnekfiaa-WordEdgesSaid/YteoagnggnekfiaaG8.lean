/- Between what bounds the first remainder of three words over two lies. No condition. -/
import Derived.Test.YteoagnggnekfiaaG7
namespace Go.Proofs.Yteoagnggnekfiaa
namespace Ab
open Go Go.RowKit
theorem mg3_bounds {B v D k a2 a1 a0 q1 q0 r : Int} (h1 : (B + v) * D + k = B * B * B) (h2 : (B + v) * a2 + a1 = q1 * B + q0) (h3 : r = a2 * B * B + a1 * B + a0 - (q1 + 1) * D) (hk0 : 0 ≤ k) (hk : k ≤ D) (hD : D < B * B) (hDB : B ≤ D) (hB : 0 < B) (hv : 0 ≤ v)
    (ha2 : 0 ≤ a2) (ha1 : 0 ≤ a1) (ha1B : a1 < B) (ha0 : 0 ≤ a0) (ha0B : a0 < B) (hx : a2 * B + a1 < D) (hq0 : 0 ≤ q0) (hq0B : q0 < B) : -D ≤ r ∧ q0 * B ≤ B * B + r ∧ (r < B * B - D ∨ r < q0 * B) := by
  have key : B * r = a2 * k + a1 * (B * B - D) + a0 * B + q0 * D - B * D := by grind
  have p1 : 0 ≤ a2 * k := Int.mul_nonneg ha2 hk0
  have p2 : 0 ≤ a1 * (B * B - D) := Int.mul_nonneg ha1 (by omega)
  have p3 : 0 ≤ a0 * B := Int.mul_nonneg ha0 (by omega)
  have p4 : 0 ≤ q0 * D := Int.mul_nonneg hq0 (by omega)
  refine ⟨?_, ?_, ?_⟩
  · have e : B * (-D) ≤ B * r := by rw [key]; grind
    exact Int.le_of_mul_le_mul_left e hB
  · have e0 : (B - q0) * D ≤ (B - q0) * (B * B) := Int.mul_le_mul_of_nonneg_left (by omega) (by omega)
    have e : B * (q0 * B - B * B) ≤ B * r := by rw [key]; grind
    have := Int.le_of_mul_le_mul_left e hB
    omega
  · rcases Int.lt_or_le r (B * B - D) with c1 | c1
    · exact .inl c1
    · refine .inr ?_
      rcases Int.lt_or_le r (q0 * B) with c2 | c2
      · exact c2
      · exfalso
        have hvD : v * D = B * B * B - B * D - k := by grind
        have key2 : B * B * r = (a2 * B + a1) * k + a1 * (v * D) + a0 * (B * B) + q0 * B * D - B * B * D := by
          have : B * B * r = B * (B * r) := by grind
          rw [this, key, hvD]
          grind
        have b1 : (a2 * B + a1) * k ≤ (D - 1) * k := Int.mul_le_mul_of_nonneg_right (by omega) hk0
        have b2 : a1 * (v * D) ≤ (B - 1) * (v * D) := Int.mul_le_mul_of_nonneg_right (by omega) (Int.mul_nonneg hv (by omega))
        have b3 : a0 * (B * B) ≤ (B - 1) * (B * B) := Int.mul_le_mul_of_nonneg_right (by omega) (by omega)
        have b4 : (D - B) * k ≤ (D - B) * D := Int.mul_le_mul_of_nonneg_left hk (by omega)
        have b5 : (B * B - D) * (B * B - D) ≤ (B * B - D) * r := Int.mul_le_mul_of_nonneg_left c1 (by omega)
        have b6 : D * (q0 * B) ≤ D * r := Int.mul_le_mul_of_nonneg_left c2 (by omega)
        have b7 : 0 < B * B := Int.mul_pos hB hB
        rw [hvD] at b2 key2
        have e1 : B * B * r = (B * B - D) * r + D * r := by grind
        have e2 : (D - 1) * k + (B - 1) * (B * B * B - B * D - k) + (B - 1) * (B * B) = (D - B) * k + (B - 1) * (B * B * B - B * D) + (B - 1) * (B * B) := by grind
        have e3 : (D - B) * D + (B - 1) * (B * B * B - B * D) + (B - 1) * (B * B) + q0 * B * D - B * B * D + B * B = (B * B - D) * (B * B - D) + D * (q0 * B) := by grind
        omega
end Ab
end Go.Proofs.Yteoagnggnekfiaa
