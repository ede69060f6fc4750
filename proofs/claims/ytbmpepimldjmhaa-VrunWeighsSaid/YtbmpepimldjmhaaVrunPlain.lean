/- Plain facts on quotients, with no program in sight. No conditions beyond those in each statement. -/
import Derived.Handy
namespace Go.Proofs.Ytbmpepimldjmhaa
open Go Go.RowKit

theorem in32_of_wf {n : Int} (h : (Lit.int .u32 n).wf = true) : 0 ≤ n ∧ n ≤ 4294967295 := by
  simp [Lit.wf, IntKind.min, IntKind.max, IntKind.signed, IntKind.bits] at h; omega
theorem in64u_of_wf {n : Int} (h : (Lit.int .u64 n).wf = true) : 0 ≤ n ∧ n ≤ 18446744073709551615 := by
  simp [Lit.wf, IntKind.min, IntKind.max, IntKind.signed, IntKind.bits] at h; omega
theorem le_times {d x : Int} (h : 0 ≤ d) (hx : 1 ≤ x) : d ≤ d * x := by
  have := Int.mul_le_mul_of_nonneg_left hx h
  rwa [Int.mul_one] at this
theorem lt_of_times {a b x : Int} (hx : 0 < x) (h : a * x < b * x) : a < b := Int.lt_of_mul_lt_mul_right h (Int.le_of_lt hx)
/-- a quotient and a rest are the only ones -/
theorem quo_one {m q r q' r' : Int} (h0 : 0 ≤ r) (h1 : r < m) (h0' : 0 ≤ r') (h1' : r' < m) (h : q * m + r = q' * m + r') : q = q' ∧ r = r' := by
  have a : q < q' + 1 := lt_of_times (x := m) (by omega) (by rw [Int.add_mul, Int.one_mul]; omega)
  have b : q' < q + 1 := lt_of_times (x := m) (by omega) (by rw [Int.add_mul, Int.one_mul]; omega)
  have e : q = q' := by omega
  subst e
  exact ⟨rfl, by omega⟩
theorem times_le {w x : Int} (h0 : 0 ≤ w) (h1 : w ≤ 999999) (h2 : 0 ≤ x) (h3 : x ≤ 262144) : 0 ≤ w * x ∧ w * x ≤ 262143737856 :=
  ⟨Int.mul_nonneg h0 h2, Int.le_trans (Int.mul_le_mul h1 h3 h2 (by omega)) (by decide)⟩
end Go.Proofs.Ytbmpepimldjmhaa
