/- The walk of the law FixTurned: it returns true. Conditions: the arguments are numbers that int64 holds. -/
import Derived.Test.YtchomlcnfnphgaaFixAwake
import Derived.Test.YtchomlcnfnphgaaFixMul
namespace Go.Proofs.Ytchomlcnfnphgaa
open Go Go.RowKit Go.ChangeShapes Go.WideShapes
set_option linter.unusedVariables false

theorem add_turned (a b : Int) (w : World) (ha : -9223372036854775808 ≤ a ∧ a ≤ 9223372036854775807) (hb : -9223372036854775808 ≤ b ∧ b ≤ 9223372036854775807) :
    Calls Try.prog 12 #[.int .i64 b, .int .i64 a] w fun e w' => e = .returned (.tuple #[.int .i64 (fitV (a + b)), .bool (fitB (a + b))]) ∧ w = w' := by
  rw [Int.add_comm a b]; exact add_any b a w hb ha
theorem mul_turned (a b : Int) (w : World) (ha : -9223372036854775808 ≤ a ∧ a ≤ 9223372036854775807) (hb : -9223372036854775808 ≤ b ∧ b ≤ 9223372036854775807) :
    Calls Try.prog 19 #[.int .i64 b, .int .i64 a] w fun e w' => e = .returned (.tuple #[.int .i64 (fitV (a * b)), .bool (fitB (a * b))]) ∧ w = w' := by
  rw [Int.mul_comm a b]; exact mul_any b a w hb ha
theorem sat_turned (a b : Int) (w : World) (ha : -9223372036854775808 ≤ a ∧ a ≤ 9223372036854775807) (hb : -9223372036854775808 ≤ b ∧ b ≤ 9223372036854775807) :
    Calls Try.prog 14 #[.int .i64 b, .int .i64 a] w fun e w' => e = .returned (.int .i64 (satV a b)) ∧ w' = w.alloc (.cells #[.int .i64 a] 2) := by
  have hx : satV b a = satV a b := by
    by_cases h : a + b ≤ 0
    · by_cases h2 : -9223372036854775808 ≤ a + b ∧ a + b ≤ 9223372036854775807
      · simp [satV, fitB_yes h2, Int.add_comm b a]
      · rw [satV_low h2 (by omega), satV_low (by rw [Int.add_comm]; exact h2) (by omega)]
    · by_cases h2 : -9223372036854775808 ≤ a + b ∧ a + b ≤ 9223372036854775807
      · simp [satV, fitB_yes h2, Int.add_comm b a]
      · rw [satV_high h2 (by omega), satV_high (by rw [Int.add_comm]; exact h2) (by omega)]
  rw [← hx]; exact sat_any b a w hb ha
theorem mul_once (a : Int) (w : World) (ha : -9223372036854775808 ≤ a ∧ a ≤ 9223372036854775807) :
    Calls Try.prog 19 #[.int .i64 a, .int .i64 1] w fun e w' => e = .returned (.tuple #[.int .i64 a, .bool true]) ∧ w = w' := by
  have h := mul_yes a 1 w ha (by omega) (by omega)
  rwa [Int.mul_one] at h
theorem mul_none (a : Int) (w : World) (ha : -9223372036854775808 ≤ a ∧ a ≤ 9223372036854775807) :
    Calls Try.prog 19 #[.int .i64 0, .int .i64 a] w fun e w' => e = .returned (.tuple #[.int .i64 0, .bool true]) ∧ w = w' := by
  have h := mul_yes 0 a w (by omega) ha (by rw [Int.zero_mul]; omega)
  rwa [Int.zero_mul] at h
theorem walk_FixTurned (a b : Int) (w : World) (ha : -9223372036854775808 ≤ a ∧ a ≤ 9223372036854775807) (hb : -9223372036854775808 ≤ b ∧ b ≤ 9223372036854775807) :
    Calls Try.prog 7 #[.int .i64 a, .int .i64 b] w fun e w' => e = .returned (.bool true) ∧ Grown w w' := by
  go_enter Try.func7, Try.ntmps7
  go_wp2_with (first | (go_at_call 10; refine (awake _).mono ?_; rintro e w' ⟨rfl, hg⟩) | (go_at_call 12; (first | (with_reducible refine (add_any a b _ ha hb).mono ?_) | (with_reducible refine (add_turned a b _ ha hb).mono ?_)); rintro e w' ⟨rfl, rfl⟩) | (go_at_call 19; (first | (with_reducible refine (mul_once a _ ha).mono ?_) | (with_reducible refine (mul_none a _ ha).mono ?_) | (with_reducible refine (mul_any a b _ ha hb).mono ?_) | (with_reducible refine (mul_turned a b _ ha hb).mono ?_)); rintro e w' ⟨rfl, rfl⟩) | (go_at_call 14; (first | (with_reducible refine (sat_any a b _ ha hb).mono ?_) | (with_reducible refine (sat_turned a b _ ha hb).mono ?_)); rintro e w' ⟨rfl, rfl⟩))
  go_ret
  exact ⟨rfl, by go_grown⟩
end Go.Proofs.Ytchomlcnfnphgaa
