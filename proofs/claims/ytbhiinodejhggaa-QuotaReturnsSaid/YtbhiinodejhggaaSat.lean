/- Contracts of the program's package fix: Add and Sat, where nothing runs over. Conditions: the arguments are numbers that int64 holds, and so is their sum. -/
import Derived.Test.YtbhiinodejhggaaChecked
import Derived.Test.YtbhiinodejhggaaFixPlain
namespace Go.Proofs.Ytbhiinodejhggaa
open Go Go.RowKit Go.ChangeShapes Go.WideShapes

theorem add_yes (a b : Int) (w : World) (ha : -9223372036854775808 ≤ a ∧ a ≤ 9223372036854775807) (hb : -9223372036854775808 ≤ b ∧ b ≤ 9223372036854775807)
    (h : -9223372036854775808 ≤ a + b ∧ a + b ≤ 9223372036854775807) :
    Calls Try.prog 37 #[.int .i64 a, .int .i64 b] w fun e w' => e = .returned (.tuple #[.int .i64 (a + b), .bool true]) ∧ w = w' := by
  have ht := add_test a b ha hb
  have ht2 : ¬ bits .and .i64 (bits .xor .i64 a (a + b)) (bits .xor .i64 b (a + b)) < 0 := by
    rw [IntWalk.wrap64_in _ h] at ht; exact fun h' => (ht.1 h') h
  clear ht
  go_enter Try.func37, Try.ntmps37
  go_wp2
  go_ret2
  exact ⟨rfl, rfl⟩
theorem sat_yes (a b : Int) (w : World) (ha : -9223372036854775808 ≤ a ∧ a ≤ 9223372036854775807) (hb : -9223372036854775808 ≤ b ∧ b ≤ 9223372036854775807) (h : -9223372036854775808 ≤ a + b ∧ a + b ≤ 9223372036854775807) :
    Calls Try.prog 34 #[.int .i64 a, .int .i64 b] w fun e w' => e = .returned (.int .i64 (a + b)) ∧ w.alloc (.cells #[.int .i64 b] 2) = w' := by
  go_enter Try.func34, Try.ntmps34
  go_wp2_with (first | (go_at_call 37; refine (add_yes _ _ _ ha hb h).mono ?_; rintro e w' ⟨rfl, rfl⟩) | go_in)
  go_ret
  exact ⟨rfl, rfl⟩
end Go.Proofs.Ytbhiinodejhggaa
