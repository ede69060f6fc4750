/- The walk of the law FixHolds: it returns true. Conditions: the arguments are numbers that int64 holds. -/
import Derived.Test.YtchomlcnfnphgaaFixAwake
import Derived.Test.YtchomlcnfnphgaaFixRef
namespace Go.Proofs.Ytchomlcnfnphgaa
open Go Go.RowKit Go.ChangeShapes Go.WideShapes
set_option linter.unusedVariables false

theorem walk_FixHolds (n low high : Int) (w : World) (hn : -9223372036854775808 ≤ n ∧ n ≤ 9223372036854775807) (hlow : -9223372036854775808 ≤ low ∧ low ≤ 9223372036854775807) (hhigh : -9223372036854775808 ≤ high ∧ high ≤ 9223372036854775807) :
    Calls Try.prog 5 #[.int .i64 n, .int .i64 low, .int .i64 high] w fun e w' => e = .returned (.bool true) ∧ Grown w w' := by
  go_enter Try.func5, Try.ntmps5
  go_wp2_with (first | (go_at_call 10; refine (awake _).mono ?_; rintro e w' ⟨rfl, hg⟩) | (go_at_call 14; (refine (sat_any _ _ _ ?ha ?hb).mono ?_; (case ha => omega); (case hb => omega)); rintro e w' ⟨rfl, rfl⟩) | (go_at_call 16; (refine (less_any _ _ _ ?ha ?hb).mono ?_; (case ha => omega); (case hb => omega)); rintro e w' ⟨rfl, rfl⟩) | (go_at_call 11; (refine (hold_any _ _ _ _).mono ?_); rintro e w' ⟨rfl, rfl⟩) | (go_at_call 15; (refine (refsat_any _ _ _ ?ha ?hb).mono ?_; (case ha => omega); (case hb => omega)); rintro e w' ⟨rfl, rfl⟩) | (go_at_call 17; (refine (refless_any _ _ _ ?ha ?hb).mono ?_; (case ha => omega); (case hb => omega)); rintro e w' ⟨rfl, rfl⟩) | (go_at_call 18; (refine (refhold_any _ _ _ _).mono ?_); rintro e w' ⟨rfl, rfl⟩))
  go_ret
  exact ⟨rfl, by go_grown⟩
end Go.Proofs.Ytchomlcnfnphgaa
