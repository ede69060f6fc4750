/- The walk of the law FixSums: it returns true. Conditions: the arguments are numbers that int64 holds. -/
import Derived.Test.YtchomlcnfnphgaaFixAwake
import Derived.Test.YtchomlcnfnphgaaFixRefMul
namespace Go.Proofs.Ytchomlcnfnphgaa
open Go Go.RowKit Go.ChangeShapes Go.WideShapes
set_option linter.unusedVariables false

theorem fitV_in (n : Int) : -9223372036854775808 ≤ fitV n ∧ fitV n ≤ 9223372036854775807 := by
  unfold fitV fitB; simp only [decide_eq_true_eq]; split <;> omega
theorem walk_FixSums (a b : Int) (w : World) (ha : -9223372036854775808 ≤ a ∧ a ≤ 9223372036854775807) (hb : -9223372036854775808 ≤ b ∧ b ≤ 9223372036854775807) :
    Calls Try.prog 9 #[.int .i64 a, .int .i64 b] w fun e w' => e = .returned (.bool true) ∧ Grown w w' := by
  go_enter Try.func9, Try.ntmps9
  go_wp2_with (first | (go_at_call 10; refine (awake _).mono ?_; rintro e w' ⟨rfl, hg⟩) | (go_at_call 12; (first | (refine (add_any _ _ _ ?ha ?hb).mono ?_; (case ha => first | assumption | omega | exact fitV_in _); (case hb => first | assumption | omega | exact fitV_in _))); rintro e w' ⟨rfl, rfl⟩) | (go_at_call 13; (first | (refine (sub_any _ _ _ ?ha ?hb).mono ?_; (case ha => first | assumption | omega | exact fitV_in _); (case hb => first | assumption | omega | exact fitV_in _))); rintro e w' ⟨rfl, rfl⟩) | (go_at_call 19; (first | (refine (mul_any _ _ _ ?ha ?hb).mono ?_; (case ha => first | assumption | omega | exact fitV_in _); (case hb => first | assumption | omega | exact fitV_in _))); rintro e w' ⟨rfl, rfl⟩) | (go_at_call 20; (first | (refine (refadd_any _ _ _ ?ha ?hb).mono ?_; (case ha => first | assumption | omega | exact fitV_in _); (case hb => first | assumption | omega | exact fitV_in _))); rintro e w' ⟨rfl, rfl⟩) | (go_at_call 21; (first | (refine (refsub_any _ _ _ ?ha ?hb).mono ?_; (case ha => first | assumption | omega | exact fitV_in _); (case hb => first | assumption | omega | exact fitV_in _))); rintro e w' ⟨rfl, rfl⟩) | (go_at_call 22; (first | (refine (refmul_any _ _ _ ?ha ?hb).mono ?_; (case ha => first | assumption | omega | exact fitV_in _); (case hb => first | assumption | omega | exact fitV_in _))); rintro e w' ⟨rfl, rfl⟩))
  go_ret
  exact ⟨rfl, by go_grown⟩
end Go.Proofs.Ytchomlcnfnphgaa
