/- The walk of the law FixBack: it returns true. Conditions: the arguments are numbers that int64 holds. -/
import Derived.Test.YtchomlcnfnphgaaFixAwake
namespace Go.Proofs.Ytchomlcnfnphgaa
open Go Go.RowKit Go.ChangeShapes Go.WideShapes

set_option maxHeartbeats 400000 in
theorem walk_FixBack (a b : Int) (w : World) (ha : -9223372036854775808 ≤ a ∧ a ≤ 9223372036854775807) (hb : -9223372036854775808 ≤ b ∧ b ≤ 9223372036854775807) :
    Calls Try.prog 4 #[.int .i64 a, .int .i64 b] w fun e w' => e = .returned (.bool true) ∧ Grown w w' := by
  by_cases h1 : -9223372036854775808 ≤ a + b ∧ a + b ≤ 9223372036854775807
  · by_cases h2 : -9223372036854775808 ≤ a - b ∧ a - b ≤ 9223372036854775807
    · go_enter Try.func4, Try.ntmps4
      go_wp2_with (first | (go_at_call 10; refine (awake _).mono ?_; rintro e w' ⟨rfl, hg⟩) | (go_at_call 12; (first | (refine (add_yes _ _ _ ?ha ?hb ?hc).mono ?_; (case ha => omega); (case hb => omega); (case hc => omega)) | (refine (add_no _ _ _ ?ha ?hb ?hc).mono ?_; (case ha => omega); (case hb => omega); (case hc => omega))); rintro e w' ⟨rfl, rfl⟩) | (go_at_call 13; (first | (refine (sub_yes _ _ _ ?ha ?hb ?hc).mono ?_; (case ha => omega); (case hb => omega); (case hc => omega)) | (refine (sub_no _ _ _ ?ha ?hb ?hc).mono ?_; (case ha => omega); (case hb => omega); (case hc => omega))); rintro e w' ⟨rfl, rfl⟩))
      go_ret
      exact ⟨rfl, by go_grown⟩
    · go_enter Try.func4, Try.ntmps4
      go_wp2_with (first | (go_at_call 10; refine (awake _).mono ?_; rintro e w' ⟨rfl, hg⟩) | (go_at_call 12; (first | (refine (add_yes _ _ _ ?ha ?hb ?hc).mono ?_; (case ha => omega); (case hb => omega); (case hc => omega)) | (refine (add_no _ _ _ ?ha ?hb ?hc).mono ?_; (case ha => omega); (case hb => omega); (case hc => omega))); rintro e w' ⟨rfl, rfl⟩) | (go_at_call 13; (first | (refine (sub_yes _ _ _ ?ha ?hb ?hc).mono ?_; (case ha => omega); (case hb => omega); (case hc => omega)) | (refine (sub_no _ _ _ ?ha ?hb ?hc).mono ?_; (case ha => omega); (case hb => omega); (case hc => omega))); rintro e w' ⟨rfl, rfl⟩))
      go_ret
      exact ⟨rfl, by go_grown⟩
  · by_cases h3 : -9223372036854775808 ≤ 0 - b ∧ 0 - b ≤ 9223372036854775807
    · go_enter Try.func4, Try.ntmps4
      go_wp2_with (first | (go_at_call 10; refine (awake _).mono ?_; rintro e w' ⟨rfl, hg⟩) | (go_at_call 12; (first | (refine (add_yes _ _ _ ?ha ?hb ?hc).mono ?_; (case ha => omega); (case hb => omega); (case hc => omega)) | (refine (add_no _ _ _ ?ha ?hb ?hc).mono ?_; (case ha => omega); (case hb => omega); (case hc => omega))); rintro e w' ⟨rfl, rfl⟩) | (go_at_call 13; (first | (refine (sub_yes _ _ _ ?ha ?hb ?hc).mono ?_; (case ha => omega); (case hb => omega); (case hc => omega)) | (refine (sub_no _ _ _ ?ha ?hb ?hc).mono ?_; (case ha => omega); (case hb => omega); (case hc => omega))); rintro e w' ⟨rfl, rfl⟩))
      go_ret
      exact ⟨rfl, by go_grown⟩
    · go_enter Try.func4, Try.ntmps4
      go_wp2_with (first | (go_at_call 10; refine (awake _).mono ?_; rintro e w' ⟨rfl, hg⟩) | (go_at_call 12; (first | (refine (add_yes _ _ _ ?ha ?hb ?hc).mono ?_; (case ha => omega); (case hb => omega); (case hc => omega)) | (refine (add_no _ _ _ ?ha ?hb ?hc).mono ?_; (case ha => omega); (case hb => omega); (case hc => omega))); rintro e w' ⟨rfl, rfl⟩) | (go_at_call 13; (first | (refine (sub_yes _ _ _ ?ha ?hb ?hc).mono ?_; (case ha => omega); (case hb => omega); (case hc => omega)) | (refine (sub_no _ _ _ ?ha ?hb ?hc).mono ?_; (case ha => omega); (case hb => omega); (case hc => omega))); rintro e w' ⟨rfl, rfl⟩))
      go_ret
      exact ⟨rfl, by go_grown⟩
end Go.Proofs.Ytchomlcnfnphgaa
