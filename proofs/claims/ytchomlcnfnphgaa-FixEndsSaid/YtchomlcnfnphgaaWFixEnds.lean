/- The walk of the law FixEnds: it returns true. Conditions: the arguments are numbers that int64 holds. -/
import Derived.Test.YtchomlcnfnphgaaFixAwake
import Derived.Test.YtchomlcnfnphgaaFixRef
namespace Go.Proofs.Ytchomlcnfnphgaa
open Go Go.RowKit Go.ChangeShapes Go.WideShapes
set_option linter.unusedVariables false

theorem satV_mono (a b c : Int) (h0 : -9223372036854775808 ≤ a ∧ a ≤ 9223372036854775807) (h : b ≤ c) : satV a b ≤ satV a c := by
  unfold satV fitB
  simp only [decide_eq_true_eq]
  repeat' split
  all_goals omega
theorem lessV_mono (a b c : Int) (h0 : -9223372036854775808 ≤ a ∧ a ≤ 9223372036854775807) (h : b ≤ c) : lessV a c ≤ lessV a b := by
  unfold lessV fitB
  simp only [decide_eq_true_eq]
  repeat' split
  all_goals omega
set_option maxHeartbeats 1000000 in
theorem walk_FixEnds (a b c : Int) (w : World) (ha : -9223372036854775808 ≤ a ∧ a ≤ 9223372036854775807) (hb : -9223372036854775808 ≤ b ∧ b ≤ 9223372036854775807) (hc : -9223372036854775808 ≤ c ∧ c ≤ 9223372036854775807) :
    Calls Try.prog 6 #[.int .i64 a, .int .i64 b, .int .i64 c] w fun e w' => e = .returned (.bool true) ∧ Grown w w' := by
  rcases Int.lt_trichotomy b c with h0 | rfl | h0
  · have hl := lessV_mono a b c ha (Int.le_of_lt h0)
    by_cases h1 : -9223372036854775808 ≤ a + b ∧ a + b ≤ 9223372036854775807
    · have hs : a + b ≤ satV a c := by have := satV_mono a b c ha (Int.le_of_lt h0); rwa [satV_yes h1] at this
      go_enter Try.func6, Try.ntmps6
      go_wp2_with (first | (go_at_call 10; refine (awake _).mono ?_; rintro e w' ⟨rfl, hg⟩) | (go_at_call 12; (first | (refine (add_yes _ _ _ ?ha ?hb ?hc).mono ?_; (case ha => omega); (case hb => omega); (case hc => omega)) | (refine (add_no _ _ _ ?ha ?hb ?hc).mono ?_; (case ha => omega); (case hb => omega); (case hc => omega))); rintro e w' ⟨rfl, rfl⟩) | (go_at_call 14; (first | (refine (sat_yes _ _ _ ?ha ?hb ?hc).mono ?_; (case ha => omega); (case hb => omega); (case hc => omega)) | (refine (sat_high _ _ _ ?ha ?hb ?hc ?hd).mono ?_; (case ha => omega); (case hb => omega); (case hc => omega); (case hd => omega)) | (refine (sat_low _ _ _ ?ha ?hb ?hc ?hd).mono ?_; (case ha => omega); (case hb => omega); (case hc => omega); (case hd => omega)) | (refine (sat_any _ _ _ ?ha ?hb).mono ?_; (case ha => omega); (case hb => omega))); rintro e w' ⟨rfl, rfl⟩) | (go_at_call 16; (refine (less_any _ _ _ ?ha ?hb).mono ?_; (case ha => omega); (case hb => omega)); rintro e w' ⟨rfl, rfl⟩))
      go_ret
      exact ⟨rfl, by go_grown⟩
    · by_cases h2 : 0 < b
      · skip
        go_enter Try.func6, Try.ntmps6
        go_wp2_with (first | (go_at_call 10; refine (awake _).mono ?_; rintro e w' ⟨rfl, hg⟩) | (go_at_call 12; (first | (refine (add_yes _ _ _ ?ha ?hb ?hc).mono ?_; (case ha => omega); (case hb => omega); (case hc => omega)) | (refine (add_no _ _ _ ?ha ?hb ?hc).mono ?_; (case ha => omega); (case hb => omega); (case hc => omega))); rintro e w' ⟨rfl, rfl⟩) | (go_at_call 14; (first | (refine (sat_yes _ _ _ ?ha ?hb ?hc).mono ?_; (case ha => omega); (case hb => omega); (case hc => omega)) | (refine (sat_high _ _ _ ?ha ?hb ?hc ?hd).mono ?_; (case ha => omega); (case hb => omega); (case hc => omega); (case hd => omega)) | (refine (sat_low _ _ _ ?ha ?hb ?hc ?hd).mono ?_; (case ha => omega); (case hb => omega); (case hc => omega); (case hd => omega)) | (refine (sat_any _ _ _ ?ha ?hb).mono ?_; (case ha => omega); (case hb => omega))); rintro e w' ⟨rfl, rfl⟩) | (go_at_call 16; (refine (less_any _ _ _ ?ha ?hb).mono ?_; (case ha => omega); (case hb => omega)); rintro e w' ⟨rfl, rfl⟩))
        go_ret
        exact ⟨rfl, by go_grown⟩
      · have hs : -9223372036854775808 ≤ satV a c := by have := satV_mono a b c ha (Int.le_of_lt h0); rwa [satV_low h1 h2] at this
        go_enter Try.func6, Try.ntmps6
        go_wp2_with (first | (go_at_call 10; refine (awake _).mono ?_; rintro e w' ⟨rfl, hg⟩) | (go_at_call 12; (first | (refine (add_yes _ _ _ ?ha ?hb ?hc).mono ?_; (case ha => omega); (case hb => omega); (case hc => omega)) | (refine (add_no _ _ _ ?ha ?hb ?hc).mono ?_; (case ha => omega); (case hb => omega); (case hc => omega))); rintro e w' ⟨rfl, rfl⟩) | (go_at_call 14; (first | (refine (sat_yes _ _ _ ?ha ?hb ?hc).mono ?_; (case ha => omega); (case hb => omega); (case hc => omega)) | (refine (sat_high _ _ _ ?ha ?hb ?hc ?hd).mono ?_; (case ha => omega); (case hb => omega); (case hc => omega); (case hd => omega)) | (refine (sat_low _ _ _ ?ha ?hb ?hc ?hd).mono ?_; (case ha => omega); (case hb => omega); (case hc => omega); (case hd => omega)) | (refine (sat_any _ _ _ ?ha ?hb).mono ?_; (case ha => omega); (case hb => omega))); rintro e w' ⟨rfl, rfl⟩) | (go_at_call 16; (refine (less_any _ _ _ ?ha ?hb).mono ?_; (case ha => omega); (case hb => omega)); rintro e w' ⟨rfl, rfl⟩))
        go_ret
        exact ⟨rfl, by go_grown⟩
  · by_cases h1 : -9223372036854775808 ≤ a + b ∧ a + b ≤ 9223372036854775807
    · go_enter Try.func6, Try.ntmps6
      go_wp2_with (first | (go_at_call 10; refine (awake _).mono ?_; rintro e w' ⟨rfl, hg⟩) | (go_at_call 12; (first | (refine (add_yes _ _ _ ?ha ?hb ?hc).mono ?_; (case ha => omega); (case hb => omega); (case hc => omega)) | (refine (add_no _ _ _ ?ha ?hb ?hc).mono ?_; (case ha => omega); (case hb => omega); (case hc => omega))); rintro e w' ⟨rfl, rfl⟩) | (go_at_call 14; (first | (refine (sat_yes _ _ _ ?ha ?hb ?hc).mono ?_; (case ha => omega); (case hb => omega); (case hc => omega)) | (refine (sat_high _ _ _ ?ha ?hb ?hc ?hd).mono ?_; (case ha => omega); (case hb => omega); (case hc => omega); (case hd => omega)) | (refine (sat_low _ _ _ ?ha ?hb ?hc ?hd).mono ?_; (case ha => omega); (case hb => omega); (case hc => omega); (case hd => omega)) | (refine (sat_any _ _ _ ?ha ?hb).mono ?_; (case ha => omega); (case hb => omega))); rintro e w' ⟨rfl, rfl⟩) | (go_at_call 16; (refine (less_any _ _ _ ?ha ?hb).mono ?_; (case ha => omega); (case hb => omega)); rintro e w' ⟨rfl, rfl⟩))
      go_ret
      exact ⟨rfl, by go_grown⟩
    · by_cases h2 : 0 < b
      · go_enter Try.func6, Try.ntmps6
        go_wp2_with (first | (go_at_call 10; refine (awake _).mono ?_; rintro e w' ⟨rfl, hg⟩) | (go_at_call 12; (first | (refine (add_yes _ _ _ ?ha ?hb ?hc).mono ?_; (case ha => omega); (case hb => omega); (case hc => omega)) | (refine (add_no _ _ _ ?ha ?hb ?hc).mono ?_; (case ha => omega); (case hb => omega); (case hc => omega))); rintro e w' ⟨rfl, rfl⟩) | (go_at_call 14; (first | (refine (sat_yes _ _ _ ?ha ?hb ?hc).mono ?_; (case ha => omega); (case hb => omega); (case hc => omega)) | (refine (sat_high _ _ _ ?ha ?hb ?hc ?hd).mono ?_; (case ha => omega); (case hb => omega); (case hc => omega); (case hd => omega)) | (refine (sat_low _ _ _ ?ha ?hb ?hc ?hd).mono ?_; (case ha => omega); (case hb => omega); (case hc => omega); (case hd => omega)) | (refine (sat_any _ _ _ ?ha ?hb).mono ?_; (case ha => omega); (case hb => omega))); rintro e w' ⟨rfl, rfl⟩) | (go_at_call 16; (refine (less_any _ _ _ ?ha ?hb).mono ?_; (case ha => omega); (case hb => omega)); rintro e w' ⟨rfl, rfl⟩))
        go_ret
        exact ⟨rfl, by go_grown⟩
      · go_enter Try.func6, Try.ntmps6
        go_wp2_with (first | (go_at_call 10; refine (awake _).mono ?_; rintro e w' ⟨rfl, hg⟩) | (go_at_call 12; (first | (refine (add_yes _ _ _ ?ha ?hb ?hc).mono ?_; (case ha => omega); (case hb => omega); (case hc => omega)) | (refine (add_no _ _ _ ?ha ?hb ?hc).mono ?_; (case ha => omega); (case hb => omega); (case hc => omega))); rintro e w' ⟨rfl, rfl⟩) | (go_at_call 14; (first | (refine (sat_yes _ _ _ ?ha ?hb ?hc).mono ?_; (case ha => omega); (case hb => omega); (case hc => omega)) | (refine (sat_high _ _ _ ?ha ?hb ?hc ?hd).mono ?_; (case ha => omega); (case hb => omega); (case hc => omega); (case hd => omega)) | (refine (sat_low _ _ _ ?ha ?hb ?hc ?hd).mono ?_; (case ha => omega); (case hb => omega); (case hc => omega); (case hd => omega)) | (refine (sat_any _ _ _ ?ha ?hb).mono ?_; (case ha => omega); (case hb => omega))); rintro e w' ⟨rfl, rfl⟩) | (go_at_call 16; (refine (less_any _ _ _ ?ha ?hb).mono ?_; (case ha => omega); (case hb => omega)); rintro e w' ⟨rfl, rfl⟩))
        go_ret
        exact ⟨rfl, by go_grown⟩
  · by_cases h1 : -9223372036854775808 ≤ a + b ∧ a + b ≤ 9223372036854775807
    · go_enter Try.func6, Try.ntmps6
      go_wp2_with (first | (go_at_call 10; refine (awake _).mono ?_; rintro e w' ⟨rfl, hg⟩) | (go_at_call 12; (first | (refine (add_yes _ _ _ ?ha ?hb ?hc).mono ?_; (case ha => omega); (case hb => omega); (case hc => omega)) | (refine (add_no _ _ _ ?ha ?hb ?hc).mono ?_; (case ha => omega); (case hb => omega); (case hc => omega))); rintro e w' ⟨rfl, rfl⟩) | (go_at_call 14; (first | (refine (sat_yes _ _ _ ?ha ?hb ?hc).mono ?_; (case ha => omega); (case hb => omega); (case hc => omega)) | (refine (sat_high _ _ _ ?ha ?hb ?hc ?hd).mono ?_; (case ha => omega); (case hb => omega); (case hc => omega); (case hd => omega)) | (refine (sat_low _ _ _ ?ha ?hb ?hc ?hd).mono ?_; (case ha => omega); (case hb => omega); (case hc => omega); (case hd => omega)) | (refine (sat_any _ _ _ ?ha ?hb).mono ?_; (case ha => omega); (case hb => omega))); rintro e w' ⟨rfl, rfl⟩) | (go_at_call 16; (refine (less_any _ _ _ ?ha ?hb).mono ?_; (case ha => omega); (case hb => omega)); rintro e w' ⟨rfl, rfl⟩))
      go_ret
      exact ⟨rfl, by go_grown⟩
    · by_cases h2 : 0 < b
      · go_enter Try.func6, Try.ntmps6
        go_wp2_with (first | (go_at_call 10; refine (awake _).mono ?_; rintro e w' ⟨rfl, hg⟩) | (go_at_call 12; (first | (refine (add_yes _ _ _ ?ha ?hb ?hc).mono ?_; (case ha => omega); (case hb => omega); (case hc => omega)) | (refine (add_no _ _ _ ?ha ?hb ?hc).mono ?_; (case ha => omega); (case hb => omega); (case hc => omega))); rintro e w' ⟨rfl, rfl⟩) | (go_at_call 14; (first | (refine (sat_yes _ _ _ ?ha ?hb ?hc).mono ?_; (case ha => omega); (case hb => omega); (case hc => omega)) | (refine (sat_high _ _ _ ?ha ?hb ?hc ?hd).mono ?_; (case ha => omega); (case hb => omega); (case hc => omega); (case hd => omega)) | (refine (sat_low _ _ _ ?ha ?hb ?hc ?hd).mono ?_; (case ha => omega); (case hb => omega); (case hc => omega); (case hd => omega)) | (refine (sat_any _ _ _ ?ha ?hb).mono ?_; (case ha => omega); (case hb => omega))); rintro e w' ⟨rfl, rfl⟩) | (go_at_call 16; (refine (less_any _ _ _ ?ha ?hb).mono ?_; (case ha => omega); (case hb => omega)); rintro e w' ⟨rfl, rfl⟩))
        go_ret
        exact ⟨rfl, by go_grown⟩
      · go_enter Try.func6, Try.ntmps6
        go_wp2_with (first | (go_at_call 10; refine (awake _).mono ?_; rintro e w' ⟨rfl, hg⟩) | (go_at_call 12; (first | (refine (add_yes _ _ _ ?ha ?hb ?hc).mono ?_; (case ha => omega); (case hb => omega); (case hc => omega)) | (refine (add_no _ _ _ ?ha ?hb ?hc).mono ?_; (case ha => omega); (case hb => omega); (case hc => omega))); rintro e w' ⟨rfl, rfl⟩) | (go_at_call 14; (first | (refine (sat_yes _ _ _ ?ha ?hb ?hc).mono ?_; (case ha => omega); (case hb => omega); (case hc => omega)) | (refine (sat_high _ _ _ ?ha ?hb ?hc ?hd).mono ?_; (case ha => omega); (case hb => omega); (case hc => omega); (case hd => omega)) | (refine (sat_low _ _ _ ?ha ?hb ?hc ?hd).mono ?_; (case ha => omega); (case hb => omega); (case hc => omega); (case hd => omega)) | (refine (sat_any _ _ _ ?ha ?hb).mono ?_; (case ha => omega); (case hb => omega))); rintro e w' ⟨rfl, rfl⟩) | (go_at_call 16; (refine (less_any _ _ _ ?ha ?hb).mono ?_; (case ha => omega); (case hb => omega)); rintro e w' ⟨rfl, rfl⟩))
        go_ret
        exact ⟨rfl, by go_grown⟩
end Go.Proofs.Ytchomlcnfnphgaa
