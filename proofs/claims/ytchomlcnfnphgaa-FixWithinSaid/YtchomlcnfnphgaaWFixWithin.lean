/- The walk of the law FixWithin: it returns true. Conditions: the arguments are numbers that int64 holds. -/
import Derived.Test.YtchomlcnfnphgaaFixAwake
namespace Go.Proofs.Ytchomlcnfnphgaa
open Go Go.RowKit Go.ChangeShapes Go.WideShapes

theorem walk_FixWithin (n low high : Int) (w : World) :
    Calls Try.prog 3 #[.int .i64 n, .int .i64 low, .int .i64 high] w fun e w' => e = .returned (.bool true) ∧ Grown w w' := by
  rcases Int.lt_trichotomy low high with h1 | rfl | h1
  · by_cases h2 : n < low
    · go_enter Try.func3, Try.ntmps3
      go_wp2_with (first | (go_at_call 10; refine (awake _).mono ?_; rintro e w' ⟨rfl, hg⟩) | (go_at_call 11; (first | (refine (hold_low _ _ _ _ ?hh).mono ?_; (case hh => omega)) | (refine (hold_mid _ _ _ _ ?hh ?hk).mono ?_; (case hh => omega); (case hk => omega)) | (refine (hold_high _ _ _ _ ?hh ?hk).mono ?_; (case hh => omega); (case hk => omega))); rintro e w' ⟨rfl, rfl⟩))
      go_ret
      exact ⟨rfl, by go_grown⟩
    · by_cases h3 : high < n
      · go_enter Try.func3, Try.ntmps3
        go_wp2_with (first | (go_at_call 10; refine (awake _).mono ?_; rintro e w' ⟨rfl, hg⟩) | (go_at_call 11; (first | (refine (hold_low _ _ _ _ ?hh).mono ?_; (case hh => omega)) | (refine (hold_mid _ _ _ _ ?hh ?hk).mono ?_; (case hh => omega); (case hk => omega)) | (refine (hold_high _ _ _ _ ?hh ?hk).mono ?_; (case hh => omega); (case hk => omega))); rintro e w' ⟨rfl, rfl⟩))
        go_ret
        exact ⟨rfl, by go_grown⟩
      · rcases Int.lt_or_eq_of_le (Int.not_lt.1 h2) with h4 | rfl
        · go_enter Try.func3, Try.ntmps3
          go_wp2_with (first | (go_at_call 10; refine (awake _).mono ?_; rintro e w' ⟨rfl, hg⟩) | (go_at_call 11; (first | (refine (hold_low _ _ _ _ ?hh).mono ?_; (case hh => omega)) | (refine (hold_mid _ _ _ _ ?hh ?hk).mono ?_; (case hh => omega); (case hk => omega)) | (refine (hold_high _ _ _ _ ?hh ?hk).mono ?_; (case hh => omega); (case hk => omega))); rintro e w' ⟨rfl, rfl⟩))
          go_ret
          exact ⟨rfl, by go_grown⟩
        · go_enter Try.func3, Try.ntmps3
          go_wp2_with (first | (go_at_call 10; refine (awake _).mono ?_; rintro e w' ⟨rfl, hg⟩) | (go_at_call 11; (first | (refine (hold_low _ _ _ _ ?hh).mono ?_; (case hh => omega)) | (refine (hold_mid _ _ _ _ ?hh ?hk).mono ?_; (case hh => omega); (case hk => omega)) | (refine (hold_high _ _ _ _ ?hh ?hk).mono ?_; (case hh => omega); (case hk => omega))); rintro e w' ⟨rfl, rfl⟩))
          go_ret
          exact ⟨rfl, by go_grown⟩
  · rcases Int.lt_trichotomy n low with h2 | rfl | h2
    · go_enter Try.func3, Try.ntmps3
      go_wp2_with (first | (go_at_call 10; refine (awake _).mono ?_; rintro e w' ⟨rfl, hg⟩) | (go_at_call 11; (first | (refine (hold_low _ _ _ _ ?hh).mono ?_; (case hh => omega)) | (refine (hold_mid _ _ _ _ ?hh ?hk).mono ?_; (case hh => omega); (case hk => omega)) | (refine (hold_high _ _ _ _ ?hh ?hk).mono ?_; (case hh => omega); (case hk => omega))); rintro e w' ⟨rfl, rfl⟩))
      go_ret
      exact ⟨rfl, by go_grown⟩
    · go_enter Try.func3, Try.ntmps3
      go_wp2_with (first | (go_at_call 10; refine (awake _).mono ?_; rintro e w' ⟨rfl, hg⟩) | (go_at_call 11; (first | (refine (hold_low _ _ _ _ ?hh).mono ?_; (case hh => omega)) | (refine (hold_mid _ _ _ _ ?hh ?hk).mono ?_; (case hh => omega); (case hk => omega)) | (refine (hold_high _ _ _ _ ?hh ?hk).mono ?_; (case hh => omega); (case hk => omega))); rintro e w' ⟨rfl, rfl⟩))
      go_ret
      exact ⟨rfl, by go_grown⟩
    · go_enter Try.func3, Try.ntmps3
      go_wp2_with (first | (go_at_call 10; refine (awake _).mono ?_; rintro e w' ⟨rfl, hg⟩) | (go_at_call 11; (first | (refine (hold_low _ _ _ _ ?hh).mono ?_; (case hh => omega)) | (refine (hold_mid _ _ _ _ ?hh ?hk).mono ?_; (case hh => omega); (case hk => omega)) | (refine (hold_high _ _ _ _ ?hh ?hk).mono ?_; (case hh => omega); (case hk => omega))); rintro e w' ⟨rfl, rfl⟩))
      go_ret
      exact ⟨rfl, by go_grown⟩
  · by_cases h2 : n < high
    · go_enter Try.func3, Try.ntmps3
      go_wp2_with (first | (go_at_call 10; refine (awake _).mono ?_; rintro e w' ⟨rfl, hg⟩) | (go_at_call 11; (first | (refine (hold_low _ _ _ _ ?hh).mono ?_; (case hh => omega)) | (refine (hold_mid _ _ _ _ ?hh ?hk).mono ?_; (case hh => omega); (case hk => omega)) | (refine (hold_high _ _ _ _ ?hh ?hk).mono ?_; (case hh => omega); (case hk => omega))); rintro e w' ⟨rfl, rfl⟩))
      go_ret
      exact ⟨rfl, by go_grown⟩
    · by_cases h3 : low < n
      · go_enter Try.func3, Try.ntmps3
        go_wp2_with (first | (go_at_call 10; refine (awake _).mono ?_; rintro e w' ⟨rfl, hg⟩) | (go_at_call 11; (first | (refine (hold_low _ _ _ _ ?hh).mono ?_; (case hh => omega)) | (refine (hold_mid _ _ _ _ ?hh ?hk).mono ?_; (case hh => omega); (case hk => omega)) | (refine (hold_high _ _ _ _ ?hh ?hk).mono ?_; (case hh => omega); (case hk => omega))); rintro e w' ⟨rfl, rfl⟩))
        go_ret
        exact ⟨rfl, by go_grown⟩
      · rcases Int.lt_or_eq_of_le (Int.not_lt.1 h2) with h4 | rfl
        · go_enter Try.func3, Try.ntmps3
          go_wp2_with (first | (go_at_call 10; refine (awake _).mono ?_; rintro e w' ⟨rfl, hg⟩) | (go_at_call 11; (first | (refine (hold_low _ _ _ _ ?hh).mono ?_; (case hh => omega)) | (refine (hold_mid _ _ _ _ ?hh ?hk).mono ?_; (case hh => omega); (case hk => omega)) | (refine (hold_high _ _ _ _ ?hh ?hk).mono ?_; (case hh => omega); (case hk => omega))); rintro e w' ⟨rfl, rfl⟩))
          go_ret
          exact ⟨rfl, by go_grown⟩
        · go_enter Try.func3, Try.ntmps3
          go_wp2_with (first | (go_at_call 10; refine (awake _).mono ?_; rintro e w' ⟨rfl, hg⟩) | (go_at_call 11; (first | (refine (hold_low _ _ _ _ ?hh).mono ?_; (case hh => omega)) | (refine (hold_mid _ _ _ _ ?hh ?hk).mono ?_; (case hh => omega); (case hk => omega)) | (refine (hold_high _ _ _ _ ?hh ?hk).mono ?_; (case hh => omega); (case hk => omega))); rintro e w' ⟨rfl, rfl⟩))
          go_ret
          exact ⟨rfl, by go_grown⟩
end Go.Proofs.Ytchomlcnfnphgaa
