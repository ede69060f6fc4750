/- The walks of the laws of package dolelaw01: each returns true. Conditions: the arguments are numbers that int64 holds. -/
import Derived.Test.YtchomlcnfnphgaaFix
namespace Go.Proofs.Ytchomlcnfnphgaa
open Go Go.RowKit Go.ChangeShapes Go.WideShapes

theorem grown_trans {a b c : World} (h : Grown a b) (k : Grown b c) : Grown a c :=
  ⟨World.keptBut_trans h.1 k.1, fun x => (k.2.1 x).trans (h.2.1 x), Nat.le_trans h.2.2 k.2.2⟩

theorem awake (w : World) : Calls Try.prog 10 #[] w fun e w' => e = .returned (.bool true) ∧ Grown w w' := by
  go_enter Try.func10, Try.ntmps10
  go_wp2_with (first | (go_at_call 12; (first | (refine (add_yes _ _ _ ?ha ?hb ?hc).mono ?_; (case ha => omega); (case hb => omega); (case hc => omega)) | (refine (add_no _ _ _ ?ha ?hb ?hc).mono ?_; (case ha => omega); (case hb => omega); (case hc => omega))); rintro e w' ⟨rfl, rfl⟩) | (go_at_call 14; (first | (refine (sat_yes _ _ _ ?ha ?hb ?hc).mono ?_; (case ha => omega); (case hb => omega); (case hc => omega)) | (refine (sat_high _ _ _ ?ha ?hb ?hc ?hd).mono ?_; (case ha => omega); (case hb => omega); (case hc => omega); (case hd => omega)) | (refine (sat_low _ _ _ ?ha ?hb ?hc ?hd).mono ?_; (case ha => omega); (case hb => omega); (case hc => omega); (case hd => omega))); rintro e w' ⟨rfl, rfl⟩) | (go_at_call 11; (first | (refine (hold_low _ _ _ _ ?hh).mono ?_; (case hh => omega)) | (refine (hold_mid _ _ _ _ ?hh ?hk).mono ?_; (case hh => omega); (case hk => omega)) | (refine (hold_high _ _ _ _ ?hh ?hk).mono ?_; (case hh => omega); (case hk => omega))); rintro e w' ⟨rfl, rfl⟩))
  go_ret
  exact ⟨rfl, by go_grown⟩

end Go.Proofs.Ytchomlcnfnphgaa
