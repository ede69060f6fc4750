/- The walk of the law RenormPlaces: it returns true. Conditions: the arguments are numbers that their kinds hold. -/
import Derived.Test.YtjokpdgcjhgeeaaAwake
namespace Go.Proofs.Ytjokpdgcjhgeeaa
open Go Go.RowKit Go.ChangeShapes Go.WideShapes
set_option linter.unusedVariables false

set_option maxHeartbeats 400000 in
theorem walk_RenormPlaces (a b c : Int) (w : World) (ha : -9223372036854775808 ≤ a ∧ a ≤ 9223372036854775807) (hb : -9223372036854775808 ≤ b ∧ b ≤ 9223372036854775807) (hc : -9223372036854775808 ≤ c ∧ c ≤ 9223372036854775807) :
    Calls Try.prog 3 #[.int .i64 a, .int .i64 b, .int .i64 c] w fun e w' => e = .returned (.bool true) ∧ Below w.heap.size w w' := by
  go_enter Try.func3, Try.ntmps3
  go_wp2_with fail
  refine (awake _).mono ?_
  rintro e w' ⟨rfl, b0⟩
  go_wp2_with fail
  refine (off_any _ _ _ ha hb).mono ?_
  rintro e w' ⟨rfl, b1⟩
  go_wp2_with fail
  refine (refoff_any _ _ _ ha hb).mono ?_
  rintro e w' ⟨rfl, b2⟩
  go_wp2_with fail
  refine (on_any _ _ _ ha hb).mono ?_
  rintro e w' ⟨rfl, b3⟩
  go_wp2_with fail
  refine (refon_any _ _ _ ha hb).mono ?_
  rintro e w' ⟨rfl, b4⟩
  go_wp2_with fail
  refine (move_any _ _ _ _ ha hb hc).mono ?_
  rintro e w' ⟨rfl, b5⟩
  go_wp2_with fail
  refine (refmove_any _ _ _ _ ha hb hc).mono ?_
  rintro e w' ⟨rfl, b6⟩
  go_wp2_with fail
  refine (wake_any _ _ _ _ hb hc).mono ?_
  rintro e w' ⟨rfl, b7⟩
  go_wp2_with fail
  refine (refwake_any _ _ _ _ hb hc).mono ?_
  rintro e w' ⟨rfl, b8⟩
  go_wp2
  go_ret
  exact ⟨rfl, (below_trans (below_trans (below_trans (below_trans (below_trans (below_trans (below_trans (below_trans b0 b1 b0.size) b2 (below_trans b0 b1 b0.size).size) b3 (below_trans (below_trans b0 b1 b0.size) b2 (below_trans b0 b1 b0.size).size).size) b4 (below_trans (below_trans (below_trans b0 b1 b0.size) b2 (below_trans b0 b1 b0.size).size) b3 (below_trans (below_trans b0 b1 b0.size) b2 (below_trans b0 b1 b0.size).size).size).size) b5 (below_trans (below_trans (below_trans (below_trans b0 b1 b0.size) b2 (below_trans b0 b1 b0.size).size) b3 (below_trans (below_trans b0 b1 b0.size) b2 (below_trans b0 b1 b0.size).size).size) b4 (below_trans (below_trans (below_trans b0 b1 b0.size) b2 (below_trans b0 b1 b0.size).size) b3 (below_trans (below_trans b0 b1 b0.size) b2 (below_trans b0 b1 b0.size).size).size).size).size) b6 (below_trans (below_trans (below_trans (below_trans (below_trans b0 b1 b0.size) b2 (below_trans b0 b1 b0.size).size) b3 (below_trans (below_trans b0 b1 b0.size) b2 (below_trans b0 b1 b0.size).size).size) b4 (below_trans (below_trans (below_trans b0 b1 b0.size) b2 (below_trans b0 b1 b0.size).size) b3 (below_trans (below_trans b0 b1 b0.size) b2 (below_trans b0 b1 b0.size).size).size).size) b5 (below_trans (below_trans (below_trans (below_trans b0 b1 b0.size) b2 (below_trans b0 b1 b0.size).size) b3 (below_trans (below_trans b0 b1 b0.size) b2 (below_trans b0 b1 b0.size).size).size) b4 (below_trans (below_trans (below_trans b0 b1 b0.size) b2 (below_trans b0 b1 b0.size).size) b3 (below_trans (below_trans b0 b1 b0.size) b2 (below_trans b0 b1 b0.size).size).size).size).size).size) b7 (below_trans (below_trans (below_trans (below_trans (below_trans (below_trans b0 b1 b0.size) b2 (below_trans b0 b1 b0.size).size) b3 (below_trans (below_trans b0 b1 b0.size) b2 (below_trans b0 b1 b0.size).size).size) b4 (below_trans (below_trans (below_trans b0 b1 b0.size) b2 (below_trans b0 b1 b0.size).size) b3 (below_trans (below_trans b0 b1 b0.size) b2 (below_trans b0 b1 b0.size).size).size).size) b5 (below_trans (below_trans (below_trans (below_trans b0 b1 b0.size) b2 (below_trans b0 b1 b0.size).size) b3 (below_trans (below_trans b0 b1 b0.size) b2 (below_trans b0 b1 b0.size).size).size) b4 (below_trans (below_trans (below_trans b0 b1 b0.size) b2 (below_trans b0 b1 b0.size).size) b3 (below_trans (below_trans b0 b1 b0.size) b2 (below_trans b0 b1 b0.size).size).size).size).size) b6 (below_trans (below_trans (below_trans (below_trans (below_trans b0 b1 b0.size) b2 (below_trans b0 b1 b0.size).size) b3 (below_trans (below_trans b0 b1 b0.size) b2 (below_trans b0 b1 b0.size).size).size) b4 (below_trans (below_trans (below_trans b0 b1 b0.size) b2 (below_trans b0 b1 b0.size).size) b3 (below_trans (below_trans b0 b1 b0.size) b2 (below_trans b0 b1 b0.size).size).size).size) b5 (below_trans (below_trans (below_trans (below_trans b0 b1 b0.size) b2 (below_trans b0 b1 b0.size).size) b3 (below_trans (below_trans b0 b1 b0.size) b2 (below_trans b0 b1 b0.size).size).size) b4 (below_trans (below_trans (below_trans b0 b1 b0.size) b2 (below_trans b0 b1 b0.size).size) b3 (below_trans (below_trans b0 b1 b0.size) b2 (below_trans b0 b1 b0.size).size).size).size).size).size).size) b8 (below_trans (below_trans (below_trans (below_trans (below_trans (below_trans (below_trans b0 b1 b0.size) b2 (below_trans b0 b1 b0.size).size) b3 (below_trans (below_trans b0 b1 b0.size) b2 (below_trans b0 b1 b0.size).size).size) b4 (below_trans (below_trans (below_trans b0 b1 b0.size) b2 (below_trans b0 b1 b0.size).size) b3 (below_trans (below_trans b0 b1 b0.size) b2 (below_trans b0 b1 b0.size).size).size).size) b5 (below_trans (below_trans (below_trans (below_trans b0 b1 b0.size) b2 (below_trans b0 b1 b0.size).size) b3 (below_trans (below_trans b0 b1 b0.size) b2 (below_trans b0 b1 b0.size).size).size) b4 (below_trans (below_trans (below_trans b0 b1 b0.size) b2 (below_trans b0 b1 b0.size).size) b3 (below_trans (below_trans b0 b1 b0.size) b2 (below_trans b0 b1 b0.size).size).size).size).size) b6 (below_trans (below_trans (below_trans (below_trans (below_trans b0 b1 b0.size) b2 (below_trans b0 b1 b0.size).size) b3 (below_trans (below_trans b0 b1 b0.size) b2 (below_trans b0 b1 b0.size).size).size) b4 (below_trans (below_trans (below_trans b0 b1 b0.size) b2 (below_trans b0 b1 b0.size).size) b3 (below_trans (below_trans b0 b1 b0.size) b2 (below_trans b0 b1 b0.size).size).size).size) b5 (below_trans (below_trans (below_trans (below_trans b0 b1 b0.size) b2 (below_trans b0 b1 b0.size).size) b3 (below_trans (below_trans b0 b1 b0.size) b2 (below_trans b0 b1 b0.size).size).size) b4 (below_trans (below_trans (below_trans b0 b1 b0.size) b2 (below_trans b0 b1 b0.size).size) b3 (below_trans (below_trans b0 b1 b0.size) b2 (below_trans b0 b1 b0.size).size).size).size).size).size) b7 (below_trans (below_trans (below_trans (below_trans (below_trans (below_trans b0 b1 b0.size) b2 (below_trans b0 b1 b0.size).size) b3 (below_trans (below_trans b0 b1 b0.size) b2 (below_trans b0 b1 b0.size).size).size) b4 (below_trans (below_trans (below_trans b0 b1 b0.size) b2 (below_trans b0 b1 b0.size).size) b3 (below_trans (below_trans b0 b1 b0.size) b2 (below_trans b0 b1 b0.size).size).size).size) b5 (below_trans (below_trans (below_trans (below_trans b0 b1 b0.size) b2 (below_trans b0 b1 b0.size).size) b3 (below_trans (below_trans b0 b1 b0.size) b2 (below_trans b0 b1 b0.size).size).size) b4 (below_trans (below_trans (below_trans b0 b1 b0.size) b2 (below_trans b0 b1 b0.size).size) b3 (below_trans (below_trans b0 b1 b0.size) b2 (below_trans b0 b1 b0.size).size).size).size).size) b6 (below_trans (below_trans (below_trans (below_trans (below_trans b0 b1 b0.size) b2 (below_trans b0 b1 b0.size).size) b3 (below_trans (below_trans b0 b1 b0.size) b2 (below_trans b0 b1 b0.size).size).size) b4 (below_trans (below_trans (below_trans b0 b1 b0.size) b2 (below_trans b0 b1 b0.size).size) b3 (below_trans (below_trans b0 b1 b0.size) b2 (below_trans b0 b1 b0.size).size).size).size) b5 (below_trans (below_trans (below_trans (below_trans b0 b1 b0.size) b2 (below_trans b0 b1 b0.size).size) b3 (below_trans (below_trans b0 b1 b0.size) b2 (below_trans b0 b1 b0.size).size).size) b4 (below_trans (below_trans (below_trans b0 b1 b0.size) b2 (below_trans b0 b1 b0.size).size) b3 (below_trans (below_trans b0 b1 b0.size) b2 (below_trans b0 b1 b0.size).size).size).size).size).size).size).size)⟩
end Go.Proofs.Ytjokpdgcjhgeeaa
