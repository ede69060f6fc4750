/- The walk of the law RenormKeeps: it returns true. Conditions: the arguments are numbers that their kinds hold. -/
import Derived.Test.YtjokpdgcjhgeeaaAwake
namespace Go.Proofs.Ytjokpdgcjhgeeaa
open Go Go.RowKit Go.ChangeShapes Go.WideShapes
set_option linter.unusedVariables false

theorem moveB_yes (v f t : Int) (hA : -9223372036854775808 ≤ v - f ∧ v - f ≤ 9223372036854775807) (hB : -9223372036854775808 ≤ v - f + t ∧ v - f + t ≤ 9223372036854775807) : moveB v f t = false ∧ moveV v f t = v - f + t := by
  unfold moveB moveV
  rw [lessV_yes hA, fitB_yes hA, fitB_yes hB, satV_yes hB]; exact ⟨rfl, rfl⟩
theorem moveB_no1 (v f t : Int) (hA : ¬ (-9223372036854775808 ≤ v - f ∧ v - f ≤ 9223372036854775807)) : moveB v f t = true := by unfold moveB; rw [fitB_no hA]; rfl
theorem moveB_no2 (v f t : Int) (hA : -9223372036854775808 ≤ v - f ∧ v - f ≤ 9223372036854775807) (hB : ¬ (-9223372036854775808 ≤ v - f + t ∧ v - f + t ≤ 9223372036854775807)) : moveB v f t = true := by unfold moveB; rw [lessV_yes hA, fitB_yes hA, fitB_no hB]; rfl
theorem moveV_in (v f t : Int) : -9223372036854775808 ≤ moveV v f t ∧ moveV v f t ≤ 9223372036854775807 := satV_in _ _
set_option maxHeartbeats 400000 in
theorem keeps_no (v f t : Int) (w : World) (hv : -9223372036854775808 ≤ v ∧ v ≤ 9223372036854775807) (hf : -9223372036854775808 ≤ f ∧ f ≤ 9223372036854775807) (ht : -9223372036854775808 ≤ t ∧ t ≤ 9223372036854775807) (hm : moveB v f t = true) :
    Calls Try.prog 5 #[.int .i64 v, .int .i64 f, .int .i64 t] w fun e w' => e = .returned (.bool true) ∧ Below w.heap.size w w' := by
  have hi := moveV_in v f t
  have hii := moveV_in (moveV v f t) t f
  have HM := Lib.hid hm; clear hm
  go_enter Try.func5, Try.ntmps5
  go_wp2_with fail
  refine (awake _).mono ?_
  rintro e w' ⟨rfl, b0⟩
  go_wp2_with fail
  refine (off_any _ _ _ hv hf).mono ?_
  rintro e w' ⟨rfl, b1⟩
  go_wp2_with fail
  refine (move_any _ _ _ _ hv hf ht).mono ?_
  rintro e w' ⟨rfl, b2⟩
  rw [HM.out]
  go_wp2_with fail
  refine (off_any _ _ _ hi ht).mono ?_
  rintro e w' ⟨rfl, b3⟩
  go_wp2_with fail
  refine (move_any _ _ _ _ hi ht hf).mono ?_
  rintro e w' ⟨rfl, b4⟩
  cases hb : fitB (v - f)
  · have HB := Lib.hid hb; clear hb
    go_wp2
    go_ret
    exact ⟨rfl, (below_trans (below_trans (below_trans (below_trans b0 b1 b0.size) b2 (below_trans b0 b1 b0.size).size) b3 (below_trans (below_trans b0 b1 b0.size) b2 (below_trans b0 b1 b0.size).size).size) b4 (below_trans (below_trans (below_trans b0 b1 b0.size) b2 (below_trans b0 b1 b0.size).size) b3 (below_trans (below_trans b0 b1 b0.size) b2 (below_trans b0 b1 b0.size).size).size).size)⟩
  · have HB := Lib.hid hb; clear hb
    go_wp2
    go_ret
    exact ⟨rfl, (below_trans (below_trans (below_trans (below_trans b0 b1 b0.size) b2 (below_trans b0 b1 b0.size).size) b3 (below_trans (below_trans b0 b1 b0.size) b2 (below_trans b0 b1 b0.size).size).size) b4 (below_trans (below_trans (below_trans b0 b1 b0.size) b2 (below_trans b0 b1 b0.size).size) b3 (below_trans (below_trans b0 b1 b0.size) b2 (below_trans b0 b1 b0.size).size).size).size)⟩
set_option maxHeartbeats 400000 in
theorem keeps_yes (v f t : Int) (w : World) (hv : -9223372036854775808 ≤ v ∧ v ≤ 9223372036854775807) (hf : -9223372036854775808 ≤ f ∧ f ≤ 9223372036854775807) (ht : -9223372036854775808 ≤ t ∧ t ≤ 9223372036854775807) (hA : -9223372036854775808 ≤ v - f ∧ v - f ≤ 9223372036854775807) (hB : -9223372036854775808 ≤ v - f + t ∧ v - f + t ≤ 9223372036854775807) :
    Calls Try.prog 5 #[.int .i64 v, .int .i64 f, .int .i64 t] w fun e w' => e = .returned (.bool true) ∧ Below w.heap.size w w' := by
  have HM := Lib.hid (moveB_yes v f t hA hB)
  have HN := Lib.hid (moveB_yes (v - f + t) t f (by omega) (by omega))
  have e1 : v - f + t - t = v - f := by omega
  have e2 : v - f + t - t + f = v := by omega
  have HE := Lib.hid e1; have HF := Lib.hid e2; clear e1 e2
  go_enter Try.func5, Try.ntmps5
  go_wp2_with fail
  refine (awake _).mono ?_
  rintro e w' ⟨rfl, b0⟩
  go_wp2_with fail
  refine (off_yes _ _ _ hv hf hA).mono ?_
  rintro e w' ⟨rfl, b1⟩
  go_wp2_with fail
  refine (move_any _ _ _ _ hv hf ht).mono ?_
  rintro e w' ⟨rfl, b2⟩
  rw [HM.out.1, HM.out.2]
  go_wp2_with fail
  refine (off_yes _ _ _ hB ht (by omega)).mono ?_
  rintro e w' ⟨rfl, b3⟩
  try rw [HE.out]
  go_wp2_with fail
  refine (move_any _ _ _ _ hB ht hf).mono ?_
  rintro e w' ⟨rfl, b4⟩
  rw [HN.out.1, HN.out.2]
  try rw [HF.out]
  go_wp2
  go_ret
  exact ⟨rfl, (below_trans (below_trans (below_trans (below_trans b0 b1 b0.size) b2 (below_trans b0 b1 b0.size).size) b3 (below_trans (below_trans b0 b1 b0.size) b2 (below_trans b0 b1 b0.size).size).size) b4 (below_trans (below_trans (below_trans b0 b1 b0.size) b2 (below_trans b0 b1 b0.size).size) b3 (below_trans (below_trans b0 b1 b0.size) b2 (below_trans b0 b1 b0.size).size).size).size)⟩
theorem walk_RenormKeeps (v f t : Int) (w : World) (hv : -9223372036854775808 ≤ v ∧ v ≤ 9223372036854775807) (hf : -9223372036854775808 ≤ f ∧ f ≤ 9223372036854775807) (ht : -9223372036854775808 ≤ t ∧ t ≤ 9223372036854775807) :
    Calls Try.prog 5 #[.int .i64 v, .int .i64 f, .int .i64 t] w fun e w' => e = .returned (.bool true) ∧ Below w.heap.size w w' := by
  by_cases hA : -9223372036854775808 ≤ v - f ∧ v - f ≤ 9223372036854775807
  · by_cases hB : -9223372036854775808 ≤ v - f + t ∧ v - f + t ≤ 9223372036854775807
    · exact keeps_yes v f t w hv hf ht hA hB
    · exact keeps_no v f t w hv hf ht (moveB_no2 v f t hA hB)
  · exact keeps_no v f t w hv hf ht (moveB_no1 v f t hA)
end Go.Proofs.Ytjokpdgcjhgeeaa
