/- The package's own small test, awake: it returns true. No conditions. -/
import Derived.Test.YtjokpdgcjhgeeaaHigher
namespace Go.Proofs.Ytjokpdgcjhgeeaa
open Go Go.RowKit Go.ChangeShapes Go.WideShapes
set_option linter.unusedVariables false

theorem move_12 (w : World) : Calls Try.prog 14 #[.int .i64 12, .int .i64 10, .int .i64 100] w fun e w' => e = .returned (.tuple #[.int .i64 102, .bool false]) ∧ Below w.heap.size w w' := by
  have h := move_any 12 10 100 w (by omega) (by omega) (by omega)
  rwa [show moveV 12 10 100 = 102 from by decide, show moveB 12 10 100 = false from by decide] at h
theorem wake_3 (w : World) : Calls Try.prog 16 #[.int .i64 3, .int .i64 10, .int .i64 4] w fun e w' => e = .returned (.int .i64 6) ∧ Below w.heap.size w w' := by
  have h := wake_any 3 10 4 w (by omega) (by omega)
  rwa [show wakeV 3 10 4 = 6 from by decide] at h
theorem awake (w : World) : Calls Try.prog 9 #[] w fun e w' => e = .returned (.bool true) ∧ Below w.heap.size w w' := by
  go_enter Try.func9, Try.ntmps9
  go_wp2_with fail
  refine (move_12 _).mono ?_
  rintro e w1 ⟨rfl, h1⟩
  go_wp2_with fail
  refine (wake_3 _).mono ?_
  rintro e w2 ⟨rfl, h2⟩
  go_wp2_with fail
  refine (higher_any 5 _ 2 2 [7, 9] _ ⟨rfl, by omega, fun j hj => ⟨w2.heap.size, 0, rfl, by simp, ?_⟩⟩).mono ?_
  · rcases Nat.lt_or_ge j 1 with h | h
    · obtain rfl : j = 0 := by omega
      simp [go_sem]
    · obtain rfl : j = 1 := by omega
      simp [go_sem]
  rw [show highV 5 [7, 9] = 7 from by decide]
  rintro e w3 ⟨rfl, n, rfl⟩
  go_wp2
  go_ret
  exact ⟨rfl, below_drewN ((below_trans h1 h2 h1.size).alloc (Nat.le_trans h1.size h2.size) _) _⟩
end Go.Proofs.Ytjokpdgcjhgeeaa
