/- The walk of the law RenormNear: it returns true. Conditions: the arguments are numbers that their kinds hold. -/
import Derived.Test.YtjokpdgcjhgeeaaAwake
namespace Go.Proofs.Ytjokpdgcjhgeeaa
open Go Go.RowKit Go.ChangeShapes Go.WideShapes
set_option linter.unusedVariables false

theorem move_yes (v f t : Int) (w : World) (hv : -9223372036854775808 ≤ v ∧ v ≤ 9223372036854775807) (hf : -9223372036854775808 ≤ f ∧ f ≤ 9223372036854775807) (ht : -9223372036854775808 ≤ t ∧ t ≤ 9223372036854775807) (hA : -9223372036854775808 ≤ v - f ∧ v - f ≤ 9223372036854775807) (hB : -9223372036854775808 ≤ v - f + t ∧ v - f + t ≤ 9223372036854775807) :
    Calls Try.prog 14 #[.int .i64 v, .int .i64 f, .int .i64 t] w fun e w' => e = .returned (.tuple #[.int .i64 (v - f + t), .bool false]) ∧ Below w.heap.size w w' := by
  have h := move_any v f t w hv hf ht
  have hm : moveB v f t = false ∧ moveV v f t = v - f + t := by
    unfold moveB moveV
    rw [lessV_yes hA, fitB_yes hA, fitB_yes hB, satV_yes hB]; exact ⟨rfl, rfl⟩
  rwa [hm.1, hm.2] at h
set_option maxHeartbeats 400000 in
theorem walk_RenormNear (v x f t : Int) (w : World) (hv : -2147483648 ≤ v ∧ v ≤ 2147483647) (hx : -2147483648 ≤ x ∧ x ≤ 2147483647) (hf : -2147483648 ≤ f ∧ f ≤ 2147483647) (ht : -2147483648 ≤ t ∧ t ≤ 2147483647) :
    Calls Try.prog 6 #[.agg #[.int .i32 v, .int .i32 x, .int .i32 f, .int .i32 t]] w fun e w' => e = .returned (.bool true) ∧ Below w.heap.size w w' := by
  have e1 : (v - f + t - (x - f + t) == v - x) = true := by rw [beq_iff_eq]; omega
  by_cases hl : v < x
  · have hl2 : v - f + t < x - f + t := by omega
    go_enter Try.func6, Try.ntmps6
    go_wp2_with fail
    refine (awake _).mono ?_
    rintro e w' ⟨rfl, b0⟩
    have hcs : ∀ o, w'.cell? ⟨w.heap.size, o, none⟩ = (w.alloc (.cells #[.int .i32 v, .int .i32 x, .int .i32 f, .int .i32 t] 31)).cell? ⟨w.heap.size, o, none⟩ := fun o => (bcell b0).1 _ _ (by simp)
    go_wp2_with fail
    refine (move_yes v f t _ (by omega) (by omega) (by omega) (by omega) (by omega)).mono ?_
    rintro e w' ⟨rfl, b1⟩
    go_wp2_with fail
    refine (move_yes x f t _ (by omega) (by omega) (by omega) (by omega) (by omega)).mono ?_
    rintro e w' ⟨rfl, b2⟩
    go_wp2
    go_ret
    exact ⟨rfl, below_trans (below_trans ((Below.refl w.heap.size w).alloc (Nat.le_refl _) _ |> fun x => below_trans x b0 (by simp)) b1 (by have := b0.size; simp at this; omega)) b2 (by have := b0.size; have := b1.size; simp at *; omega)⟩
  · have hl2 : ¬ v - f + t < x - f + t := by omega
    go_enter Try.func6, Try.ntmps6
    go_wp2_with fail
    refine (awake _).mono ?_
    rintro e w' ⟨rfl, b0⟩
    have hcs : ∀ o, w'.cell? ⟨w.heap.size, o, none⟩ = (w.alloc (.cells #[.int .i32 v, .int .i32 x, .int .i32 f, .int .i32 t] 31)).cell? ⟨w.heap.size, o, none⟩ := fun o => (bcell b0).1 _ _ (by simp)
    go_wp2_with fail
    refine (move_yes v f t _ (by omega) (by omega) (by omega) (by omega) (by omega)).mono ?_
    rintro e w' ⟨rfl, b1⟩
    go_wp2_with fail
    refine (move_yes x f t _ (by omega) (by omega) (by omega) (by omega) (by omega)).mono ?_
    rintro e w' ⟨rfl, b2⟩
    go_wp2
    go_ret
    exact ⟨rfl, below_trans (below_trans ((Below.refl w.heap.size w).alloc (Nat.le_refl _) _ |> fun x => below_trans x b0 (by simp)) b1 (by have := b0.size; simp at this; omega)) b2 (by have := b0.size; have := b1.size; simp at *; omega)⟩
theorem walk_RenormNear' (cs : List Value) (w : World) (h : Flat [some .i32, some .i32, some .i32, some .i32] cs) :
    Calls Try.prog 6 #[.agg ⟨cs⟩] w fun e w' => e = .returned (.bool true) ∧ Below w.heap.size w w' := by
  obtain ⟨a, b, c, d, rfl, ha, hb, hc, hd⟩ := flat_int4 h
  exact walk_RenormNear a b c d w (i32_of_wf ha) (i32_of_wf hb) (i32_of_wf hc) (i32_of_wf hd)
end Go.Proofs.Ytjokpdgcjhgeeaa
