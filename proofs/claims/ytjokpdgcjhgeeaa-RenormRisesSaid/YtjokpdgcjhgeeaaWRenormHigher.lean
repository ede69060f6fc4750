/- The walk of the law RenormHigher: it returns true. Conditions: the arguments are numbers that their kinds hold. -/
import Derived.Test.YtjokpdgcjhgeeaaAwake
namespace Go.Proofs.Ytjokpdgcjhgeeaa
open Go Go.RowKit Go.ChangeShapes Go.WideShapes
set_option linter.unusedVariables false

theorem walk_RenormHigher (m : Int) (a : Option Addr) (len cap : Nat) (xs : List Int) (w : World) (hr : IntRow w a len xs) :
    Calls Try.prog 4 #[.int .i64 m, .slice a len cap] w fun e w' => e = .returned (.bool true) ∧ Below w.heap.size w w' := by
  have HR := Lib.hid hr; clear hr
  go_enter Try.func4, Try.ntmps4
  go_wp2_with fail
  refine (awake _).mono ?_
  rintro e w' ⟨rfl, b0⟩
  go_wp2_with fail
  refine (higher_any _ _ _ _ xs _ (HR.out.below b0)).mono ?_
  rintro e w' ⟨rfl, n1, rfl⟩
  go_wp2_with fail
  refine (refhigher_any _ _ _ _ xs _ ((HR.out.below b0).drewN _)).mono ?_
  rintro e w' ⟨rfl, n2, rfl⟩
  go_wp2
  go_ret
  exact ⟨rfl, by repeat (first | exact b0 | apply below_drewN)⟩
theorem intRow_of {w : World} {a : Option Addr} {len : Nat} (h : FlatSlice [some .i64] w a len) : ∃ xs, IntRow w a len xs ∧ ∀ j, -9223372036854775808 ≤ xs.getD j 0 ∧ xs.getD j 0 ≤ 9223372036854775807 := by
  have g : ∀ j, ∃ x : Int, (j < len → (∃ b off, a = some ⟨b, off, none⟩ ∧ b < w.heap.size ∧ w.cell? ⟨b, off + j, none⟩ = some (.int .i64 x))) ∧ (-9223372036854775808 ≤ x ∧ x ≤ 9223372036854775807) := by
    intro j
    by_cases hj : j < len
    · obtain ⟨b, off, v, ha, hb, hv, hc⟩ := flatSlice_int h j hj
      exact ⟨v, fun _ => ⟨b, off, ha, hb, hc⟩, i64_of_wf hv⟩
    · exact ⟨0, fun h => absurd h hj, by omega⟩
  refine ⟨(List.range len).map fun j => (g j).choose, ⟨by simp, h.1, fun j hj => ?_⟩, fun j => ?_⟩
  · obtain ⟨b, off, h1, h2, h3⟩ := (g j).choose_spec.1 hj
    exact ⟨b, off, h1, h2, by rw [h3]; simp [List.getD, hj]⟩
  · by_cases hj : j < len
    · have := (g j).choose_spec.2
      simpa [List.getD, hj] using this
    · simp [List.getD, hj]
end Go.Proofs.Ytjokpdgcjhgeeaa
