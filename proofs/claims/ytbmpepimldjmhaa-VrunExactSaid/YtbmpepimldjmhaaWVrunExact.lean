/- The walk of the law VrunExact: it returns true. Conditions: the arguments are numbers that their kinds hold. -/
import Derived.Test.YtbmpepimldjmhaaVrun
import Derived.Test.YtbmpepimldjmhaaVrunPlain
namespace Go.Proofs.Ytbmpepimldjmhaa
open Go Go.RowKit Go.ChangeShapes Go.WideShapes
set_option linter.unusedVariables false

set_option maxHeartbeats 400000 in
theorem walk_VrunExact (a b c : Int) (w : World) (ha : 0 ≤ a ∧ a ≤ 4294967295) (hb : 0 ≤ b ∧ b ≤ 4294967295) (hc : 0 ≤ c ∧ c ≤ 4294967295) :
    Calls Try.prog 5 #[.int .u32 a, .int .u32 b, .int .u32 c] w fun e w' => e = .returned (.bool true) ∧ Grown w w' := by
  go_enter Try.func5, Try.ntmps5
  go_wp2_with fail
  refine (awake _).mono ?_
  rintro e w' ⟨rfl, n1, rfl⟩
  go_wp2_with fail
  refine (weight_ex _ _ _ ha.1 hb.1 ha.2 hb.2).mono ?_
  rintro e w' ⟨x, l, rfl, hx1, hx2, hl1, hl2, n2, rfl⟩
  go_wp2_with fail
  refine (charge_is _ _ _ _ hx1 hx2 hl2 hl1 (by omega) (by omega)).mono ?_
  rintro e w' ⟨d, r, rfl, hC, n3, rfl⟩
  have h0 : 0 ≤ d * x := Int.mul_nonneg hC.pos (by omega)
  have h1 : d * x ≤ l + c % 1000000001 * 1024 := by have := hC.sum; have := hC.rest; omega
  have h2 := hC.pos
  have h3 := hC.rest
  have h4 := hC.less
  have h5 : d ≤ d * x := le_times h2 (by omega)
  have h6 : (d * x + r == l + 1024 * (c % 1000000001)) = true := by rw [beq_iff_eq]; have := hC.sum; omega
  clear hC
  go_wp2
  go_ret
  exact ⟨rfl, by repeat (first | exact Grown.refl _ | apply grown_drewN)⟩
end Go.Proofs.Ytbmpepimldjmhaa
