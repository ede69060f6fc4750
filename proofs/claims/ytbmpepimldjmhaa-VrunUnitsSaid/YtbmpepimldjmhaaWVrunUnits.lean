/- The walk of the law VrunUnits: it returns true. Conditions: the arguments are numbers that their kinds hold. -/
import Derived.Test.YtbmpepimldjmhaaVrun
import Derived.Test.YtbmpepimldjmhaaVrunPlain
namespace Go.Proofs.Ytbmpepimldjmhaa
open Go Go.RowKit Go.ChangeShapes Go.WideShapes
set_option linter.unusedVariables false

set_option maxHeartbeats 400000 in
theorem walk_VrunUnits (a b c : Int) (w : World) (ha : 0 ≤ a ∧ a ≤ 4294967295) (hb : 0 ≤ b ∧ b ≤ 4294967295) (hc : 0 ≤ c ∧ c ≤ 4294967295) :
    Calls Try.prog 8 #[.int .u32 a, .int .u32 b, .int .u32 c] w fun e w' => e = .returned (.bool true) ∧ Grown w w' := by
  go_enter Try.func8, Try.ntmps8
  go_wp2_with fail
  refine (awake _).mono ?_
  rintro e w' ⟨rfl, n1, rfl⟩
  go_wp2_with fail
  refine (charge_is 1024 (b % 1024) (c % 1000000001) _ (by omega) (by omega) (by omega) (by omega) (by omega) (by omega)).mono ?_
  rintro e w' ⟨d, r, rfl, hC, n3, rfl⟩
  have hd : d = c % 1000000001 := by have := hC.sum; have := hC.rest; have := hC.less; omega
  have hr : r = b % 1024 := by have := hC.sum; have := hC.rest; have := hC.less; omega
  subst hd hr
  clear hC
  go_wp2_with fail
  refine (weight_ex _ _ _ ha.1 hb.1 ha.2 hb.2).mono ?_
  rintro e w' ⟨x, l, rfl, hx1, hx2, hl1, hl2, n2, rfl⟩
  go_wp2_with fail
  refine (charge_is x l 0 _ hx1 hx2 hl2 hl1 (by omega) (by omega)).mono ?_
  rintro e w' ⟨d, r, rfl, hC, n4, rfl⟩
  obtain ⟨rfl, rfl⟩ : d = 0 ∧ r = l := quo_one hC.rest hC.less hl1 hl2 (by have := hC.sum; omega)
  clear hC
  go_wp2_with fail
  refine (need_is x r 0 _ hx1 hx2 hl2 hl1 (by omega) (by omega)).mono ?_
  rintro e w' ⟨n, rfl, hN, n5, rfl⟩
  obtain rfl : n = 0 := by have := hN.pos; have := hN.less; have := hN.enough; omega
  clear hN
  go_wp2
  go_ret
  exact ⟨rfl, by repeat (first | exact Grown.refl _ | apply grown_drewN)⟩
end Go.Proofs.Ytbmpepimldjmhaa
