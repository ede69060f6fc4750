/- The walk of the law VrunWeighs: it returns true. Conditions: the arguments are numbers that their kinds hold. -/
import Derived.Test.YtbmpepimldjmhaaVrun
import Derived.Test.YtbmpepimldjmhaaVrunPlain
namespace Go.Proofs.Ytbmpepimldjmhaa
open Go Go.RowKit Go.ChangeShapes Go.WideShapes
set_option linter.unusedVariables false

set_option maxHeartbeats 400000 in
theorem walk_VrunWeighs (a b c : Int) (w : World) (ha : 0 ≤ a ∧ a ≤ 4294967295) (hb : 0 ≤ b ∧ b ≤ 4294967295) (hc : 0 ≤ c ∧ c ≤ 4294967295) :
    Calls Try.prog 7 #[.int .u32 a, .int .u32 b, .int .u32 c] w fun e w' => e = .returned (.bool true) ∧ Grown w w' := by
  go_enter Try.func7, Try.ntmps7
  go_wp2_with fail
  refine (awake _).mono ?_
  rintro e w' ⟨rfl, n1, rfl⟩
  go_wp2_with fail
  refine (weight_ex _ _ _ ha.1 (Int.le_refl 0) ha.2 (by decide)).mono ?_
  rintro e w' ⟨x, l, rfl, hx1, hx2, hl1, hl2, n2, rfl⟩
  go_wp2_with fail
  refine (weight_ex _ _ _ hb.1 (Int.le_refl 0) hb.2 (by decide)).mono ?_
  rintro e w' ⟨y, m, rfl, hy1, hy2, hm1, hm2, n3, rfl⟩
  rcases Int.lt_trichotomy x y with g | rfl | g
  · go_wp2_with fail
    refine (charge_is x 0 (c % 500000001) _ (by omega) (by omega) (by omega) (by omega) (by omega) (by omega)).mono ?_
    rintro e w' ⟨p, r, rfl, hP, n4, rfl⟩
    go_wp2_with fail
    refine (charge_is y 0 (c % 500000001) _ (by omega) (by omega) (by omega) (by omega) (by omega) (by omega)).mono ?_
    rintro e w' ⟨q, s, rfl, hQ, n5, rfl⟩
    have k0 : q ≤ p := by
      have h1 := hP.sum; have h2 := hQ.sum; have h3 := hP.less; have h4 := hQ.rest
      have h5 : q * x ≤ q * y := Int.mul_le_mul_of_nonneg_left (by omega) hQ.pos
      have := lt_of_times (a := q) (b := p + 1) (x := x) (by omega) (by rw [Int.add_mul, Int.one_mul]; omega)
      omega
    clear hP hQ
    go_wp2_with fail
    refine (charge_is (2 + x % 131071) 0 (c % 500000001) _ (by omega) (by omega) (by omega) (by omega) (by omega) (by omega)).mono ?_
    rintro e w' ⟨t, u, rfl, hT, n6, rfl⟩
    go_wp2_with fail
    refine (charge_is (2 * (2 + x % 131071)) 0 (2 * (c % 500000001)) _ (by omega) (by omega) (by omega) (by omega) (by omega) (by omega)).mono ?_
    rintro e w' ⟨d, o, rfl, hD, n7, rfl⟩
    obtain ⟨rfl, rfl⟩ : d = t ∧ o = 2 * u := by
      have h1 := hT.sum; have h2 := hD.sum; have h3 := hT.rest; have h4 := hT.less
      refine quo_one hD.rest hD.less (by omega) (by omega) ?_
      rw [h2, Int.mul_left_comm]; omega
    have k1 := hT.rest
    have k2 := hT.less
    clear hT hD
    go_wp2
    go_ret
    exact ⟨rfl, by repeat (first | exact Grown.refl _ | apply grown_drewN)⟩
  · go_wp2_with fail
    refine (charge_is x 0 (c % 500000001) _ (by omega) (by omega) (by omega) (by omega) (by omega) (by omega)).mono ?_
    rintro e w' ⟨p, r, rfl, hP, n4, rfl⟩
    go_wp2_with fail
    refine (charge_is x 0 (c % 500000001) _ (by omega) (by omega) (by omega) (by omega) (by omega) (by omega)).mono ?_
    rintro e w' ⟨q, s, rfl, hQ, n5, rfl⟩
    have k0 : q ≤ p := by
      have h1 := hP.sum; have h2 := hQ.sum; have h3 := hP.less; have h4 := hQ.rest
      have h5 : q * x ≤ q * x := Int.mul_le_mul_of_nonneg_left (by omega) hQ.pos
      have := lt_of_times (a := q) (b := p + 1) (x := x) (by omega) (by rw [Int.add_mul, Int.one_mul]; omega)
      omega
    clear hP hQ
    go_wp2_with fail
    refine (charge_is (2 + x % 131071) 0 (c % 500000001) _ (by omega) (by omega) (by omega) (by omega) (by omega) (by omega)).mono ?_
    rintro e w' ⟨t, u, rfl, hT, n6, rfl⟩
    go_wp2_with fail
    refine (charge_is (2 * (2 + x % 131071)) 0 (2 * (c % 500000001)) _ (by omega) (by omega) (by omega) (by omega) (by omega) (by omega)).mono ?_
    rintro e w' ⟨d, o, rfl, hD, n7, rfl⟩
    obtain ⟨rfl, rfl⟩ : d = t ∧ o = 2 * u := by
      have h1 := hT.sum; have h2 := hD.sum; have h3 := hT.rest; have h4 := hT.less
      refine quo_one hD.rest hD.less (by omega) (by omega) ?_
      rw [h2, Int.mul_left_comm]; omega
    have k1 := hT.rest
    have k2 := hT.less
    clear hT hD
    go_wp2
    go_ret
    exact ⟨rfl, by repeat (first | exact Grown.refl _ | apply grown_drewN)⟩
  · go_wp2_with fail
    refine (charge_is y 0 (c % 500000001) _ (by omega) (by omega) (by omega) (by omega) (by omega) (by omega)).mono ?_
    rintro e w' ⟨p, r, rfl, hP, n4, rfl⟩
    go_wp2_with fail
    refine (charge_is x 0 (c % 500000001) _ (by omega) (by omega) (by omega) (by omega) (by omega) (by omega)).mono ?_
    rintro e w' ⟨q, s, rfl, hQ, n5, rfl⟩
    have k0 : q ≤ p := by
      have h1 := hP.sum; have h2 := hQ.sum; have h3 := hP.less; have h4 := hQ.rest
      have h5 : q * y ≤ q * x := Int.mul_le_mul_of_nonneg_left (by omega) hQ.pos
      have := lt_of_times (a := q) (b := p + 1) (x := y) (by omega) (by rw [Int.add_mul, Int.one_mul]; omega)
      omega
    clear hP hQ
    go_wp2_with fail
    refine (charge_is (2 + x % 131071) 0 (c % 500000001) _ (by omega) (by omega) (by omega) (by omega) (by omega) (by omega)).mono ?_
    rintro e w' ⟨t, u, rfl, hT, n6, rfl⟩
    go_wp2_with fail
    refine (charge_is (2 * (2 + x % 131071)) 0 (2 * (c % 500000001)) _ (by omega) (by omega) (by omega) (by omega) (by omega) (by omega)).mono ?_
    rintro e w' ⟨d, o, rfl, hD, n7, rfl⟩
    obtain ⟨rfl, rfl⟩ : d = t ∧ o = 2 * u := by
      have h1 := hT.sum; have h2 := hD.sum; have h3 := hT.rest; have h4 := hT.less
      refine quo_one hD.rest hD.less (by omega) (by omega) ?_
      rw [h2, Int.mul_left_comm]; omega
    have k1 := hT.rest
    have k2 := hT.less
    clear hT hD
    go_wp2
    go_ret
    exact ⟨rfl, by repeat (first | exact Grown.refl _ | apply grown_drewN)⟩
end Go.Proofs.Ytbmpepimldjmhaa
