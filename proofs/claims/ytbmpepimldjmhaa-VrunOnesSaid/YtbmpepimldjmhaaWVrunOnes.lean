/- The walk of the law VrunOnes: it returns true. Conditions: the arguments are numbers that their kinds hold. -/
import Derived.Test.YtbmpepimldjmhaaVrun
import Derived.Test.YtbmpepimldjmhaaVrunPlain
namespace Go.Proofs.Ytbmpepimldjmhaa
open Go Go.RowKit Go.ChangeShapes Go.WideShapes
set_option linter.unusedVariables false

/-- the last nanosecond: no further ahead than 1024 by the weight -/
theorem ones_last {x want n d r : Int} (hx : 2 ≤ x) (h0 : 0 ≤ want) (hN : NeedIs x 0 want n) (hC : ChargeIs x 0 n d r) : want ≤ d ∧ d - want ≤ 1024 / x := by
  have h1 := hC.sum; have h2 := hC.less; have h3 := hN.enough; have h4 := hC.rest
  have k : want < d + 1 := lt_of_times (x := x) (by omega) (by rw [Int.add_mul, Int.one_mul]; omega)
  refine ⟨by omega, ?_⟩
  rw [Int.le_ediv_iff_mul_le (by omega), Int.sub_mul]
  have h5 := hN.pos
  by_cases h6 : 1 ≤ n
  · have := hN.less h6; omega
  · have h7 : n = 0 := by omega
    subst h7
    have : 0 ≤ want * x := Int.mul_nonneg h0 (by omega)
    omega
theorem need_near {x want n : Int} (hN : NeedIs x 0 want n) (h : want * x ≤ 262143737856) : n ≤ 1000000000 := by have := hN.less; omega
set_option maxHeartbeats 400000 in
theorem walk_VrunOnes (a b c : Int) (w : World) (ha : 0 ≤ a ∧ a ≤ 4294967295) (hb : 0 ≤ b ∧ b ≤ 4294967295) (hc : 0 ≤ c ∧ c ≤ 4294967295) :
    Calls Try.prog 9 #[.int .u32 a, .int .u32 b, .int .u32 c] w fun e w' => e = .returned (.bool true) ∧ Grown w w' := by
  go_enter Try.func9, Try.ntmps9
  go_wp2_with fail
  refine (awake _).mono ?_
  rintro e w' ⟨rfl, n1, rfl⟩
  go_wp2_with fail
  refine (weight_ex _ _ _ ha.1 (Int.le_refl 0) ha.2 (by decide)).mono ?_
  rintro e w' ⟨x, l, rfl, hx1, hx2, hl1, hl2, n2, rfl⟩
  go_wp2_with fail
  refine (weight_ex _ _ _ hb.1 (Int.le_refl 0) hb.2 (by decide)).mono ?_
  rintro e w' ⟨y, m, rfl, hy1, hy2, hm1, hm2, n3, rfl⟩
  obtain ⟨t0, t1⟩ := times_le (w := c % 1000000) (x := x) (by omega) (by omega) (by omega) hx2
  obtain ⟨s0, s1⟩ := times_le (w := c % 1000000) (x := y) (by omega) (by omega) (by omega) hy2
  go_wp2_with fail
  refine (need_is x 0 (c % 1000000) _ hx1 hx2 (by omega) (by omega) (by omega) (by omega)).mono ?_
  rintro e w' ⟨p, rfl, hP, n4, rfl⟩
  go_wp2_with fail
  refine (need_is y 0 (c % 1000000) _ hy1 hy2 (by omega) (by omega) (by omega) (by omega)).mono ?_
  rintro e w' ⟨q, rfl, hQ, n5, rfl⟩
  have p0 := hP.pos
  have q0 := hQ.pos
  have p1 := need_near hP t1
  have q1 := need_near hQ s1
  go_wp2_with fail
  refine (charge_is x 0 p _ hx1 hx2 (by omega) (by omega) p0 p1).mono ?_
  rintro e w' ⟨d, r, rfl, hC, n6, rfl⟩
  go_wp2_with fail
  refine (charge_is y 0 q _ hy1 hy2 (by omega) (by omega) q0 q1).mono ?_
  rintro e w' ⟨f, s, rfl, hF, n7, rfl⟩
  obtain ⟨u1, u2⟩ := ones_last hx1 (by omega) hP hC
  obtain ⟨v1, v2⟩ := ones_last hy1 (by omega) hQ hF
  have x0 : 0 ≤ 1024 / x := Int.ediv_nonneg (by omega) (by omega)
  have x1 : 1024 / x ≤ 1024 := Int.ediv_le_self _ (by omega)
  have y0 : 0 ≤ 1024 / y := Int.ediv_nonneg (by omega) (by omega)
  have y1 : 1024 / y ≤ 1024 := Int.ediv_le_self _ (by omega)
  clear hP hQ hC hF
  go_wp2
  go_ret
  exact ⟨rfl, by repeat (first | exact Grown.refl _ | apply grown_drewN)⟩
end Go.Proofs.Ytbmpepimldjmhaa
