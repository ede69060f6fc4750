/- The walk of the law VrunNeeds: it returns true. Conditions: the arguments are numbers that their kinds hold. -/
import Derived.Test.YtbmpepimldjmhaaVrun
import Derived.Test.YtbmpepimldjmhaaVrunPlain
namespace Go.Proofs.Ytbmpepimldjmhaa
open Go Go.RowKit Go.ChangeShapes Go.WideShapes
set_option linter.unusedVariables false

set_option maxHeartbeats 400000 in
theorem walk_VrunNeeds (a b c : Int) (w : World) (ha : 0 ≤ a ∧ a ≤ 4294967295) (hb : 0 ≤ b ∧ b ≤ 4294967295) (hc : 0 ≤ c ∧ c ≤ 4294967295) :
    Calls Try.prog 6 #[.int .u32 a, .int .u32 b, .int .u32 c] w fun e w' => e = .returned (.bool true) ∧ Grown w w' := by
  go_enter Try.func6, Try.ntmps6
  go_wp2_with fail
  refine (awake _).mono ?_
  rintro e w' ⟨rfl, n1, rfl⟩
  go_wp2_with fail
  refine (weight_ex _ _ _ ha.1 hb.1 ha.2 hb.2).mono ?_
  rintro e w' ⟨x, l, rfl, hx1, hx2, hl1, hl2, n2, rfl⟩
  obtain ⟨t0, t1⟩ := times_le (w := c % 1000000) (x := x) (by omega) (by omega) (by omega) hx2
  go_wp2_with fail
  refine (need_is _ _ _ _ hx1 hx2 hl2 hl1 (by omega) (by omega)).mono ?_
  rintro e w' ⟨n, rfl, hN, n3, rfl⟩
  have k0 := hN.pos
  have k1 : n ≤ 1000000000 := by have := hN.less; omega
  go_wp2_with fail
  refine (charge_is _ _ _ _ hx1 hx2 hl2 hl1 (by omega) (by omega)).mono ?_
  rintro e w' ⟨d, r, rfl, hC, n4, rfl⟩
  have k2 : c % 1000000 ≤ d := by
    have h := hC.sum; have h1 := hC.less; have h2 := hN.enough
    have := lt_of_times (a := c % 1000000) (b := d + 1) (x := x) (by omega) (by rw [Int.add_mul, Int.one_mul]; omega)
    omega
  clear hC
  by_cases hn : n = 0
  · have hb0 : (n == 0) = true := beq_iff_eq.2 hn
    have HN := Lib.hid hN; have HE := Lib.hid hn; clear hN hn
    go_wp2
    go_ret
    exact ⟨rfl, by repeat (first | exact Grown.refl _ | apply grown_drewN)⟩
  · have hb0 : (n == 0) = false := beq_eq_false_iff_ne.2 hn
    have hn1 : 1 ≤ n := by omega
    have HN := Lib.hid hN; clear hN hn
    go_wp2_with fail
    refine (charge_is _ _ _ _ hx1 hx2 hl2 hl1 (by omega) (by omega)).mono ?_
    rintro e w' ⟨d2, r2, rfl, hC, n5, rfl⟩
    have k3 : d2 < c % 1000000 := by
      have h := hC.sum; have h1 := hC.rest; have h2 := HN.out.less hn1
      exact lt_of_times (x := x) (by omega) (by omega)
    clear hC
    go_wp2
    go_ret
    exact ⟨rfl, by repeat (first | exact Grown.refl _ | apply grown_drewN)⟩
end Go.Proofs.Ytbmpepimldjmhaa
