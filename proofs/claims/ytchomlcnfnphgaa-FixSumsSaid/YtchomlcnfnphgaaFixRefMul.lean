/- Contract of the reference doleref01.Mul. Conditions: the arguments are numbers that int64 holds. -/
import Derived.Test.YtchomlcnfnphgaaFixMul
namespace Go.Proofs.Ytchomlcnfnphgaa
open Go Go.RowKit Go.ChangeShapes Go.WideShapes
set_option linter.unusedVariables false

theorem quo_test (R : Int) (R' : Nat) (hR : R = (R' : Int)) (x y : Nat) (hy : 0 < y) : R / (y : Int) < (x : Int) ↔ R' < x * y := by
  rw [hR, ← Int.natCast_ediv, Int.ofNat_lt, Nat.div_lt_iff_lt_mul hy]
theorem refsize_is (n : Int) (x : Nat) (w : World) (hn : -9223372036854775808 ≤ n ∧ n ≤ 9223372036854775807) (hx : n.natAbs = x) :
    Calls Try.prog 28 #[.int .i64 n] w fun e w' => e = .returned (.int .u64 (x : Int)) ∧ w = w' := hx ▸ refsize_any n w hn

theorem refmul_zero1 (b : Int) (w : World) :
    Calls Try.prog 22 #[.int .i64 0, .int .i64 b] w fun e w' => e = .returned (.tuple #[.int .i64 0, .bool true]) ∧ w = w' := by
  go_enter Try.func22, Try.ntmps22
  go_wp2_with fail
  go_ret2
  exact ⟨rfl, rfl⟩
theorem refmul_zero2 (a : Int) (w : World) (h : ¬ a = 0) :
    Calls Try.prog 22 #[.int .i64 a, .int .i64 0] w fun e w' => e = .returned (.tuple #[.int .i64 0, .bool true]) ∧ w = w' := by
  go_enter Try.func22, Try.ntmps22
  go_wp2_with fail
  go_ret2
  exact ⟨rfl, rfl⟩
set_option maxHeartbeats 400000 in
theorem refmul_nn_yes (a b : Int) (x y p : Nat) (w : World) (ha : -9223372036854775808 ≤ a ∧ a ≤ 9223372036854775807) (hb : -9223372036854775808 ≤ b ∧ b ≤ 9223372036854775807) (hx : a.natAbs = x) (hy : b.natAbs = y) (hp : x * y = p) (ha0 : ¬ a = 0) (hb0 : ¬ b = 0) (s1 : a < 0) (s2 : b < 0) (h : p ≤ 9223372036854775807) :
    Calls Try.prog 22 #[.int .i64 a, .int .i64 b] w fun e w' => e = .returned (.tuple #[.int .i64 (p : Int), .bool true]) ∧ w = w' := by
  have ht : ¬ 9223372036854775807 / (y : Int) < x := fun h3 => by have := (quo_test 9223372036854775807 9223372036854775807 rfl x y (by omega)).1 h3; rw [hp] at this; omega
  have hm : (x : Int) * (y : Int) = (p : Int) := by rw [← hp, Int.natCast_mul]
  have h0 : 1 ≤ y := by omega
  have h1 : 1 ≤ x := by omega
  have h2 : y ≤ 9223372036854775808 := by omega
  have hp0 : 1 ≤ p := by rw [← hp]; exact Nat.mul_le_mul h1 h0
  have e0 : (a == 0) = false := beq_eq_false_iff_ne.2 ha0
  have e1 : (b == 0) = false := beq_eq_false_iff_ne.2 hb0
  clear ha0 hb0
  have HX := Lib.hid hx; have HY := Lib.hid hy; have HP := Lib.hid hp; clear hx hy hp
  go_enter Try.func22, Try.ntmps22
  go_wp2_with (go_at_call 28; (first | (with_reducible refine (refsize_is a x _ ha HX.out).mono ?_) | (with_reducible refine (refsize_is b y _ hb HY.out).mono ?_)); rintro e w' ⟨rfl, rfl⟩)
  go_ret2
  exact ⟨ret_ib (by first | rfl | omega | (simp only [wrap64]; omega)), rfl⟩
set_option maxHeartbeats 400000 in
theorem refmul_nn_no (a b : Int) (x y p : Nat) (w : World) (ha : -9223372036854775808 ≤ a ∧ a ≤ 9223372036854775807) (hb : -9223372036854775808 ≤ b ∧ b ≤ 9223372036854775807) (hx : a.natAbs = x) (hy : b.natAbs = y) (hp : x * y = p) (ha0 : ¬ a = 0) (hb0 : ¬ b = 0) (s1 : a < 0) (s2 : b < 0) (h : 9223372036854775807 < p) :
    Calls Try.prog 22 #[.int .i64 a, .int .i64 b] w fun e w' => e = .returned (.tuple #[.int .i64 0, .bool false]) ∧ w = w' := by
  have ht : 9223372036854775807 / (y : Int) < x := (quo_test 9223372036854775807 9223372036854775807 rfl x y (by omega)).2 (by rw [hp]; omega)
  have h0 : 1 ≤ y := by omega
  have h1 : 1 ≤ x := by omega
  have h2 : y ≤ 9223372036854775808 := by omega
  have hp0 : 1 ≤ p := by rw [← hp]; exact Nat.mul_le_mul h1 h0
  have e0 : (a == 0) = false := beq_eq_false_iff_ne.2 ha0
  have e1 : (b == 0) = false := beq_eq_false_iff_ne.2 hb0
  clear ha0 hb0
  have HX := Lib.hid hx; have HY := Lib.hid hy; have HP := Lib.hid hp; clear hx hy hp
  go_enter Try.func22, Try.ntmps22
  go_wp2_with (go_at_call 28; (first | (with_reducible refine (refsize_is a x _ ha HX.out).mono ?_) | (with_reducible refine (refsize_is b y _ hb HY.out).mono ?_)); rintro e w' ⟨rfl, rfl⟩)
  go_ret2
  exact ⟨rfl, rfl⟩
set_option maxHeartbeats 400000 in
theorem refmul_np_yes (a b : Int) (x y p : Nat) (w : World) (ha : -9223372036854775808 ≤ a ∧ a ≤ 9223372036854775807) (hb : -9223372036854775808 ≤ b ∧ b ≤ 9223372036854775807) (hx : a.natAbs = x) (hy : b.natAbs = y) (hp : x * y = p) (ha0 : ¬ a = 0) (hb0 : ¬ b = 0) (s1 : a < 0) (s2 : ¬ b < 0) (h : p ≤ 9223372036854775808) :
    Calls Try.prog 22 #[.int .i64 a, .int .i64 b] w fun e w' => e = .returned (.tuple #[.int .i64 (-(p : Int)), .bool true]) ∧ w = w' := by
  have ht : ¬ 9223372036854775808 / (y : Int) < x := fun h3 => by have := (quo_test 9223372036854775808 9223372036854775808 rfl x y (by omega)).1 h3; rw [hp] at this; omega
  have hm : (x : Int) * (y : Int) = (p : Int) := by rw [← hp, Int.natCast_mul]
  have h0 : 1 ≤ y := by omega
  have h1 : 1 ≤ x := by omega
  have h2 : y ≤ 9223372036854775808 := by omega
  have hp0 : 1 ≤ p := by rw [← hp]; exact Nat.mul_le_mul h1 h0
  have e0 : (a == 0) = false := beq_eq_false_iff_ne.2 ha0
  have e1 : (b == 0) = false := beq_eq_false_iff_ne.2 hb0
  clear ha0 hb0
  have HX := Lib.hid hx; have HY := Lib.hid hy; have HP := Lib.hid hp; clear hx hy hp
  go_enter Try.func22, Try.ntmps22
  go_wp2_with (go_at_call 28; (first | (with_reducible refine (refsize_is a x _ ha HX.out).mono ?_) | (with_reducible refine (refsize_is b y _ hb HY.out).mono ?_)); rintro e w' ⟨rfl, rfl⟩)
  go_ret2
  exact ⟨ret_ib (by first | rfl | omega | (simp only [wrap64]; omega)), rfl⟩
set_option maxHeartbeats 400000 in
theorem refmul_np_no (a b : Int) (x y p : Nat) (w : World) (ha : -9223372036854775808 ≤ a ∧ a ≤ 9223372036854775807) (hb : -9223372036854775808 ≤ b ∧ b ≤ 9223372036854775807) (hx : a.natAbs = x) (hy : b.natAbs = y) (hp : x * y = p) (ha0 : ¬ a = 0) (hb0 : ¬ b = 0) (s1 : a < 0) (s2 : ¬ b < 0) (h : 9223372036854775808 < p) :
    Calls Try.prog 22 #[.int .i64 a, .int .i64 b] w fun e w' => e = .returned (.tuple #[.int .i64 0, .bool false]) ∧ w = w' := by
  have ht : 9223372036854775808 / (y : Int) < x := (quo_test 9223372036854775808 9223372036854775808 rfl x y (by omega)).2 (by rw [hp]; omega)
  have h0 : 1 ≤ y := by omega
  have h1 : 1 ≤ x := by omega
  have h2 : y ≤ 9223372036854775808 := by omega
  have hp0 : 1 ≤ p := by rw [← hp]; exact Nat.mul_le_mul h1 h0
  have e0 : (a == 0) = false := beq_eq_false_iff_ne.2 ha0
  have e1 : (b == 0) = false := beq_eq_false_iff_ne.2 hb0
  clear ha0 hb0
  have HX := Lib.hid hx; have HY := Lib.hid hy; have HP := Lib.hid hp; clear hx hy hp
  go_enter Try.func22, Try.ntmps22
  go_wp2_with (go_at_call 28; (first | (with_reducible refine (refsize_is a x _ ha HX.out).mono ?_) | (with_reducible refine (refsize_is b y _ hb HY.out).mono ?_)); rintro e w' ⟨rfl, rfl⟩)
  go_ret2
  exact ⟨rfl, rfl⟩
set_option maxHeartbeats 400000 in
theorem refmul_pn_yes (a b : Int) (x y p : Nat) (w : World) (ha : -9223372036854775808 ≤ a ∧ a ≤ 9223372036854775807) (hb : -9223372036854775808 ≤ b ∧ b ≤ 9223372036854775807) (hx : a.natAbs = x) (hy : b.natAbs = y) (hp : x * y = p) (ha0 : ¬ a = 0) (hb0 : ¬ b = 0) (s1 : ¬ a < 0) (s2 : b < 0) (h : p ≤ 9223372036854775808) :
    Calls Try.prog 22 #[.int .i64 a, .int .i64 b] w fun e w' => e = .returned (.tuple #[.int .i64 (-(p : Int)), .bool true]) ∧ w = w' := by
  have ht : ¬ 9223372036854775808 / (y : Int) < x := fun h3 => by have := (quo_test 9223372036854775808 9223372036854775808 rfl x y (by omega)).1 h3; rw [hp] at this; omega
  have hm : (x : Int) * (y : Int) = (p : Int) := by rw [← hp, Int.natCast_mul]
  have h0 : 1 ≤ y := by omega
  have h1 : 1 ≤ x := by omega
  have h2 : y ≤ 9223372036854775808 := by omega
  have hp0 : 1 ≤ p := by rw [← hp]; exact Nat.mul_le_mul h1 h0
  have e0 : (a == 0) = false := beq_eq_false_iff_ne.2 ha0
  have e1 : (b == 0) = false := beq_eq_false_iff_ne.2 hb0
  clear ha0 hb0
  have HX := Lib.hid hx; have HY := Lib.hid hy; have HP := Lib.hid hp; clear hx hy hp
  go_enter Try.func22, Try.ntmps22
  go_wp2_with (go_at_call 28; (first | (with_reducible refine (refsize_is a x _ ha HX.out).mono ?_) | (with_reducible refine (refsize_is b y _ hb HY.out).mono ?_)); rintro e w' ⟨rfl, rfl⟩)
  go_ret2
  exact ⟨ret_ib (by first | rfl | omega | (simp only [wrap64]; omega)), rfl⟩
set_option maxHeartbeats 400000 in
theorem refmul_pn_no (a b : Int) (x y p : Nat) (w : World) (ha : -9223372036854775808 ≤ a ∧ a ≤ 9223372036854775807) (hb : -9223372036854775808 ≤ b ∧ b ≤ 9223372036854775807) (hx : a.natAbs = x) (hy : b.natAbs = y) (hp : x * y = p) (ha0 : ¬ a = 0) (hb0 : ¬ b = 0) (s1 : ¬ a < 0) (s2 : b < 0) (h : 9223372036854775808 < p) :
    Calls Try.prog 22 #[.int .i64 a, .int .i64 b] w fun e w' => e = .returned (.tuple #[.int .i64 0, .bool false]) ∧ w = w' := by
  have ht : 9223372036854775808 / (y : Int) < x := (quo_test 9223372036854775808 9223372036854775808 rfl x y (by omega)).2 (by rw [hp]; omega)
  have h0 : 1 ≤ y := by omega
  have h1 : 1 ≤ x := by omega
  have h2 : y ≤ 9223372036854775808 := by omega
  have hp0 : 1 ≤ p := by rw [← hp]; exact Nat.mul_le_mul h1 h0
  have e0 : (a == 0) = false := beq_eq_false_iff_ne.2 ha0
  have e1 : (b == 0) = false := beq_eq_false_iff_ne.2 hb0
  clear ha0 hb0
  have HX := Lib.hid hx; have HY := Lib.hid hy; have HP := Lib.hid hp; clear hx hy hp
  go_enter Try.func22, Try.ntmps22
  go_wp2_with (go_at_call 28; (first | (with_reducible refine (refsize_is a x _ ha HX.out).mono ?_) | (with_reducible refine (refsize_is b y _ hb HY.out).mono ?_)); rintro e w' ⟨rfl, rfl⟩)
  go_ret2
  exact ⟨rfl, rfl⟩
set_option maxHeartbeats 400000 in
theorem refmul_pp_yes (a b : Int) (x y p : Nat) (w : World) (ha : -9223372036854775808 ≤ a ∧ a ≤ 9223372036854775807) (hb : -9223372036854775808 ≤ b ∧ b ≤ 9223372036854775807) (hx : a.natAbs = x) (hy : b.natAbs = y) (hp : x * y = p) (ha0 : ¬ a = 0) (hb0 : ¬ b = 0) (s1 : ¬ a < 0) (s2 : ¬ b < 0) (h : p ≤ 9223372036854775807) :
    Calls Try.prog 22 #[.int .i64 a, .int .i64 b] w fun e w' => e = .returned (.tuple #[.int .i64 (p : Int), .bool true]) ∧ w = w' := by
  have ht : ¬ 9223372036854775807 / (y : Int) < x := fun h3 => by have := (quo_test 9223372036854775807 9223372036854775807 rfl x y (by omega)).1 h3; rw [hp] at this; omega
  have hm : (x : Int) * (y : Int) = (p : Int) := by rw [← hp, Int.natCast_mul]
  have h0 : 1 ≤ y := by omega
  have h1 : 1 ≤ x := by omega
  have h2 : y ≤ 9223372036854775808 := by omega
  have hp0 : 1 ≤ p := by rw [← hp]; exact Nat.mul_le_mul h1 h0
  have e0 : (a == 0) = false := beq_eq_false_iff_ne.2 ha0
  have e1 : (b == 0) = false := beq_eq_false_iff_ne.2 hb0
  clear ha0 hb0
  have HX := Lib.hid hx; have HY := Lib.hid hy; have HP := Lib.hid hp; clear hx hy hp
  go_enter Try.func22, Try.ntmps22
  go_wp2_with (go_at_call 28; (first | (with_reducible refine (refsize_is a x _ ha HX.out).mono ?_) | (with_reducible refine (refsize_is b y _ hb HY.out).mono ?_)); rintro e w' ⟨rfl, rfl⟩)
  go_ret2
  exact ⟨ret_ib (by first | rfl | omega | (simp only [wrap64]; omega)), rfl⟩
set_option maxHeartbeats 400000 in
theorem refmul_pp_no (a b : Int) (x y p : Nat) (w : World) (ha : -9223372036854775808 ≤ a ∧ a ≤ 9223372036854775807) (hb : -9223372036854775808 ≤ b ∧ b ≤ 9223372036854775807) (hx : a.natAbs = x) (hy : b.natAbs = y) (hp : x * y = p) (ha0 : ¬ a = 0) (hb0 : ¬ b = 0) (s1 : ¬ a < 0) (s2 : ¬ b < 0) (h : 9223372036854775807 < p) :
    Calls Try.prog 22 #[.int .i64 a, .int .i64 b] w fun e w' => e = .returned (.tuple #[.int .i64 0, .bool false]) ∧ w = w' := by
  have ht : 9223372036854775807 / (y : Int) < x := (quo_test 9223372036854775807 9223372036854775807 rfl x y (by omega)).2 (by rw [hp]; omega)
  have h0 : 1 ≤ y := by omega
  have h1 : 1 ≤ x := by omega
  have h2 : y ≤ 9223372036854775808 := by omega
  have hp0 : 1 ≤ p := by rw [← hp]; exact Nat.mul_le_mul h1 h0
  have e0 : (a == 0) = false := beq_eq_false_iff_ne.2 ha0
  have e1 : (b == 0) = false := beq_eq_false_iff_ne.2 hb0
  clear ha0 hb0
  have HX := Lib.hid hx; have HY := Lib.hid hy; have HP := Lib.hid hp; clear hx hy hp
  go_enter Try.func22, Try.ntmps22
  go_wp2_with (go_at_call 28; (first | (with_reducible refine (refsize_is a x _ ha HX.out).mono ?_) | (with_reducible refine (refsize_is b y _ hb HY.out).mono ?_)); rintro e w' ⟨rfl, rfl⟩)
  go_ret2
  exact ⟨rfl, rfl⟩
theorem refmul_any (a b : Int) (w : World) (ha : -9223372036854775808 ≤ a ∧ a ≤ 9223372036854775807) (hb : -9223372036854775808 ≤ b ∧ b ≤ 9223372036854775807) :
    Calls Try.prog 22 #[.int .i64 a, .int .i64 b] w fun e w' => e = .returned (.tuple #[.int .i64 (fitV (a * b)), .bool (fitB (a * b))]) ∧ w = w' := by
  by_cases ha0 : a = 0
  · subst ha0
    rw [Int.zero_mul, fitV_yes (by omega), fitB_yes (by omega)]; exact refmul_zero1 b w
  by_cases hb0 : b = 0
  · subst hb0
    rw [Int.mul_zero, fitV_yes (by omega), fitB_yes (by omega)]; exact refmul_zero2 a w ha0
  by_cases h : -9223372036854775808 ≤ a * b ∧ a * b ≤ 9223372036854775807
  · rw [fitV_yes h, fitB_yes h]
    by_cases s1 : a < 0 <;> by_cases s2 : b < 0
    · have e := mul_same a b (by simp [s1, s2]); rw [e] at h ⊢; exact refmul_nn_yes a b _ _ _ w ha hb rfl rfl rfl ha0 hb0 s1 s2 (by omega)
    · have e := mul_other a b (by simp [s1, s2]); rw [e] at h ⊢; exact refmul_np_yes a b _ _ _ w ha hb rfl rfl rfl ha0 hb0 s1 s2 (by omega)
    · have e := mul_other a b (by simp [s1, s2]); rw [e] at h ⊢; exact refmul_pn_yes a b _ _ _ w ha hb rfl rfl rfl ha0 hb0 s1 s2 (by omega)
    · have e := mul_same a b (by simp [s1, s2]); rw [e] at h ⊢; exact refmul_pp_yes a b _ _ _ w ha hb rfl rfl rfl ha0 hb0 s1 s2 (by omega)
  · rw [fitV_no h, fitB_no h]
    by_cases s1 : a < 0 <;> by_cases s2 : b < 0
    · have e := mul_same a b (by simp [s1, s2]); rw [e] at h; exact refmul_nn_no a b _ _ _ w ha hb rfl rfl rfl ha0 hb0 s1 s2 (by omega)
    · have e := mul_other a b (by simp [s1, s2]); rw [e] at h; exact refmul_np_no a b _ _ _ w ha hb rfl rfl rfl ha0 hb0 s1 s2 (by omega)
    · have e := mul_other a b (by simp [s1, s2]); rw [e] at h; exact refmul_pn_no a b _ _ _ w ha hb rfl rfl rfl ha0 hb0 s1 s2 (by omega)
    · have e := mul_same a b (by simp [s1, s2]); rw [e] at h; exact refmul_pp_no a b _ _ _ w ha hb rfl rfl rfl ha0 hb0 s1 s2 (by omega)
end Go.Proofs.Ytchomlcnfnphgaa
