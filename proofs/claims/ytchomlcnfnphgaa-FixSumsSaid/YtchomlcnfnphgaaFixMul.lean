/- Contracts of math/bits.Mul64, fix.size, fix.Mul and doleref01.Mul. Conditions: the arguments are numbers that their kinds hold. -/
import Derived.Test.YtchomlcnfnphgaaFixRef
import Derived.Shelf.Bits.Mul64
namespace Go.Proofs.Ytchomlcnfnphgaa
open Go Go.RowKit Go.ChangeShapes Go.WideShapes
set_option linter.unusedVariables false

set_option maxHeartbeats 1000000 in
theorem mul64 (x y p : Nat) (hp : x * y = p) (hx : x < 18446744073709551616) (hy : y < 18446744073709551616) (w : World) :
    Calls Try.prog 26 #[.int .u64 x, .int .u64 y] w fun e w' => e = .returned (.tuple #[.int .u64 ((p / 18446744073709551616 : Nat) : Int), .int .u64 ((p % 18446744073709551616 : Nat) : Int)]) ∧ w = w' := by
  obtain ⟨bd, bt, bw, hhi⟩ := Lib.mul64_hi x y hx hy
  have ba := Lib.half_mul_le (a := x / 4294967296) (b := y / 4294967296) (by omega) (by omega)
  have bb := Lib.half_mul_le (a := x / 4294967296) (b := y % 4294967296) (by omega) (by omega)
  have bc := Lib.half_mul_le (a := x % 4294967296) (b := y / 4294967296) (by omega) (by omega)
  have ba' : x / 4294967296 * (y / 4294967296) < 18446744073709551616 := by omega
  have bb' : x / 4294967296 * (y % 4294967296) < 18446744073709551616 := by omega
  have bc' : x % 4294967296 * (y / 4294967296) < 18446744073709551616 := by omega
  have bh1 : x / 4294967296 * (y / 4294967296) + (x / 4294967296 * (y % 4294967296) + x % 4294967296 * (y % 4294967296) / 4294967296) / 4294967296 < 18446744073709551616 := by omega
  have bh : x / 4294967296 * (y / 4294967296) + (x / 4294967296 * (y % 4294967296) + x % 4294967296 * (y % 4294967296) / 4294967296) / 4294967296 + ((x / 4294967296 * (y % 4294967296) + x % 4294967296 * (y % 4294967296) / 4294967296) % 4294967296 + x % 4294967296 * (y / 4294967296)) / 4294967296 < 18446744073709551616 := by omega
  subst hp
  go_enter Try.func26, Try.ntmps26
  go_wp2
  simp only [Mul64.maskN x hx, Mul64.maskN y hy, Mul64.divN, Mul64.mulN, Mul64.addN, Mul64.wrapN _ bd, Mul64.wrapN _ bb', Mul64.wrapN _ bt, Mul64.maskN _ bt, Mul64.wrapN _ bc', Mul64.wrapN _ bw, Mul64.wrapN _ ba', Mul64.wrapN _ bh1, Mul64.wrapN _ bh, Mul64.wrapM (x * y)]
  rw [hhi]
  go_ret2
  exact ⟨rfl, rfl⟩

theorem ret_u64 {a b : Int} (h : a = b) : Ending.returned (.int .u64 a) = .returned (.int .u64 b) := by rw [h]
theorem ret_ib {a b : Int} {c : Bool} (h : a = b) : Ending.returned (.tuple #[.int .i64 a, .bool c]) = .returned (.tuple #[.int .i64 b, .bool c]) := by rw [h]
theorem size_neg (n : Int) (w : World) (hn : -9223372036854775808 ≤ n ∧ n ≤ 9223372036854775807) (h : n < 0) :
    Calls Try.prog 27 #[.int .i64 n] w fun e w' => e = .returned (.int .u64 (n.natAbs : Int)) ∧ w = w' := by
  go_enter Try.func27, Try.ntmps27
  go_wp2
  go_ret
  exact ⟨ret_u64 (by (try simp only [IntKind.wrap_u64]); omega), rfl⟩
theorem size_pos (n : Int) (w : World) (hn : -9223372036854775808 ≤ n ∧ n ≤ 9223372036854775807) (h : ¬ n < 0) :
    Calls Try.prog 27 #[.int .i64 n] w fun e w' => e = .returned (.int .u64 (n.natAbs : Int)) ∧ w = w' := by
  go_enter Try.func27, Try.ntmps27
  go_wp2
  go_ret
  exact ⟨ret_u64 (by (try simp only [IntKind.wrap_u64]); omega), rfl⟩
theorem size_any (n : Int) (w : World) (hn : -9223372036854775808 ≤ n ∧ n ≤ 9223372036854775807) :
    Calls Try.prog 27 #[.int .i64 n] w fun e w' => e = .returned (.int .u64 (n.natAbs : Int)) ∧ w = w' := by
  by_cases h : n < 0
  · exact size_neg n w hn h
  · exact size_pos n w hn h
theorem refsize_neg (n : Int) (w : World) (hn : -9223372036854775808 ≤ n ∧ n ≤ 9223372036854775807) (h : n < 0) :
    Calls Try.prog 28 #[.int .i64 n] w fun e w' => e = .returned (.int .u64 (n.natAbs : Int)) ∧ w = w' := by
  go_enter Try.func28, Try.ntmps28
  go_wp2
  go_ret
  exact ⟨ret_u64 (by (try simp only [IntKind.wrap_u64]); omega), rfl⟩
theorem refsize_pos (n : Int) (w : World) (hn : -9223372036854775808 ≤ n ∧ n ≤ 9223372036854775807) (h : ¬ n < 0) :
    Calls Try.prog 28 #[.int .i64 n] w fun e w' => e = .returned (.int .u64 (n.natAbs : Int)) ∧ w = w' := by
  go_enter Try.func28, Try.ntmps28
  go_wp2
  go_ret
  exact ⟨ret_u64 (by (try simp only [IntKind.wrap_u64]); omega), rfl⟩
theorem refsize_any (n : Int) (w : World) (hn : -9223372036854775808 ≤ n ∧ n ≤ 9223372036854775807) :
    Calls Try.prog 28 #[.int .i64 n] w fun e w' => e = .returned (.int .u64 (n.natAbs : Int)) ∧ w = w' := by
  by_cases h : n < 0
  · exact refsize_neg n w hn h
  · exact refsize_pos n w hn h

/-- the product's amount, and its sign -/
theorem mul_same (a b : Int) (h : (a < 0 ↔ b < 0)) : a * b = ((a.natAbs * b.natAbs : Nat) : Int) := by
  rw [← Int.natAbs_mul, Int.natAbs_of_nonneg]
  by_cases h1 : a < 0
  · exact Int.mul_nonneg_of_nonpos_of_nonpos (by omega) (by have := h.1 h1; omega)
  · exact Int.mul_nonneg (by omega) (by have := mt h.2 h1; omega)
theorem mul_other (a b : Int) (h : ¬ (a < 0 ↔ b < 0)) : a * b = - ((a.natAbs * b.natAbs : Nat) : Int) := by
  have hn : a * b ≤ 0 := by
    by_cases h1 : a < 0
    · exact Int.mul_nonpos_of_nonpos_of_nonneg (by omega) (by by_cases h2 : b < 0 <;> simp_all)
    · exact Int.mul_nonpos_of_nonneg_of_nonpos (by omega) (by by_cases h2 : b < 0 <;> simp_all; omega)
  rw [← Int.natAbs_mul]
  omega
set_option maxHeartbeats 400000 in
theorem mul_nn_great (a b : Int) (p : Nat) (w : World) (ha : -9223372036854775808 ≤ a ∧ a ≤ 9223372036854775807) (hb : -9223372036854775808 ≤ b ∧ b ≤ 9223372036854775807) (hp : a.natAbs * b.natAbs = p) (s1 : a < 0) (s2 : b < 0) (h : 18446744073709551616 ≤ p) :
    Calls Try.prog 19 #[.int .i64 a, .int .i64 b] w fun e w' => e = .returned (.tuple #[.int .i64 0, .bool false]) ∧ w = w' := by
  have HP := Lib.hid hp; clear hp
  have hx : a.natAbs < 18446744073709551616 := by omega
  have hy : b.natAbs < 18446744073709551616 := by omega
  go_enter Try.func19, Try.ntmps19
  go_wp2_with (first | (go_at_call 27; (refine (size_any _ _ ?ha).mono ?_; (case ha => omega)); rintro e w' ⟨rfl, rfl⟩) | (go_at_call 26; refine (mul64 _ _ _ HP.out hx hy _).mono ?_; rintro e w' ⟨rfl, rfl⟩))
  go_ret2
  exact ⟨rfl, rfl⟩
set_option maxHeartbeats 400000 in
theorem mul_nn_yes (a b : Int) (p : Nat) (w : World) (ha : -9223372036854775808 ≤ a ∧ a ≤ 9223372036854775807) (hb : -9223372036854775808 ≤ b ∧ b ≤ 9223372036854775807) (hp : a.natAbs * b.natAbs = p) (s1 : a < 0) (s2 : b < 0) (h : p ≤ 9223372036854775807) :
    Calls Try.prog 19 #[.int .i64 a, .int .i64 b] w fun e w' => e = .returned (.tuple #[.int .i64 (p : Int), .bool true]) ∧ w = w' := by
  have HP := Lib.hid hp; clear hp
  have hx : a.natAbs < 18446744073709551616 := by omega
  have hy : b.natAbs < 18446744073709551616 := by omega
  go_enter Try.func19, Try.ntmps19
  go_wp2_with (first | (go_at_call 27; (refine (size_any _ _ ?ha).mono ?_; (case ha => omega)); rintro e w' ⟨rfl, rfl⟩) | (go_at_call 26; refine (mul64 _ _ _ HP.out hx hy _).mono ?_; rintro e w' ⟨rfl, rfl⟩))
  go_ret2
  exact ⟨ret_ib (by first | rfl | omega | (simp only [wrap64]; omega)), rfl⟩
set_option maxHeartbeats 400000 in
theorem mul_nn_no (a b : Int) (p : Nat) (w : World) (ha : -9223372036854775808 ≤ a ∧ a ≤ 9223372036854775807) (hb : -9223372036854775808 ≤ b ∧ b ≤ 9223372036854775807) (hp : a.natAbs * b.natAbs = p) (s1 : a < 0) (s2 : b < 0) (h : 9223372036854775807 < p) (h2 : p < 18446744073709551616) :
    Calls Try.prog 19 #[.int .i64 a, .int .i64 b] w fun e w' => e = .returned (.tuple #[.int .i64 0, .bool false]) ∧ w = w' := by
  have HP := Lib.hid hp; clear hp
  have hx : a.natAbs < 18446744073709551616 := by omega
  have hy : b.natAbs < 18446744073709551616 := by omega
  go_enter Try.func19, Try.ntmps19
  go_wp2_with (first | (go_at_call 27; (refine (size_any _ _ ?ha).mono ?_; (case ha => omega)); rintro e w' ⟨rfl, rfl⟩) | (go_at_call 26; refine (mul64 _ _ _ HP.out hx hy _).mono ?_; rintro e w' ⟨rfl, rfl⟩))
  go_ret2
  exact ⟨rfl, rfl⟩
set_option maxHeartbeats 400000 in
theorem mul_np_great (a b : Int) (p : Nat) (w : World) (ha : -9223372036854775808 ≤ a ∧ a ≤ 9223372036854775807) (hb : -9223372036854775808 ≤ b ∧ b ≤ 9223372036854775807) (hp : a.natAbs * b.natAbs = p) (s1 : a < 0) (s2 : ¬ b < 0) (h : 18446744073709551616 ≤ p) :
    Calls Try.prog 19 #[.int .i64 a, .int .i64 b] w fun e w' => e = .returned (.tuple #[.int .i64 0, .bool false]) ∧ w = w' := by
  have HP := Lib.hid hp; clear hp
  have hx : a.natAbs < 18446744073709551616 := by omega
  have hy : b.natAbs < 18446744073709551616 := by omega
  go_enter Try.func19, Try.ntmps19
  go_wp2_with (first | (go_at_call 27; (refine (size_any _ _ ?ha).mono ?_; (case ha => omega)); rintro e w' ⟨rfl, rfl⟩) | (go_at_call 26; refine (mul64 _ _ _ HP.out hx hy _).mono ?_; rintro e w' ⟨rfl, rfl⟩))
  go_ret2
  exact ⟨rfl, rfl⟩
set_option maxHeartbeats 400000 in
theorem mul_np_yes (a b : Int) (p : Nat) (w : World) (ha : -9223372036854775808 ≤ a ∧ a ≤ 9223372036854775807) (hb : -9223372036854775808 ≤ b ∧ b ≤ 9223372036854775807) (hp : a.natAbs * b.natAbs = p) (s1 : a < 0) (s2 : ¬ b < 0) (h : p ≤ 9223372036854775808) :
    Calls Try.prog 19 #[.int .i64 a, .int .i64 b] w fun e w' => e = .returned (.tuple #[.int .i64 (-(p : Int)), .bool true]) ∧ w = w' := by
  have HP := Lib.hid hp; clear hp
  have hx : a.natAbs < 18446744073709551616 := by omega
  have hy : b.natAbs < 18446744073709551616 := by omega
  go_enter Try.func19, Try.ntmps19
  go_wp2_with (first | (go_at_call 27; (refine (size_any _ _ ?ha).mono ?_; (case ha => omega)); rintro e w' ⟨rfl, rfl⟩) | (go_at_call 26; refine (mul64 _ _ _ HP.out hx hy _).mono ?_; rintro e w' ⟨rfl, rfl⟩))
  go_ret2
  exact ⟨ret_ib (by first | rfl | omega | (simp only [IntKind.wrap_u64, wrap64]; omega)), rfl⟩
set_option maxHeartbeats 400000 in
theorem mul_np_no (a b : Int) (p : Nat) (w : World) (ha : -9223372036854775808 ≤ a ∧ a ≤ 9223372036854775807) (hb : -9223372036854775808 ≤ b ∧ b ≤ 9223372036854775807) (hp : a.natAbs * b.natAbs = p) (s1 : a < 0) (s2 : ¬ b < 0) (h : 9223372036854775808 < p) (h2 : p < 18446744073709551616) :
    Calls Try.prog 19 #[.int .i64 a, .int .i64 b] w fun e w' => e = .returned (.tuple #[.int .i64 0, .bool false]) ∧ w = w' := by
  have HP := Lib.hid hp; clear hp
  have hx : a.natAbs < 18446744073709551616 := by omega
  have hy : b.natAbs < 18446744073709551616 := by omega
  go_enter Try.func19, Try.ntmps19
  go_wp2_with (first | (go_at_call 27; (refine (size_any _ _ ?ha).mono ?_; (case ha => omega)); rintro e w' ⟨rfl, rfl⟩) | (go_at_call 26; refine (mul64 _ _ _ HP.out hx hy _).mono ?_; rintro e w' ⟨rfl, rfl⟩))
  go_ret2
  exact ⟨rfl, rfl⟩
set_option maxHeartbeats 400000 in
theorem mul_pn_great (a b : Int) (p : Nat) (w : World) (ha : -9223372036854775808 ≤ a ∧ a ≤ 9223372036854775807) (hb : -9223372036854775808 ≤ b ∧ b ≤ 9223372036854775807) (hp : a.natAbs * b.natAbs = p) (s1 : ¬ a < 0) (s2 : b < 0) (h : 18446744073709551616 ≤ p) :
    Calls Try.prog 19 #[.int .i64 a, .int .i64 b] w fun e w' => e = .returned (.tuple #[.int .i64 0, .bool false]) ∧ w = w' := by
  have HP := Lib.hid hp; clear hp
  have hx : a.natAbs < 18446744073709551616 := by omega
  have hy : b.natAbs < 18446744073709551616 := by omega
  go_enter Try.func19, Try.ntmps19
  go_wp2_with (first | (go_at_call 27; (refine (size_any _ _ ?ha).mono ?_; (case ha => omega)); rintro e w' ⟨rfl, rfl⟩) | (go_at_call 26; refine (mul64 _ _ _ HP.out hx hy _).mono ?_; rintro e w' ⟨rfl, rfl⟩))
  go_ret2
  exact ⟨rfl, rfl⟩
set_option maxHeartbeats 400000 in
theorem mul_pn_yes (a b : Int) (p : Nat) (w : World) (ha : -9223372036854775808 ≤ a ∧ a ≤ 9223372036854775807) (hb : -9223372036854775808 ≤ b ∧ b ≤ 9223372036854775807) (hp : a.natAbs * b.natAbs = p) (s1 : ¬ a < 0) (s2 : b < 0) (h : p ≤ 9223372036854775808) :
    Calls Try.prog 19 #[.int .i64 a, .int .i64 b] w fun e w' => e = .returned (.tuple #[.int .i64 (-(p : Int)), .bool true]) ∧ w = w' := by
  have HP := Lib.hid hp; clear hp
  have hx : a.natAbs < 18446744073709551616 := by omega
  have hy : b.natAbs < 18446744073709551616 := by omega
  go_enter Try.func19, Try.ntmps19
  go_wp2_with (first | (go_at_call 27; (refine (size_any _ _ ?ha).mono ?_; (case ha => omega)); rintro e w' ⟨rfl, rfl⟩) | (go_at_call 26; refine (mul64 _ _ _ HP.out hx hy _).mono ?_; rintro e w' ⟨rfl, rfl⟩))
  go_ret2
  exact ⟨ret_ib (by first | rfl | omega | (simp only [IntKind.wrap_u64, wrap64]; omega)), rfl⟩
set_option maxHeartbeats 400000 in
theorem mul_pn_no (a b : Int) (p : Nat) (w : World) (ha : -9223372036854775808 ≤ a ∧ a ≤ 9223372036854775807) (hb : -9223372036854775808 ≤ b ∧ b ≤ 9223372036854775807) (hp : a.natAbs * b.natAbs = p) (s1 : ¬ a < 0) (s2 : b < 0) (h : 9223372036854775808 < p) (h2 : p < 18446744073709551616) :
    Calls Try.prog 19 #[.int .i64 a, .int .i64 b] w fun e w' => e = .returned (.tuple #[.int .i64 0, .bool false]) ∧ w = w' := by
  have HP := Lib.hid hp; clear hp
  have hx : a.natAbs < 18446744073709551616 := by omega
  have hy : b.natAbs < 18446744073709551616 := by omega
  go_enter Try.func19, Try.ntmps19
  go_wp2_with (first | (go_at_call 27; (refine (size_any _ _ ?ha).mono ?_; (case ha => omega)); rintro e w' ⟨rfl, rfl⟩) | (go_at_call 26; refine (mul64 _ _ _ HP.out hx hy _).mono ?_; rintro e w' ⟨rfl, rfl⟩))
  go_ret2
  exact ⟨rfl, rfl⟩
set_option maxHeartbeats 400000 in
theorem mul_pp_great (a b : Int) (p : Nat) (w : World) (ha : -9223372036854775808 ≤ a ∧ a ≤ 9223372036854775807) (hb : -9223372036854775808 ≤ b ∧ b ≤ 9223372036854775807) (hp : a.natAbs * b.natAbs = p) (s1 : ¬ a < 0) (s2 : ¬ b < 0) (h : 18446744073709551616 ≤ p) :
    Calls Try.prog 19 #[.int .i64 a, .int .i64 b] w fun e w' => e = .returned (.tuple #[.int .i64 0, .bool false]) ∧ w = w' := by
  have HP := Lib.hid hp; clear hp
  have hx : a.natAbs < 18446744073709551616 := by omega
  have hy : b.natAbs < 18446744073709551616 := by omega
  go_enter Try.func19, Try.ntmps19
  go_wp2_with (first | (go_at_call 27; (refine (size_any _ _ ?ha).mono ?_; (case ha => omega)); rintro e w' ⟨rfl, rfl⟩) | (go_at_call 26; refine (mul64 _ _ _ HP.out hx hy _).mono ?_; rintro e w' ⟨rfl, rfl⟩))
  go_ret2
  exact ⟨rfl, rfl⟩
set_option maxHeartbeats 400000 in
theorem mul_pp_yes (a b : Int) (p : Nat) (w : World) (ha : -9223372036854775808 ≤ a ∧ a ≤ 9223372036854775807) (hb : -9223372036854775808 ≤ b ∧ b ≤ 9223372036854775807) (hp : a.natAbs * b.natAbs = p) (s1 : ¬ a < 0) (s2 : ¬ b < 0) (h : p ≤ 9223372036854775807) :
    Calls Try.prog 19 #[.int .i64 a, .int .i64 b] w fun e w' => e = .returned (.tuple #[.int .i64 (p : Int), .bool true]) ∧ w = w' := by
  have HP := Lib.hid hp; clear hp
  have hx : a.natAbs < 18446744073709551616 := by omega
  have hy : b.natAbs < 18446744073709551616 := by omega
  go_enter Try.func19, Try.ntmps19
  go_wp2_with (first | (go_at_call 27; (refine (size_any _ _ ?ha).mono ?_; (case ha => omega)); rintro e w' ⟨rfl, rfl⟩) | (go_at_call 26; refine (mul64 _ _ _ HP.out hx hy _).mono ?_; rintro e w' ⟨rfl, rfl⟩))
  go_ret2
  exact ⟨ret_ib (by first | rfl | omega | (simp only [wrap64]; omega)), rfl⟩
set_option maxHeartbeats 400000 in
theorem mul_pp_no (a b : Int) (p : Nat) (w : World) (ha : -9223372036854775808 ≤ a ∧ a ≤ 9223372036854775807) (hb : -9223372036854775808 ≤ b ∧ b ≤ 9223372036854775807) (hp : a.natAbs * b.natAbs = p) (s1 : ¬ a < 0) (s2 : ¬ b < 0) (h : 9223372036854775807 < p) (h2 : p < 18446744073709551616) :
    Calls Try.prog 19 #[.int .i64 a, .int .i64 b] w fun e w' => e = .returned (.tuple #[.int .i64 0, .bool false]) ∧ w = w' := by
  have HP := Lib.hid hp; clear hp
  have hx : a.natAbs < 18446744073709551616 := by omega
  have hy : b.natAbs < 18446744073709551616 := by omega
  go_enter Try.func19, Try.ntmps19
  go_wp2_with (first | (go_at_call 27; (refine (size_any _ _ ?ha).mono ?_; (case ha => omega)); rintro e w' ⟨rfl, rfl⟩) | (go_at_call 26; refine (mul64 _ _ _ HP.out hx hy _).mono ?_; rintro e w' ⟨rfl, rfl⟩))
  go_ret2
  exact ⟨rfl, rfl⟩
theorem mul_yes (a b : Int) (w : World) (ha : -9223372036854775808 ≤ a ∧ a ≤ 9223372036854775807) (hb : -9223372036854775808 ≤ b ∧ b ≤ 9223372036854775807) (h : -9223372036854775808 ≤ a * b ∧ a * b ≤ 9223372036854775807) :
    Calls Try.prog 19 #[.int .i64 a, .int .i64 b] w fun e w' => e = .returned (.tuple #[.int .i64 (a * b), .bool true]) ∧ w = w' := by
  by_cases s1 : a < 0 <;> by_cases s2 : b < 0
  · have e := mul_same a b (by simp [s1, s2]); rw [e] at h ⊢; exact mul_nn_yes a b _ w ha hb rfl s1 s2 (by omega)
  · have e := mul_other a b (by simp [s1, s2]); rw [e] at h ⊢; exact mul_np_yes a b _ w ha hb rfl s1 s2 (by omega)
  · have e := mul_other a b (by simp [s1, s2]); rw [e] at h ⊢; exact mul_pn_yes a b _ w ha hb rfl s1 s2 (by omega)
  · have e := mul_same a b (by simp [s1, s2]); rw [e] at h ⊢; exact mul_pp_yes a b _ w ha hb rfl s1 s2 (by omega)
theorem mul_no (a b : Int) (w : World) (ha : -9223372036854775808 ≤ a ∧ a ≤ 9223372036854775807) (hb : -9223372036854775808 ≤ b ∧ b ≤ 9223372036854775807) (h : ¬ (-9223372036854775808 ≤ a * b ∧ a * b ≤ 9223372036854775807)) :
    Calls Try.prog 19 #[.int .i64 a, .int .i64 b] w fun e w' => e = .returned (.tuple #[.int .i64 0, .bool false]) ∧ w = w' := by
  by_cases hg : 18446744073709551616 ≤ a.natAbs * b.natAbs
  · by_cases s1 : a < 0 <;> by_cases s2 : b < 0
    · exact mul_nn_great a b _ w ha hb rfl s1 s2 hg
    · exact mul_np_great a b _ w ha hb rfl s1 s2 hg
    · exact mul_pn_great a b _ w ha hb rfl s1 s2 hg
    · exact mul_pp_great a b _ w ha hb rfl s1 s2 hg
  · by_cases s1 : a < 0 <;> by_cases s2 : b < 0
    · have e := mul_same a b (by simp [s1, s2]); rw [e] at h; exact mul_nn_no a b _ w ha hb rfl s1 s2 (by omega) (by omega)
    · have e := mul_other a b (by simp [s1, s2]); rw [e] at h; exact mul_np_no a b _ w ha hb rfl s1 s2 (by omega) (by omega)
    · have e := mul_other a b (by simp [s1, s2]); rw [e] at h; exact mul_pn_no a b _ w ha hb rfl s1 s2 (by omega) (by omega)
    · have e := mul_same a b (by simp [s1, s2]); rw [e] at h; exact mul_pp_no a b _ w ha hb rfl s1 s2 (by omega) (by omega)
theorem mul_any (a b : Int) (w : World) (ha : -9223372036854775808 ≤ a ∧ a ≤ 9223372036854775807) (hb : -9223372036854775808 ≤ b ∧ b ≤ 9223372036854775807) :
    Calls Try.prog 19 #[.int .i64 a, .int .i64 b] w fun e w' => e = .returned (.tuple #[.int .i64 (fitV (a * b)), .bool (fitB (a * b))]) ∧ w = w' := by
  by_cases h : -9223372036854775808 ≤ a * b ∧ a * b ≤ 9223372036854775807
  · rw [fitV_yes h, fitB_yes h]; exact mul_yes a b w ha hb h
  · rw [fitV_no h, fitB_no h]; exact mul_no a b w ha hb h
end Go.Proofs.Ytchomlcnfnphgaa
