/- Contracts of package vrun and of the reference doleref04. Conditions: the arguments are numbers that their kinds hold. -/
import Derived.Test.YtbmpepimldjmhaaChecked
import Derived.Handy
import Derived.Deep.QuietTactic
import Derived.BigQuiet
import Derived.Lib.Hide
namespace Go.Proofs.Ytbmpepimldjmhaa
open Go Go.RowKit Go.ChangeShapes Go.WideShapes
set_option linter.unusedVariables false

/-- what check says of a weight and of what is left over -/
def vrunE (w rem : Int) : Int := if w < 2 then 4 else if 262144 < w then 4 else if rem < w then 0 else 1
def chargeE (w rem ns : Int) : Int := if vrunE w rem ≠ 0 then vrunE w rem else if ns ≤ 1000000000 then 0 else 8
def chargeD (w rem ns : Int) : Int := if chargeE w rem ns = 0 then (rem + ns * 1024) / w else 0
def chargeR (w rem ns : Int) : Int := if chargeE w rem ns = 0 then (rem + ns * 1024) % w else 0
def needV (p rem : Int) : Int := if p ≤ rem then 0 else (p - rem + 1023) / 1024
def needE (w rem dv : Int) : Int := if vrunE w rem ≠ 0 then vrunE w rem else if dv < 0 then 1 else if 1099511627776 < dv then 1 else 0
def needN (w rem dv : Int) : Int := if needE w rem dv = 0 then needV (dv * w) rem else 0

theorem check_ok (w rem : Int) (W : World) (h1 : 2 ≤ w) (h2 : w ≤ 262144) (h3 : rem < w) :
    Calls Try.prog 16 #[.int .u64 w, .int .u64 rem] W fun e W' => e = .returned (.int .i64 0) ∧ W = W' := by
  go_enter Try.func16, Try.ntmps16
  go_wp2
  go_ret
  exact ⟨rfl, rfl⟩
theorem check_low (w rem : Int) (W : World) (h1 : w < 2) :
    Calls Try.prog 16 #[.int .u64 w, .int .u64 rem] W fun e W' => e = .returned (.int .i64 4) ∧ W = W' := by
  go_enter Try.func16, Try.ntmps16
  go_wp2
  go_ret
  exact ⟨rfl, rfl⟩
theorem check_high (w rem : Int) (W : World) (h2 : 262144 < w) :
    Calls Try.prog 16 #[.int .u64 w, .int .u64 rem] W fun e W' => e = .returned (.int .i64 4) ∧ W = W' := by
  go_enter Try.func16, Try.ntmps16
  go_wp2
  go_ret
  exact ⟨rfl, rfl⟩
theorem check_arg (w rem : Int) (W : World) (h1 : 2 ≤ w) (h2 : w ≤ 262144) (h3 : w ≤ rem) :
    Calls Try.prog 16 #[.int .u64 w, .int .u64 rem] W fun e W' => e = .returned (.int .i64 1) ∧ W = W' := by
  go_enter Try.func16, Try.ntmps16
  go_wp2
  go_ret
  exact ⟨rfl, rfl⟩

/-- what a charge comes to: it goes on by d, r is left over -/
theorem charge_ok (w rem ns : Int) (W : World) (h1 : 2 ≤ w) (h2 : w ≤ 262144) (h3 : rem < w) (h4 : 0 ≤ rem) (h5 : 0 ≤ ns) (h6 : ns ≤ 1000000000) :
    Calls Try.prog 11 #[.int .u64 w, .int .u64 rem, .int .u64 ns] W fun e W' => e = .returned (.tuple #[.int .i64 ((rem + ns * 1024) / w), .int .u64 ((rem + ns * 1024) % w), .int .i64 0]) ∧ ∃ n, W.drewN n = W' := by
  have q0 : 0 ≤ (rem + ns * 1024) / w := Int.ediv_nonneg (by omega) (by omega)
  have q1 : (rem + ns * 1024) / w ≤ rem + ns * 1024 := Int.ediv_le_self _ (by omega)
  go_enter Try.func11, Try.ntmps11
  go_wp2_with fail
  go_step3
  go_wp2_with (go_at_call 16; refine (check_ok _ _ _ h1 h2 h3).mono ?_; rintro e w' ⟨rfl, rfl⟩)
  go_step3
  go_wp2
  go_quiet (fail)
  go_wp2
  rw [Exit.noGoto_ret]
  go_ret3
  exact ⟨rfl, _, rfl⟩
theorem charge_low (w rem ns : Int) (W : World) (h1 : w < 2) :
    Calls Try.prog 11 #[.int .u64 w, .int .u64 rem, .int .u64 ns] W fun e W' => e = .returned (.tuple #[.int .i64 0, .int .u64 0, .int .i64 4]) ∧ ∃ n, W.drewN n = W' := by
  go_enter Try.func11, Try.ntmps11
  go_wp2_with fail
  go_step3
  go_wp2_with (go_at_call 16; refine (check_low _ _ _ h1).mono ?_; rintro e w' ⟨rfl, rfl⟩)
  go_step3
  go_wp2
  rw [Exit.noGoto_ret]
  go_ret3
  exact ⟨rfl, 0, rfl⟩
theorem charge_high (w rem ns : Int) (W : World) (h1 : 262144 < w) :
    Calls Try.prog 11 #[.int .u64 w, .int .u64 rem, .int .u64 ns] W fun e W' => e = .returned (.tuple #[.int .i64 0, .int .u64 0, .int .i64 4]) ∧ ∃ n, W.drewN n = W' := by
  go_enter Try.func11, Try.ntmps11
  go_wp2_with fail
  go_step3
  go_wp2_with (go_at_call 16; refine (check_high _ _ _ h1).mono ?_; rintro e w' ⟨rfl, rfl⟩)
  go_step3
  go_wp2
  rw [Exit.noGoto_ret]
  go_ret3
  exact ⟨rfl, 0, rfl⟩
theorem charge_arg (w rem ns : Int) (W : World) (h1 : 2 ≤ w) (h2 : w ≤ 262144) (h3 : w ≤ rem) :
    Calls Try.prog 11 #[.int .u64 w, .int .u64 rem, .int .u64 ns] W fun e W' => e = .returned (.tuple #[.int .i64 0, .int .u64 0, .int .i64 1]) ∧ ∃ n, W.drewN n = W' := by
  go_enter Try.func11, Try.ntmps11
  go_wp2_with fail
  go_step3
  go_wp2_with (go_at_call 16; refine (check_arg _ _ _ h1 h2 h3).mono ?_; rintro e w' ⟨rfl, rfl⟩)
  go_step3
  go_wp2
  rw [Exit.noGoto_ret]
  go_ret3
  exact ⟨rfl, 0, rfl⟩
theorem charge_tick (w rem ns : Int) (W : World) (h1 : 2 ≤ w) (h2 : w ≤ 262144) (h3 : rem < w) (h6 : 1000000000 < ns) :
    Calls Try.prog 11 #[.int .u64 w, .int .u64 rem, .int .u64 ns] W fun e W' => e = .returned (.tuple #[.int .i64 0, .int .u64 0, .int .i64 8]) ∧ ∃ n, W.drewN n = W' := by
  go_enter Try.func11, Try.ntmps11
  go_wp2_with fail
  go_step3
  go_wp2_with (go_at_call 16; refine (check_ok _ _ _ h1 h2 h3).mono ?_; rintro e w' ⟨rfl, rfl⟩)
  go_step3
  go_wp2
  rw [Exit.noGoto_ret]
  go_ret3
  exact ⟨rfl, 0, rfl⟩
theorem vrunE_low {w rem : Int} (h : w < 2) : vrunE w rem = 4 := by simp [vrunE, h]
theorem vrunE_high {w rem : Int} (h : 262144 < w) : vrunE w rem = 4 := by simp [vrunE, h]
theorem vrunE_arg {w rem : Int} (h1 : 2 ≤ w) (h2 : w ≤ 262144) (h3 : w ≤ rem) : vrunE w rem = 1 := by unfold vrunE; rw [if_neg (by omega), if_neg (by omega), if_neg (by omega)]
theorem vrunE_ok {w rem : Int} (h1 : 2 ≤ w) (h2 : w ≤ 262144) (h3 : rem < w) : vrunE w rem = 0 := by unfold vrunE; rw [if_neg (by omega), if_neg (by omega), if_pos h3]
/-- a contract over every way is one over each of five -/
theorem charge_ways {P : Int → Int → Int → Prop} (w rem ns : Int) (h1 : w < 2 → P 0 0 4) (h2 : 262144 < w → P 0 0 4) (h3 : 2 ≤ w → w ≤ 262144 → ¬ rem < w → P 0 0 1) (h4 : 2 ≤ w → w ≤ 262144 → rem < w → ¬ ns ≤ 1000000000 → P 0 0 8)
    (h5 : 2 ≤ w → w ≤ 262144 → rem < w → ns ≤ 1000000000 → P ((rem + ns * 1024) / w) ((rem + ns * 1024) % w) 0) : P (chargeD w rem ns) (chargeR w rem ns) (chargeE w rem ns) := by
  unfold chargeD chargeR
  by_cases c1 : w < 2
  · have e : chargeE w rem ns = 4 := by simp [chargeE, vrunE_low c1]
    rw [e]; simpa using h1 c1
  by_cases c2 : 262144 < w
  · have e : chargeE w rem ns = 4 := by simp [chargeE, vrunE_high c2]
    rw [e]; simpa using h2 c2
  by_cases c3 : rem < w
  · by_cases c4 : ns ≤ 1000000000
    · have e : chargeE w rem ns = 0 := by simp [chargeE, vrunE_ok (Int.not_lt.1 c1) (Int.not_lt.1 c2) c3, c4]
      rw [e]; simpa using h5 (by omega) (by omega) c3 c4
    · have e : chargeE w rem ns = 8 := by simp [chargeE, vrunE_ok (Int.not_lt.1 c1) (Int.not_lt.1 c2) c3, c4]
      rw [e]; simpa using h4 (by omega) (by omega) c3 c4
  · have e : chargeE w rem ns = 1 := by simp [chargeE, vrunE_arg (Int.not_lt.1 c1) (Int.not_lt.1 c2) (Int.not_lt.1 c3)]
    rw [e]; simpa using h3 (by omega) (by omega) c3
theorem charge_any (w rem ns : Int) (W : World) (h0 : 0 ≤ w) (h4 : 0 ≤ rem) (h5 : 0 ≤ ns) :
    Calls Try.prog 11 #[.int .u64 w, .int .u64 rem, .int .u64 ns] W fun e W' => e = .returned (.tuple #[.int .i64 (chargeD w rem ns), .int .u64 (chargeR w rem ns), .int .i64 (chargeE w rem ns)]) ∧ ∃ n, W.drewN n = W' := by
  apply charge_ways (P := fun d r c => Calls Try.prog 11 #[.int .u64 w, .int .u64 rem, .int .u64 ns] W fun e W' => e = .returned (.tuple #[.int .i64 d, .int .u64 r, .int .i64 c]) ∧ ∃ n, W.drewN n = W')
  · exact fun h => charge_low w rem ns W h
  · exact fun h => charge_high w rem ns W h
  · exact fun a b c => charge_arg w rem ns W a b (by omega)
  · exact fun a b c d => charge_tick w rem ns W a b c (by omega)
  · exact fun a b c d => charge_ok w rem ns W a b c h4 h5 d

theorem may_yes (w : Int) (W : World) (h1 : 2 ≤ w) (h2 : w ≤ 262144) :
    Calls Try.prog 17 #[.int .u64 w] W fun e W' => e = .returned (.bool true) ∧ W = W' := by
  go_enter Try.func17, Try.ntmps17
  go_wp2
  go_ret
  exact ⟨rfl, rfl⟩
theorem may_low (w : Int) (W : World) (h1 : w < 2) :
    Calls Try.prog 17 #[.int .u64 w] W fun e W' => e = .returned (.bool false) ∧ W = W' := by
  go_enter Try.func17, Try.ntmps17
  go_wp2
  go_ret
  exact ⟨rfl, rfl⟩
theorem may_high (w : Int) (W : World) (h1 : 262144 < w) :
    Calls Try.prog 17 #[.int .u64 w] W fun e W' => e = .returned (.bool false) ∧ W = W' := by
  have hd : decide (w ≤ 262144) = false := decide_eq_false (by omega)
  go_enter Try.func17, Try.ntmps17
  go_wp2
  go_ret
  exact ⟨rfl, rfl⟩
theorem refcharge_low (w rem ns : Int) (W : World) (h1 : w < 2) :
    Calls Try.prog 12 #[.int .u64 w, .int .u64 rem, .int .u64 ns] W fun e W' => e = .returned (.tuple #[.int .i64 0, .int .u64 0, .int .i64 4]) ∧ ∃ n, W.drewN n = W' := by
  go_enter Try.func12, Try.ntmps12
  go_wp2_with (go_at_call 17; refine (may_low _ _ h1).mono ?_; rintro e w' ⟨rfl, rfl⟩)
  go_ret3
  exact ⟨rfl, 0, rfl⟩
theorem refcharge_high (w rem ns : Int) (W : World) (h1 : 262144 < w) :
    Calls Try.prog 12 #[.int .u64 w, .int .u64 rem, .int .u64 ns] W fun e W' => e = .returned (.tuple #[.int .i64 0, .int .u64 0, .int .i64 4]) ∧ ∃ n, W.drewN n = W' := by
  go_enter Try.func12, Try.ntmps12
  go_wp2_with (go_at_call 17; refine (may_high _ _ h1).mono ?_; rintro e w' ⟨rfl, rfl⟩)
  go_ret3
  exact ⟨rfl, 0, rfl⟩
theorem refcharge_arg (w rem ns : Int) (W : World) (h1 : 2 ≤ w) (h2 : w ≤ 262144) (h3 : w ≤ rem) :
    Calls Try.prog 12 #[.int .u64 w, .int .u64 rem, .int .u64 ns] W fun e W' => e = .returned (.tuple #[.int .i64 0, .int .u64 0, .int .i64 1]) ∧ ∃ n, W.drewN n = W' := by
  go_enter Try.func12, Try.ntmps12
  go_wp2_with (go_at_call 17; refine (may_yes _ _ h1 h2).mono ?_; rintro e w' ⟨rfl, rfl⟩)
  go_ret3
  exact ⟨rfl, 0, rfl⟩
theorem refcharge_tick (w rem ns : Int) (W : World) (h1 : 2 ≤ w) (h2 : w ≤ 262144) (h3 : rem < w) (h6 : 1000000000 < ns) :
    Calls Try.prog 12 #[.int .u64 w, .int .u64 rem, .int .u64 ns] W fun e W' => e = .returned (.tuple #[.int .i64 0, .int .u64 0, .int .i64 8]) ∧ ∃ n, W.drewN n = W' := by
  go_enter Try.func12, Try.ntmps12
  go_wp2_with (go_at_call 17; refine (may_yes _ _ h1 h2).mono ?_; rintro e w' ⟨rfl, rfl⟩)
  go_ret3
  exact ⟨rfl, 0, rfl⟩
theorem refcharge_ok (w rem ns : Int) (W : World) (h1 : 2 ≤ w) (h2 : w ≤ 262144) (h3 : rem < w) (h4 : 0 ≤ rem) (h5 : 0 ≤ ns) (h6 : ns ≤ 1000000000) :
    Calls Try.prog 12 #[.int .u64 w, .int .u64 rem, .int .u64 ns] W fun e W' => e = .returned (.tuple #[.int .i64 ((rem + ns * 1024) / w), .int .u64 ((rem + ns * 1024) % w), .int .i64 0]) ∧ ∃ n, W.drewN n = W' := by
  rw [Int.mul_comm ns 1024]
  have q0 : 0 ≤ (rem + 1024 * ns) / w := Int.ediv_nonneg (by omega) (by omega)
  have q1 : (rem + 1024 * ns) / w ≤ rem + 1024 * ns := Int.ediv_le_self _ (by omega)
  go_enter Try.func12, Try.ntmps12
  go_wp2_with (go_at_call 17; refine (may_yes _ _ h1 h2).mono ?_; rintro e w' ⟨rfl, rfl⟩)
  go_quiet (fail)
  go_wp2
  go_ret3
  exact ⟨rfl, _, rfl⟩
theorem refcharge_any (w rem ns : Int) (W : World) (h0 : 0 ≤ w) (h4 : 0 ≤ rem) (h5 : 0 ≤ ns) :
    Calls Try.prog 12 #[.int .u64 w, .int .u64 rem, .int .u64 ns] W fun e W' => e = .returned (.tuple #[.int .i64 (chargeD w rem ns), .int .u64 (chargeR w rem ns), .int .i64 (chargeE w rem ns)]) ∧ ∃ n, W.drewN n = W' := by
  apply charge_ways (P := fun d r c => Calls Try.prog 12 #[.int .u64 w, .int .u64 rem, .int .u64 ns] W fun e W' => e = .returned (.tuple #[.int .i64 d, .int .u64 r, .int .i64 c]) ∧ ∃ n, W.drewN n = W')
  · exact fun h => refcharge_low w rem ns W h
  · exact fun h => refcharge_high w rem ns W h
  · exact fun a b c => refcharge_arg w rem ns W a b (by omega)
  · exact fun a b c d => refcharge_tick w rem ns W a b c (by omega)
  · exact fun a b c d => refcharge_ok w rem ns W a b c h4 h5 d
theorem need_low (w rem dv : Int) (W : World) (h1 : w < 2) :
    Calls Try.prog 13 #[.int .u64 w, .int .u64 rem, .int .i64 dv] W fun e W' => e = .returned (.tuple #[.int .u64 0, .int .i64 4]) ∧ ∃ n, W.drewN n = W' := by
  go_enter Try.func13, Try.ntmps13
  go_wp2_with (go_at_call 16; refine (check_low _ _ _ h1).mono ?_; rintro e w' ⟨rfl, rfl⟩)
  go_ret2
  exact ⟨rfl, 0, rfl⟩
theorem refneed_low (w rem dv : Int) (W : World) (h1 : w < 2) :
    Calls Try.prog 14 #[.int .u64 w, .int .u64 rem, .int .i64 dv] W fun e W' => e = .returned (.tuple #[.int .u64 0, .int .i64 4]) ∧ ∃ n, W.drewN n = W' := by
  go_enter Try.func14, Try.ntmps14
  go_wp2_with (go_at_call 17; refine (may_low _ _ h1).mono ?_; rintro e w' ⟨rfl, rfl⟩)
  go_ret2
  exact ⟨rfl, 0, rfl⟩
theorem need_high (w rem dv : Int) (W : World) (h1 : 262144 < w) :
    Calls Try.prog 13 #[.int .u64 w, .int .u64 rem, .int .i64 dv] W fun e W' => e = .returned (.tuple #[.int .u64 0, .int .i64 4]) ∧ ∃ n, W.drewN n = W' := by
  go_enter Try.func13, Try.ntmps13
  go_wp2_with (go_at_call 16; refine (check_high _ _ _ h1).mono ?_; rintro e w' ⟨rfl, rfl⟩)
  go_ret2
  exact ⟨rfl, 0, rfl⟩
theorem refneed_high (w rem dv : Int) (W : World) (h1 : 262144 < w) :
    Calls Try.prog 14 #[.int .u64 w, .int .u64 rem, .int .i64 dv] W fun e W' => e = .returned (.tuple #[.int .u64 0, .int .i64 4]) ∧ ∃ n, W.drewN n = W' := by
  go_enter Try.func14, Try.ntmps14
  go_wp2_with (go_at_call 17; refine (may_high _ _ h1).mono ?_; rintro e w' ⟨rfl, rfl⟩)
  go_ret2
  exact ⟨rfl, 0, rfl⟩
theorem need_arg (w rem dv : Int) (W : World) (h1 : 2 ≤ w) (h2 : w ≤ 262144) (h3 : w ≤ rem) :
    Calls Try.prog 13 #[.int .u64 w, .int .u64 rem, .int .i64 dv] W fun e W' => e = .returned (.tuple #[.int .u64 0, .int .i64 1]) ∧ ∃ n, W.drewN n = W' := by
  go_enter Try.func13, Try.ntmps13
  go_wp2_with (go_at_call 16; refine (check_arg _ _ _ h1 h2 h3).mono ?_; rintro e w' ⟨rfl, rfl⟩)
  go_ret2
  exact ⟨rfl, 0, rfl⟩
theorem refneed_arg (w rem dv : Int) (W : World) (h1 : 2 ≤ w) (h2 : w ≤ 262144) (h3 : w ≤ rem) :
    Calls Try.prog 14 #[.int .u64 w, .int .u64 rem, .int .i64 dv] W fun e W' => e = .returned (.tuple #[.int .u64 0, .int .i64 1]) ∧ ∃ n, W.drewN n = W' := by
  go_enter Try.func14, Try.ntmps14
  go_wp2_with (go_at_call 17; refine (may_yes _ _ h1 h2).mono ?_; rintro e w' ⟨rfl, rfl⟩)
  go_ret2
  exact ⟨rfl, 0, rfl⟩
theorem need_neg (w rem dv : Int) (W : World) (h1 : 2 ≤ w) (h2 : w ≤ 262144) (h3 : rem < w) (h6 : dv < 0) :
    Calls Try.prog 13 #[.int .u64 w, .int .u64 rem, .int .i64 dv] W fun e W' => e = .returned (.tuple #[.int .u64 0, .int .i64 1]) ∧ ∃ n, W.drewN n = W' := by
  go_enter Try.func13, Try.ntmps13
  go_wp2_with (go_at_call 16; refine (check_ok _ _ _ h1 h2 h3).mono ?_; rintro e w' ⟨rfl, rfl⟩)
  go_ret2
  exact ⟨rfl, 0, rfl⟩
theorem refneed_neg (w rem dv : Int) (W : World) (h1 : 2 ≤ w) (h2 : w ≤ 262144) (h3 : rem < w) (h6 : dv < 0) :
    Calls Try.prog 14 #[.int .u64 w, .int .u64 rem, .int .i64 dv] W fun e W' => e = .returned (.tuple #[.int .u64 0, .int .i64 1]) ∧ ∃ n, W.drewN n = W' := by
  go_enter Try.func14, Try.ntmps14
  go_wp2_with (go_at_call 17; refine (may_yes _ _ h1 h2).mono ?_; rintro e w' ⟨rfl, rfl⟩)
  go_ret2
  exact ⟨rfl, 0, rfl⟩
theorem need_far (w rem dv : Int) (W : World) (h1 : 2 ≤ w) (h2 : w ≤ 262144) (h3 : rem < w) (h6 : 1099511627776 < dv) :
    Calls Try.prog 13 #[.int .u64 w, .int .u64 rem, .int .i64 dv] W fun e W' => e = .returned (.tuple #[.int .u64 0, .int .i64 1]) ∧ ∃ n, W.drewN n = W' := by
  go_enter Try.func13, Try.ntmps13
  go_wp2_with (go_at_call 16; refine (check_ok _ _ _ h1 h2 h3).mono ?_; rintro e w' ⟨rfl, rfl⟩)
  go_ret2
  exact ⟨rfl, 0, rfl⟩
theorem refneed_far (w rem dv : Int) (W : World) (h1 : 2 ≤ w) (h2 : w ≤ 262144) (h3 : rem < w) (h6 : 1099511627776 < dv) :
    Calls Try.prog 14 #[.int .u64 w, .int .u64 rem, .int .i64 dv] W fun e W' => e = .returned (.tuple #[.int .u64 0, .int .i64 1]) ∧ ∃ n, W.drewN n = W' := by
  go_enter Try.func14, Try.ntmps14
  go_wp2_with (go_at_call 17; refine (may_yes _ _ h1 h2).mono ?_; rintro e w' ⟨rfl, rfl⟩)
  go_ret2
  exact ⟨rfl, 0, rfl⟩
theorem need_bound (w dv : Int) (h1 : 2 ≤ w) (h2 : w ≤ 262144) (h5 : 0 ≤ dv) (h6 : dv ≤ 1099511627776) : 0 ≤ dv * w ∧ dv * w ≤ 288230376151711744 :=
  ⟨Int.mul_nonneg h5 (by omega), Int.le_trans (Int.mul_le_mul h6 h2 (by omega) (by omega)) (by decide)⟩
theorem ret_ui {a b c : Int} (h : a = b) : Ending.returned (.tuple #[.int .u64 a, .int .i64 c]) = .returned (.tuple #[.int .u64 b, .int .i64 c]) := by rw [h]
theorem need_none (w rem dv : Int) (W : World) (h1 : 2 ≤ w) (h2 : w ≤ 262144) (h3 : rem < w) (h4 : 0 ≤ rem) (h5 : 0 ≤ dv) (h6 : dv ≤ 1099511627776) (h7 : dv * w ≤ rem) :
    Calls Try.prog 13 #[.int .u64 w, .int .u64 rem, .int .i64 dv] W fun e W' => e = .returned (.tuple #[.int .u64 0, .int .i64 0]) ∧ ∃ n, W.drewN n = W' := by
  obtain ⟨b0, b1⟩ := need_bound w dv h1 h2 h5 h6
  rcases Int.lt_or_eq_of_le h7 with h8 | h8
  · go_enter Try.func13, Try.ntmps13
    go_wp2_with (go_at_call 16; refine (check_ok _ _ _ h1 h2 h3).mono ?_; rintro e w' ⟨rfl, rfl⟩)
    go_ret2
    exact ⟨ret_ui (by omega), 0, rfl⟩
  · have h9 : ¬ rem < dv * w := by omega
    have h10 : rem ≤ dv * w := by omega
    clear h8
    go_enter Try.func13, Try.ntmps13
    go_wp2_with (go_at_call 16; refine (check_ok _ _ _ h1 h2 h3).mono ?_; rintro e w' ⟨rfl, rfl⟩)
    go_ret2
    exact ⟨ret_ui (by omega), 0, rfl⟩
theorem need_some (w rem dv : Int) (W : World) (h1 : 2 ≤ w) (h2 : w ≤ 262144) (h3 : rem < w) (h4 : 0 ≤ rem) (h5 : 0 ≤ dv) (h6 : dv ≤ 1099511627776) (h7 : rem < dv * w) :
    Calls Try.prog 13 #[.int .u64 w, .int .u64 rem, .int .i64 dv] W fun e W' => e = .returned (.tuple #[.int .u64 ((dv * w - rem + 1023) / 1024), .int .i64 0]) ∧ ∃ n, W.drewN n = W' := by
  obtain ⟨b0, b1⟩ := need_bound w dv h1 h2 h5 h6
  go_enter Try.func13, Try.ntmps13
  go_wp2_with (go_at_call 16; refine (check_ok _ _ _ h1 h2 h3).mono ?_; rintro e w' ⟨rfl, rfl⟩)
  go_ret2
  exact ⟨ret_ui (by omega), 0, rfl⟩
theorem refneed_none (w rem dv : Int) (W : World) (h1 : 2 ≤ w) (h2 : w ≤ 262144) (h3 : rem < w) (h4 : 0 ≤ rem) (h5 : 0 ≤ dv) (h6 : dv ≤ 1099511627776) (h7 : dv * w ≤ rem) :
    Calls Try.prog 14 #[.int .u64 w, .int .u64 rem, .int .i64 dv] W fun e W' => e = .returned (.tuple #[.int .u64 0, .int .i64 0]) ∧ ∃ n, W.drewN n = W' := by
  obtain ⟨b0, b1⟩ := need_bound w dv h1 h2 h5 h6
  go_enter Try.func14, Try.ntmps14
  go_wp2_with (go_at_call 17; refine (may_yes _ _ h1 h2).mono ?_; rintro e w' ⟨rfl, rfl⟩)
  go_ret2
  exact ⟨ret_ui (by omega), 0, rfl⟩
theorem refneed_some (w rem dv : Int) (W : World) (h1 : 2 ≤ w) (h2 : w ≤ 262144) (h3 : rem < w) (h4 : 0 ≤ rem) (h5 : 0 ≤ dv) (h6 : dv ≤ 1099511627776) (h7 : rem < dv * w) :
    Calls Try.prog 14 #[.int .u64 w, .int .u64 rem, .int .i64 dv] W fun e W' => e = .returned (.tuple #[.int .u64 ((dv * w - rem + 1023) / 1024), .int .i64 0]) ∧ ∃ n, W.drewN n = W' := by
  obtain ⟨b0, b1⟩ := need_bound w dv h1 h2 h5 h6
  by_cases h8 : 1024 * ((dv * w - rem) / 1024) + rem < dv * w
  · go_enter Try.func14, Try.ntmps14
    go_wp2_with (go_at_call 17; refine (may_yes _ _ h1 h2).mono ?_; rintro e w' ⟨rfl, rfl⟩)
    go_ret2
    exact ⟨ret_ui (by omega), 0, rfl⟩
  · go_enter Try.func14, Try.ntmps14
    go_wp2_with (go_at_call 17; refine (may_yes _ _ h1 h2).mono ?_; rintro e w' ⟨rfl, rfl⟩)
    go_ret2
    exact ⟨ret_ui (by omega), 0, rfl⟩

theorem need_ways {P : Int → Int → Prop} (w rem dv : Int) (h1 : w < 2 → P 0 4) (h2 : 262144 < w → P 0 4) (h3 : 2 ≤ w → w ≤ 262144 → w ≤ rem → P 0 1) (h4 : 2 ≤ w → w ≤ 262144 → rem < w → dv < 0 → P 0 1)
    (h5 : 2 ≤ w → w ≤ 262144 → rem < w → 1099511627776 < dv → P 0 1) (h6 : 2 ≤ w → w ≤ 262144 → rem < w → 0 ≤ dv → dv ≤ 1099511627776 → dv * w ≤ rem → P 0 0)
    (h7 : 2 ≤ w → w ≤ 262144 → rem < w → 0 ≤ dv → dv ≤ 1099511627776 → rem < dv * w → P ((dv * w - rem + 1023) / 1024) 0) : P (needN w rem dv) (needE w rem dv) := by
  unfold needN
  by_cases c1 : w < 2
  · have e : needE w rem dv = 4 := by simp [needE, vrunE_low c1]
    rw [e]; simpa using h1 c1
  by_cases c2 : 262144 < w
  · have e : needE w rem dv = 4 := by simp [needE, vrunE_high c2]
    rw [e]; simpa using h2 c2
  by_cases c3 : rem < w
  · have e0 := vrunE_ok (Int.not_lt.1 c1) (Int.not_lt.1 c2) c3
    by_cases c4 : dv < 0
    · have e : needE w rem dv = 1 := by simp [needE, e0, c4]
      rw [e]; simpa using h4 (by omega) (by omega) c3 c4
    · by_cases c5 : 1099511627776 < dv
      · have e : needE w rem dv = 1 := by simp [needE, e0, c4, c5]
        rw [e]; simpa using h5 (by omega) (by omega) c3 c5
      · have e : needE w rem dv = 0 := by simp [needE, e0, c4, c5]
        rw [e, if_pos rfl]
        unfold needV
        by_cases c6 : dv * w ≤ rem
        · rw [if_pos c6]; exact h6 (by omega) (by omega) c3 (by omega) (by omega) c6
        · rw [if_neg c6]; exact h7 (by omega) (by omega) c3 (by omega) (by omega) (by omega)
  · have e : needE w rem dv = 1 := by simp [needE, vrunE_arg (Int.not_lt.1 c1) (Int.not_lt.1 c2) (Int.not_lt.1 c3)]
    rw [e]; simpa using h3 (by omega) (by omega) (by omega)
theorem need_any (w rem dv : Int) (W : World) (h0 : 0 ≤ rem) :
    Calls Try.prog 13 #[.int .u64 w, .int .u64 rem, .int .i64 dv] W fun e W' => e = .returned (.tuple #[.int .u64 (needN w rem dv), .int .i64 (needE w rem dv)]) ∧ ∃ n, W.drewN n = W' := by
  apply need_ways (P := fun d c => Calls Try.prog 13 #[.int .u64 w, .int .u64 rem, .int .i64 dv] W fun e W' => e = .returned (.tuple #[.int .u64 d, .int .i64 c]) ∧ ∃ n, W.drewN n = W')
  · exact fun a => need_low w rem dv W a
  · exact fun a => need_high w rem dv W a
  · exact fun a b c => need_arg w rem dv W a b c
  · exact fun a b c d => need_neg w rem dv W a b c d
  · exact fun a b c d => need_far w rem dv W a b c d
  · exact fun a b c d e f => need_none w rem dv W a b c h0 d e f
  · exact fun a b c d e f => need_some w rem dv W a b c h0 d e f
theorem refneed_any (w rem dv : Int) (W : World) (h0 : 0 ≤ rem) :
    Calls Try.prog 14 #[.int .u64 w, .int .u64 rem, .int .i64 dv] W fun e W' => e = .returned (.tuple #[.int .u64 (needN w rem dv), .int .i64 (needE w rem dv)]) ∧ ∃ n, W.drewN n = W' := by
  apply need_ways (P := fun d c => Calls Try.prog 14 #[.int .u64 w, .int .u64 rem, .int .i64 dv] W fun e W' => e = .returned (.tuple #[.int .u64 d, .int .i64 c]) ∧ ∃ n, W.drewN n = W')
  · exact fun a => refneed_low w rem dv W a
  · exact fun a => refneed_high w rem dv W a
  · exact fun a b c => refneed_arg w rem dv W a b c
  · exact fun a b c d => refneed_neg w rem dv W a b c d
  · exact fun a b c d => refneed_far w rem dv W a b c d
  · exact fun a b c d e f => refneed_none w rem dv W a b c h0 d e f
  · exact fun a b c d e f => refneed_some w rem dv W a b c h0 d e f

/-- what a charge is: it goes on by d, and r is left over -/
structure ChargeIs (w rem ns d r : Int) : Prop where
  sum : d * w + r = rem + ns * 1024
  pos : 0 ≤ d
  rest : 0 ≤ r
  less : r < w
theorem charge_is (w rem ns : Int) (W : World) (h1 : 2 ≤ w) (h2 : w ≤ 262144) (h3 : rem < w) (h4 : 0 ≤ rem) (h5 : 0 ≤ ns) (h6 : ns ≤ 1000000000) :
    Calls Try.prog 11 #[.int .u64 w, .int .u64 rem, .int .u64 ns] W fun e W' => ∃ d r : Int, e = .returned (.tuple #[.int .i64 d, .int .u64 r, .int .i64 0]) ∧ ChargeIs w rem ns d r ∧ ∃ n, W.drewN n = W' :=
  (charge_ok w rem ns W h1 h2 h3 h4 h5 h6).mono fun e W' ⟨he, hw⟩ => ⟨_, _, he, ⟨Int.ediv_mul_add_emod _ _, Int.ediv_nonneg (by omega) (by omega), Int.emod_nonneg _ (by omega), Int.emod_lt_of_pos _ (by omega)⟩, hw⟩
/-- what is needed: n nanoseconds are enough for dv, and one less is not -/
structure NeedIs (w rem dv n : Int) : Prop where
  pos : 0 ≤ n
  enough : dv * w ≤ rem + n * 1024
  less : 1 ≤ n → rem + (n - 1) * 1024 < dv * w
theorem need_is (w rem dv : Int) (W : World) (h1 : 2 ≤ w) (h2 : w ≤ 262144) (h3 : rem < w) (h4 : 0 ≤ rem) (h5 : 0 ≤ dv) (h6 : dv ≤ 1099511627776) :
    Calls Try.prog 13 #[.int .u64 w, .int .u64 rem, .int .i64 dv] W fun e W' => ∃ n : Int, e = .returned (.tuple #[.int .u64 n, .int .i64 0]) ∧ NeedIs w rem dv n ∧ ∃ n, W.drewN n = W' := by
  by_cases h7 : dv * w ≤ rem
  · exact (need_none w rem dv W h1 h2 h3 h4 h5 h6 h7).mono fun e W' ⟨he, hw⟩ => ⟨_, he, ⟨by omega, by omega, by omega⟩, hw⟩
  · exact (need_some w rem dv W h1 h2 h3 h4 h5 h6 (by omega)).mono fun e W' ⟨he, hw⟩ => ⟨_, he, ⟨by omega, by omega, by omega⟩, hw⟩

theorem grown_drewN {w w' : World} (h : Grown w w') (n : Nat) : Grown w (w'.drewN n) := h
theorem weight_is (a b : Int) (W : World) (ha : 0 ≤ a) (hb : 0 ≤ b) (ha2 : a ≤ 4294967295) (hb2 : b ≤ 4294967295) :
    Calls Try.prog 15 #[.int .u32 a, .int .u32 b] W fun e W' => e = .returned (.tuple #[.int .u64 (2 + a % 262143), .int .u64 (b % (2 + a % 262143))]) ∧ ∃ n, W.drewN n = W' := by
  go_enter Try.func15, Try.ntmps15
  go_wp2
  go_quiet (fail)
  go_wp2
  go_ret2
  exact ⟨rfl, _, rfl⟩
theorem weight_ex (a b : Int) (W : World) (ha : 0 ≤ a) (hb : 0 ≤ b) (ha2 : a ≤ 4294967295) (hb2 : b ≤ 4294967295) :
    Calls Try.prog 15 #[.int .u32 a, .int .u32 b] W fun e W' => ∃ x r : Int, e = .returned (.tuple #[.int .u64 x, .int .u64 r]) ∧ 2 ≤ x ∧ x ≤ 262144 ∧ 0 ≤ r ∧ r < x ∧ ∃ n, W.drewN n = W' :=
  (weight_is a b W ha hb ha2 hb2).mono fun e W' ⟨he, hw⟩ => ⟨_, _, he, by omega, by omega, Int.emod_nonneg _ (by omega), Int.emod_lt_of_pos _ (by omega), hw⟩

theorem awake (W : World) : Calls Try.prog 10 #[] W fun e W' => e = .returned (.bool true) ∧ ∃ n, W.drewN n = W' := by
  go_enter Try.func10, Try.ntmps10
  go_wp2_with fail
  refine (charge_ok 3 0 1 _ (by decide) (by decide) (by decide) (by decide) (by decide) (by decide)).mono ?_
  rintro e w' ⟨rfl, n, rfl⟩
  go_wp2_with fail
  refine (need_some 3 0 342 _ (by decide) (by decide) (by decide) (by decide) (by decide) (by decide) (by decide)).mono ?_
  rintro e w' ⟨rfl, m, rfl⟩
  go_wp2
  go_ret
  exact ⟨rfl, _, rfl⟩
end Go.Proofs.Ytbmpepimldjmhaa
