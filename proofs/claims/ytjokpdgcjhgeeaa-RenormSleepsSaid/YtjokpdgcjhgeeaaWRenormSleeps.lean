/- The walk of the law RenormSleeps: it returns true. Conditions: the arguments are numbers that their kinds hold. -/
import Derived.Test.YtjokpdgcjhgeeaaAwake
namespace Go.Proofs.Ytjokpdgcjhgeeaa
open Go Go.RowKit Go.ChangeShapes Go.WideShapes
set_option linter.unusedVariables false

theorem holdV_mid (c : Int) (h : 0 ≤ c ∧ c ≤ 65535) : holdV c 0 1099511627776 = c := by unfold holdV; rw [if_neg (by omega), if_neg (by omega)]
theorem holdV_neg (c : Int) (h : 0 ≤ c ∧ c ≤ 65535) : holdV (-c) 0 1099511627776 = 0 := by unfold holdV; split <;> (try split) <;> omega
theorem wake_far (own m c : Int) (w : World) (hm : -9223372036854775808 ≤ m ∧ m ≤ 9223372036854775807) (hl : -9223372036854775808 ≤ m - c ∧ m - c ≤ 9223372036854775807) (hc : 0 ≤ c ∧ c ≤ 65535) (h : m - c ≤ own) :
    Calls Try.prog 16 #[.int .i64 own, .int .i64 m, .int .i64 c] w fun e w' => e = .returned (.int .i64 own) ∧ Below w.heap.size w w' := by
  have g := wake_any own m c w hm (by omega)
  unfold wakeV at g
  rw [holdV_mid c hc, lessV_yes hl] at g
  by_cases e : m - c < own
  · rwa [if_pos e] at g
  · rw [if_neg e] at g
    rwa [show m - c = own by omega] at g
theorem wake_near (own m c : Int) (w : World) (hm : -9223372036854775808 ≤ m ∧ m ≤ 9223372036854775807) (hl : -9223372036854775808 ≤ m - c ∧ m - c ≤ 9223372036854775807) (hc : 0 ≤ c ∧ c ≤ 65535) (h : own < m - c) :
    Calls Try.prog 16 #[.int .i64 own, .int .i64 m, .int .i64 c] w fun e w' => e = .returned (.int .i64 (m - c)) ∧ Below w.heap.size w w' := by
  have g := wake_any own m c w hm (by omega)
  unfold wakeV at g
  rwa [holdV_mid c hc, lessV_yes hl, if_neg (by omega)] at g
theorem wake_none (own m c : Int) (w : World) (hm : -9223372036854775808 ≤ m ∧ m ≤ 9223372036854775807) (hc : 0 ≤ c ∧ c ≤ 65535) :
    Calls Try.prog 16 #[.int .i64 own, .int .i64 m, .int .i64 (-c)] w fun e w' => e = .returned (.int .i64 (if m < own then own else m)) ∧ Below w.heap.size w w' := by
  have g := wake_any own m (-c) w hm (by omega)
  unfold wakeV at g
  rwa [holdV_neg c hc, lessV_yes (by omega), Int.sub_zero] at g
set_option maxHeartbeats 1000000 in
theorem walk_RenormSleeps (a m c : Int) (w : World) (ha : -2147483648 ≤ a ∧ a ≤ 2147483647) (hm : -2147483648 ≤ m ∧ m ≤ 2147483647) (hc : 0 ≤ c ∧ c ≤ 65535) :
    Calls Try.prog 7 #[.int .i32 a, .int .i32 m, .int .u16 c] w fun e w' => e = .returned (.bool true) ∧ Below w.heap.size w w' := by
  rcases Int.lt_trichotomy a m with k | k | k
  · by_cases h : m - c ≤ a
    · go_enter Try.func7, Try.ntmps7
      go_wp2_with fail
      refine (awake _).mono ?_
      rintro e w' ⟨rfl, b0⟩
      go_wp2_with fail
      refine (wake_far a m c _ (by omega) (by omega) hc (by omega)).mono ?_
      rintro e w' ⟨rfl, b1⟩
      go_wp2_with fail
      refine (wake_far a m c _ (by omega) (by omega) hc (by omega)).mono ?_
      rintro e w' ⟨rfl, b2⟩
      go_wp2_with fail
      refine (wake_none _ _ _ _ (by omega) hc).mono ?_
      rintro e w' ⟨rfl, b3⟩
      rw [if_neg (by omega)]
      go_wp2
      go_ret
      exact ⟨rfl, (below_trans (below_trans (below_trans b0 b1 b0.size) b2 (below_trans b0 b1 b0.size).size) b3 (below_trans (below_trans b0 b1 b0.size) b2 (below_trans b0 b1 b0.size).size).size)⟩
    · go_enter Try.func7, Try.ntmps7
      go_wp2_with fail
      refine (awake _).mono ?_
      rintro e w' ⟨rfl, b0⟩
      go_wp2_with fail
      refine (wake_near a m c _ (by omega) (by omega) hc (by omega)).mono ?_
      rintro e w' ⟨rfl, b1⟩
      go_wp2_with fail
      refine (wake_far (m - c) m c _ (by omega) (by omega) hc (by omega)).mono ?_
      rintro e w' ⟨rfl, b2⟩
      go_wp2_with fail
      refine (wake_none _ _ _ _ (by omega) hc).mono ?_
      rintro e w' ⟨rfl, b3⟩
      rw [if_neg (by omega)]
      go_wp2
      go_ret
      exact ⟨rfl, (below_trans (below_trans (below_trans b0 b1 b0.size) b2 (below_trans b0 b1 b0.size).size) b3 (below_trans (below_trans b0 b1 b0.size) b2 (below_trans b0 b1 b0.size).size).size)⟩
  · subst k
    go_enter Try.func7, Try.ntmps7
    go_wp2_with fail
    refine (awake _).mono ?_
    rintro e w' ⟨rfl, b0⟩
    go_wp2_with fail
    refine (wake_far a a c _ (by omega) (by omega) hc (by omega)).mono ?_
    rintro e w' ⟨rfl, b1⟩
    go_wp2_with fail
    refine (wake_far a a c _ (by omega) (by omega) hc (by omega)).mono ?_
    rintro e w' ⟨rfl, b2⟩
    go_wp2_with fail
    refine (wake_none _ _ _ _ (by omega) hc).mono ?_
    rintro e w' ⟨rfl, b3⟩
    rw [if_neg (by omega)]
    go_wp2
    go_ret
    exact ⟨rfl, (below_trans (below_trans (below_trans b0 b1 b0.size) b2 (below_trans b0 b1 b0.size).size) b3 (below_trans (below_trans b0 b1 b0.size) b2 (below_trans b0 b1 b0.size).size).size)⟩
  · go_enter Try.func7, Try.ntmps7
    go_wp2_with fail
    refine (awake _).mono ?_
    rintro e w' ⟨rfl, b0⟩
    go_wp2_with fail
    refine (wake_far a m c _ (by omega) (by omega) hc (by omega)).mono ?_
    rintro e w' ⟨rfl, b1⟩
    go_wp2_with fail
    refine (wake_far a m c _ (by omega) (by omega) hc (by omega)).mono ?_
    rintro e w' ⟨rfl, b2⟩
    go_wp2_with fail
    refine (wake_none _ _ _ _ (by omega) hc).mono ?_
    rintro e w' ⟨rfl, b3⟩
    rw [if_pos (by omega)]
    go_wp2
    go_ret
    exact ⟨rfl, (below_trans (below_trans (below_trans b0 b1 b0.size) b2 (below_trans b0 b1 b0.size).size) b3 (below_trans (below_trans b0 b1 b0.size) b2 (below_trans b0 b1 b0.size).size).size)⟩
end Go.Proofs.Ytjokpdgcjhgeeaa
