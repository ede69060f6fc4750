/- Contracts of package fix and of the reference doleref01 by one value function each: Add, Sub, Sat, Less, Hold. Conditions: the arguments are numbers that int64 holds. -/
import Derived.Test.YtjokpdgcjhgeeaaFix
namespace Go.Proofs.Ytjokpdgcjhgeeaa
open Go Go.RowKit Go.ChangeShapes Go.WideShapes

/-- does int64 hold it? -/
def fitB (n : Int) : Bool := decide (-9223372036854775808 ≤ n ∧ n ≤ 9223372036854775807)
/-- itself, or 0 -/
def fitV (n : Int) : Int := if fitB n then n else 0
theorem fitB_yes {n : Int} (h : -9223372036854775808 ≤ n ∧ n ≤ 9223372036854775807) : fitB n = true := by simp [fitB, h]
theorem fitB_no {n : Int} (h : ¬ (-9223372036854775808 ≤ n ∧ n ≤ 9223372036854775807)) : fitB n = false := by simp only [fitB, decide_eq_false_iff_not]; exact h
theorem fitV_yes {n : Int} (h : -9223372036854775808 ≤ n ∧ n ≤ 9223372036854775807) : fitV n = n := by simp [fitV, fitB_yes h]
theorem fitV_no {n : Int} (h : ¬ (-9223372036854775808 ≤ n ∧ n ≤ 9223372036854775807)) : fitV n = 0 := by simp [fitV, fitB_no h]
/-- a sum, held -/
def satV (a b : Int) : Int := if fitB (a + b) then a + b else if 0 < b then 9223372036854775807 else -9223372036854775808
/-- a difference, held -/
def lessV (a b : Int) : Int := if fitB (a - b) then a - b else if b < 0 then 9223372036854775807 else -9223372036854775808

theorem satV_yes {a b : Int} (h : -9223372036854775808 ≤ a + b ∧ a + b ≤ 9223372036854775807) : satV a b = a + b := by simp [satV, fitB_yes h]
theorem satV_high {a b : Int} (h : ¬ (-9223372036854775808 ≤ a + b ∧ a + b ≤ 9223372036854775807)) (ht : 0 < b) : satV a b = 9223372036854775807 := by simp [satV, fitB_no h, ht]
theorem satV_low {a b : Int} (h : ¬ (-9223372036854775808 ≤ a + b ∧ a + b ≤ 9223372036854775807)) (ht : ¬ 0 < b) : satV a b = -9223372036854775808 := by simp only [satV, fitB_no h, if_neg ht]; rfl

theorem lessV_yes {a b : Int} (h : -9223372036854775808 ≤ a - b ∧ a - b ≤ 9223372036854775807) : lessV a b = a - b := by simp [lessV, fitB_yes h]
theorem lessV_high {a b : Int} (h : ¬ (-9223372036854775808 ≤ a - b ∧ a - b ≤ 9223372036854775807)) (ht : b < 0) : lessV a b = 9223372036854775807 := by simp [lessV, fitB_no h, ht]
theorem lessV_low {a b : Int} (h : ¬ (-9223372036854775808 ≤ a - b ∧ a - b ≤ 9223372036854775807)) (ht : ¬ b < 0) : lessV a b = -9223372036854775808 := by simp only [lessV, fitB_no h, if_neg ht]; rfl

theorem add_any (a b : Int) (w : World) (ha : -9223372036854775808 ≤ a ∧ a ≤ 9223372036854775807) (hb : -9223372036854775808 ≤ b ∧ b ≤ 9223372036854775807) :
    Calls Try.prog 25 #[.int .i64 a, .int .i64 b] w fun e w' => e = .returned (.tuple #[.int .i64 (fitV (a + b)), .bool (fitB (a + b))]) ∧ w = w' := by
  by_cases h : -9223372036854775808 ≤ a + b ∧ a + b ≤ 9223372036854775807
  · rw [fitV_yes h, fitB_yes h]; exact add_yes a b w ha hb h
  · rw [fitV_no h, fitB_no h]; exact add_no a b w ha hb h

theorem sub_any (a b : Int) (w : World) (ha : -9223372036854775808 ≤ a ∧ a ≤ 9223372036854775807) (hb : -9223372036854775808 ≤ b ∧ b ≤ 9223372036854775807) :
    Calls Try.prog 20 #[.int .i64 a, .int .i64 b] w fun e w' => e = .returned (.tuple #[.int .i64 (fitV (a - b)), .bool (fitB (a - b))]) ∧ w = w' := by
  by_cases h : -9223372036854775808 ≤ a - b ∧ a - b ≤ 9223372036854775807
  · rw [fitV_yes h, fitB_yes h]; exact sub_yes a b w ha hb h
  · rw [fitV_no h, fitB_no h]; exact sub_no a b w ha hb h

theorem sat_any (a b : Int) (w : World) (ha : -9223372036854775808 ≤ a ∧ a ≤ 9223372036854775807) (hb : -9223372036854775808 ≤ b ∧ b ≤ 9223372036854775807) :
    Calls Try.prog 26 #[.int .i64 a, .int .i64 b] w fun e w' => e = .returned (.int .i64 (satV a b)) ∧ w' = w.alloc (.cells #[.int .i64 b] 2) := by
  by_cases h : -9223372036854775808 ≤ a + b ∧ a + b ≤ 9223372036854775807
  · rw [satV_yes h]; exact sat_yes a b w ha hb h
  · by_cases ht : 0 < b
    · rw [satV_high h ht]; exact sat_high a b w ha hb h ht
    · rw [satV_low h ht]; exact sat_low a b w ha hb h ht

theorem less_any (a b : Int) (w : World) (ha : -9223372036854775808 ≤ a ∧ a ≤ 9223372036854775807) (hb : -9223372036854775808 ≤ b ∧ b ≤ 9223372036854775807) :
    Calls Try.prog 21 #[.int .i64 a, .int .i64 b] w fun e w' => e = .returned (.int .i64 (lessV a b)) ∧ w' = w.alloc (.cells #[.int .i64 b] 2) := by
  by_cases h : -9223372036854775808 ≤ a - b ∧ a - b ≤ 9223372036854775807
  · rw [lessV_yes h]; exact less_yes a b w ha hb h
  · by_cases ht : b < 0
    · rw [lessV_high h ht]; exact less_high a b w ha hb h ht
    · rw [lessV_low h ht]; exact less_low a b w ha hb h ht

theorem refadd_yes (a b : Int) (w : World) (ha : -9223372036854775808 ≤ a ∧ a ≤ 9223372036854775807) (hb : -9223372036854775808 ≤ b ∧ b ≤ 9223372036854775807) (h : -9223372036854775808 ≤ a + b ∧ a + b ≤ 9223372036854775807) :
    Calls Try.prog 27 #[.int .i64 a, .int .i64 b] w fun e w' => e = .returned (.tuple #[.int .i64 (a + b), .bool true]) ∧ w = w' := by
  rcases Int.lt_trichotomy b 0 with hs | rfl | hs
  · have ht : ¬ a < -9223372036854775808 - b := by omega
    go_enter Try.func27, Try.ntmps27
    go_wp2
    go_ret2
    exact ⟨rfl, rfl⟩
  · go_enter Try.func27, Try.ntmps27
    go_wp2
    go_ret2
    exact ⟨by simp, rfl⟩
  · have ht : ¬ 9223372036854775807 - b < a := by omega
    go_enter Try.func27, Try.ntmps27
    go_wp2
    go_ret2
    exact ⟨rfl, rfl⟩
theorem refadd_no (a b : Int) (w : World) (ha : -9223372036854775808 ≤ a ∧ a ≤ 9223372036854775807) (hb : -9223372036854775808 ≤ b ∧ b ≤ 9223372036854775807) (h : ¬ (-9223372036854775808 ≤ a + b ∧ a + b ≤ 9223372036854775807)) :
    Calls Try.prog 27 #[.int .i64 a, .int .i64 b] w fun e w' => e = .returned (.tuple #[.int .i64 0, .bool false]) ∧ w = w' := by
  rcases Int.lt_trichotomy b 0 with hs | hs | hs
  · have ht : a < -9223372036854775808 - b := by omega
    clear h
    go_enter Try.func27, Try.ntmps27
    go_wp2
    go_ret2
    exact ⟨rfl, rfl⟩
  · exfalso; omega
  · have ht : 9223372036854775807 - b < a := by omega
    clear h
    go_enter Try.func27, Try.ntmps27
    go_wp2
    go_ret2
    exact ⟨rfl, rfl⟩
theorem refadd_any (a b : Int) (w : World) (ha : -9223372036854775808 ≤ a ∧ a ≤ 9223372036854775807) (hb : -9223372036854775808 ≤ b ∧ b ≤ 9223372036854775807) :
    Calls Try.prog 27 #[.int .i64 a, .int .i64 b] w fun e w' => e = .returned (.tuple #[.int .i64 (fitV (a + b)), .bool (fitB (a + b))]) ∧ w = w' := by
  by_cases h : -9223372036854775808 ≤ a + b ∧ a + b ≤ 9223372036854775807
  · rw [fitV_yes h, fitB_yes h]; exact refadd_yes a b w ha hb h
  · rw [fitV_no h, fitB_no h]; exact refadd_no a b w ha hb h

theorem refsub_yes (a b : Int) (w : World) (ha : -9223372036854775808 ≤ a ∧ a ≤ 9223372036854775807) (hb : -9223372036854775808 ≤ b ∧ b ≤ 9223372036854775807) (h : -9223372036854775808 ≤ a - b ∧ a - b ≤ 9223372036854775807) :
    Calls Try.prog 23 #[.int .i64 a, .int .i64 b] w fun e w' => e = .returned (.tuple #[.int .i64 (a - b), .bool true]) ∧ w = w' := by
  rcases Int.lt_trichotomy b 0 with hs | rfl | hs
  · have ht : ¬ 9223372036854775807 + b < a := by omega
    go_enter Try.func23, Try.ntmps23
    go_wp2
    go_ret2
    exact ⟨rfl, rfl⟩
  · go_enter Try.func23, Try.ntmps23
    go_wp2
    go_ret2
    exact ⟨by simp, rfl⟩
  · have ht : ¬ a < -9223372036854775808 + b := by omega
    go_enter Try.func23, Try.ntmps23
    go_wp2
    go_ret2
    exact ⟨rfl, rfl⟩
theorem refsub_no (a b : Int) (w : World) (ha : -9223372036854775808 ≤ a ∧ a ≤ 9223372036854775807) (hb : -9223372036854775808 ≤ b ∧ b ≤ 9223372036854775807) (h : ¬ (-9223372036854775808 ≤ a - b ∧ a - b ≤ 9223372036854775807)) :
    Calls Try.prog 23 #[.int .i64 a, .int .i64 b] w fun e w' => e = .returned (.tuple #[.int .i64 0, .bool false]) ∧ w = w' := by
  rcases Int.lt_trichotomy b 0 with hs | hs | hs
  · have ht : 9223372036854775807 + b < a := by omega
    clear h
    go_enter Try.func23, Try.ntmps23
    go_wp2
    go_ret2
    exact ⟨rfl, rfl⟩
  · exfalso; omega
  · have ht : a < -9223372036854775808 + b := by omega
    clear h
    go_enter Try.func23, Try.ntmps23
    go_wp2
    go_ret2
    exact ⟨rfl, rfl⟩
theorem refsub_any (a b : Int) (w : World) (ha : -9223372036854775808 ≤ a ∧ a ≤ 9223372036854775807) (hb : -9223372036854775808 ≤ b ∧ b ≤ 9223372036854775807) :
    Calls Try.prog 23 #[.int .i64 a, .int .i64 b] w fun e w' => e = .returned (.tuple #[.int .i64 (fitV (a - b)), .bool (fitB (a - b))]) ∧ w = w' := by
  by_cases h : -9223372036854775808 ≤ a - b ∧ a - b ≤ 9223372036854775807
  · rw [fitV_yes h, fitB_yes h]; exact refsub_yes a b w ha hb h
  · rw [fitV_no h, fitB_no h]; exact refsub_no a b w ha hb h

theorem refsat_yes (a b : Int) (w : World) (ha : -9223372036854775808 ≤ a ∧ a ≤ 9223372036854775807) (hb : -9223372036854775808 ≤ b ∧ b ≤ 9223372036854775807) (h : -9223372036854775808 ≤ a + b ∧ a + b ≤ 9223372036854775807) :
    Calls Try.prog 28 #[.int .i64 a, .int .i64 b] w fun e w' => e = .returned (.int .i64 (a + b)) ∧ w = w' := by
  go_enter Try.func28, Try.ntmps28
  go_wp2_with (go_at_call 27; refine (refadd_yes _ _ _ ha hb h).mono ?_; rintro e w' ⟨rfl, rfl⟩)
  go_ret
  exact ⟨rfl, rfl⟩
theorem refsat_high (a b : Int) (w : World) (ha : -9223372036854775808 ≤ a ∧ a ≤ 9223372036854775807) (hb : -9223372036854775808 ≤ b ∧ b ≤ 9223372036854775807) (h : ¬ (-9223372036854775808 ≤ a + b ∧ a + b ≤ 9223372036854775807)) (ht : 0 < b) :
    Calls Try.prog 28 #[.int .i64 a, .int .i64 b] w fun e w' => e = .returned (.int .i64 9223372036854775807) ∧ w = w' := by
  have H := Lib.hid h; clear h
  go_enter Try.func28, Try.ntmps28
  go_wp2_with (go_at_call 27; refine (refadd_no _ _ _ ha hb H.out).mono ?_; rintro e w' ⟨rfl, rfl⟩)
  go_ret
  exact ⟨rfl, rfl⟩
theorem refsat_low (a b : Int) (w : World) (ha : -9223372036854775808 ≤ a ∧ a ≤ 9223372036854775807) (hb : -9223372036854775808 ≤ b ∧ b ≤ 9223372036854775807) (h : ¬ (-9223372036854775808 ≤ a + b ∧ a + b ≤ 9223372036854775807)) (ht : ¬ 0 < b) :
    Calls Try.prog 28 #[.int .i64 a, .int .i64 b] w fun e w' => e = .returned (.int .i64 (-9223372036854775808)) ∧ w = w' := by
  have H := Lib.hid h; clear h
  go_enter Try.func28, Try.ntmps28
  go_wp2_with (go_at_call 27; refine (refadd_no _ _ _ ha hb H.out).mono ?_; rintro e w' ⟨rfl, rfl⟩)
  go_ret
  exact ⟨rfl, rfl⟩
theorem refsat_any (a b : Int) (w : World) (ha : -9223372036854775808 ≤ a ∧ a ≤ 9223372036854775807) (hb : -9223372036854775808 ≤ b ∧ b ≤ 9223372036854775807) :
    Calls Try.prog 28 #[.int .i64 a, .int .i64 b] w fun e w' => e = .returned (.int .i64 (satV a b)) ∧ w = w' := by
  by_cases h : -9223372036854775808 ≤ a + b ∧ a + b ≤ 9223372036854775807
  · rw [satV_yes h]; exact refsat_yes a b w ha hb h
  · by_cases ht : 0 < b
    · rw [satV_high h ht]; exact refsat_high a b w ha hb h ht
    · rw [satV_low h ht]; exact refsat_low a b w ha hb h ht

theorem refless_yes (a b : Int) (w : World) (ha : -9223372036854775808 ≤ a ∧ a ≤ 9223372036854775807) (hb : -9223372036854775808 ≤ b ∧ b ≤ 9223372036854775807) (h : -9223372036854775808 ≤ a - b ∧ a - b ≤ 9223372036854775807) :
    Calls Try.prog 24 #[.int .i64 a, .int .i64 b] w fun e w' => e = .returned (.int .i64 (a - b)) ∧ w = w' := by
  go_enter Try.func24, Try.ntmps24
  go_wp2_with (go_at_call 23; refine (refsub_yes _ _ _ ha hb h).mono ?_; rintro e w' ⟨rfl, rfl⟩)
  go_ret
  exact ⟨rfl, rfl⟩
theorem refless_high (a b : Int) (w : World) (ha : -9223372036854775808 ≤ a ∧ a ≤ 9223372036854775807) (hb : -9223372036854775808 ≤ b ∧ b ≤ 9223372036854775807) (h : ¬ (-9223372036854775808 ≤ a - b ∧ a - b ≤ 9223372036854775807)) (ht : b < 0) :
    Calls Try.prog 24 #[.int .i64 a, .int .i64 b] w fun e w' => e = .returned (.int .i64 9223372036854775807) ∧ w = w' := by
  have H := Lib.hid h; clear h
  go_enter Try.func24, Try.ntmps24
  go_wp2_with (go_at_call 23; refine (refsub_no _ _ _ ha hb H.out).mono ?_; rintro e w' ⟨rfl, rfl⟩)
  go_ret
  exact ⟨rfl, rfl⟩
theorem refless_low (a b : Int) (w : World) (ha : -9223372036854775808 ≤ a ∧ a ≤ 9223372036854775807) (hb : -9223372036854775808 ≤ b ∧ b ≤ 9223372036854775807) (h : ¬ (-9223372036854775808 ≤ a - b ∧ a - b ≤ 9223372036854775807)) (ht : ¬ b < 0) :
    Calls Try.prog 24 #[.int .i64 a, .int .i64 b] w fun e w' => e = .returned (.int .i64 (-9223372036854775808)) ∧ w = w' := by
  have H := Lib.hid h; clear h
  go_enter Try.func24, Try.ntmps24
  go_wp2_with (go_at_call 23; refine (refsub_no _ _ _ ha hb H.out).mono ?_; rintro e w' ⟨rfl, rfl⟩)
  go_ret
  exact ⟨rfl, rfl⟩
theorem refless_any (a b : Int) (w : World) (ha : -9223372036854775808 ≤ a ∧ a ≤ 9223372036854775807) (hb : -9223372036854775808 ≤ b ∧ b ≤ 9223372036854775807) :
    Calls Try.prog 24 #[.int .i64 a, .int .i64 b] w fun e w' => e = .returned (.int .i64 (lessV a b)) ∧ w = w' := by
  by_cases h : -9223372036854775808 ≤ a - b ∧ a - b ≤ 9223372036854775807
  · rw [lessV_yes h]; exact refless_yes a b w ha hb h
  · by_cases ht : b < 0
    · rw [lessV_high h ht]; exact refless_high a b w ha hb h ht
    · rw [lessV_low h ht]; exact refless_low a b w ha hb h ht

theorem refhold_any (n low high : Int) (w : World) :
    Calls Try.prog 30 #[.int .i64 n, .int .i64 low, .int .i64 high] w fun e w' => e = .returned (.int .i64 (holdV n low high)) ∧ w = w' := by
  unfold holdV
  split
  · go_enter Try.func30, Try.ntmps30
    go_wp2
    go_ret
    exact ⟨rfl, rfl⟩
  · split
    · go_enter Try.func30, Try.ntmps30
      go_wp2
      go_ret
      exact ⟨rfl, rfl⟩
    · go_enter Try.func30, Try.ntmps30
      go_wp2
      go_ret
      exact ⟨rfl, rfl⟩

end Go.Proofs.Ytjokpdgcjhgeeaa