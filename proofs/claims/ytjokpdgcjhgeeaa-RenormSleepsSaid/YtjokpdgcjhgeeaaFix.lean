/- Contracts of the program's package fix: Add, Sub, Sat, Less, Hold. Conditions: the arguments are numbers that int64 holds. -/
import Derived.Test.YtjokpdgcjhgeeaaChecked
import Derived.Test.YtjokpdgcjhgeeaaFixPlain
namespace Go.Proofs.Ytjokpdgcjhgeeaa
open Go Go.RowKit Go.ChangeShapes Go.WideShapes

theorem add_yes (a b : Int) (w : World) (ha : -9223372036854775808 ≤ a ∧ a ≤ 9223372036854775807) (hb : -9223372036854775808 ≤ b ∧ b ≤ 9223372036854775807)
    (h : -9223372036854775808 ≤ a + b ∧ a + b ≤ 9223372036854775807) :
    Calls Try.prog 25 #[.int .i64 a, .int .i64 b] w fun e w' => e = .returned (.tuple #[.int .i64 (a + b), .bool true]) ∧ w = w' := by
  have ht := add_test a b ha hb
  have ht2 : ¬ bits .and .i64 (bits .xor .i64 a (a + b)) (bits .xor .i64 b (a + b)) < 0 := by
    rw [IntWalk.wrap64_in _ h] at ht; exact fun h' => (ht.1 h') h
  clear ht
  go_enter Try.func25, Try.ntmps25
  go_wp2
  go_ret2
  exact ⟨rfl, rfl⟩

theorem add_no (a b : Int) (w : World) (ha : -9223372036854775808 ≤ a ∧ a ≤ 9223372036854775807) (hb : -9223372036854775808 ≤ b ∧ b ≤ 9223372036854775807)
    (h : ¬ (-9223372036854775808 ≤ a + b ∧ a + b ≤ 9223372036854775807)) :
    Calls Try.prog 25 #[.int .i64 a, .int .i64 b] w fun e w' => e = .returned (.tuple #[.int .i64 0, .bool false]) ∧ w = w' := by
  have ht2 := (add_test a b ha hb).2 h
  have H := Lib.hid h; clear h
  go_enter Try.func25, Try.ntmps25
  go_wp2
  go_ret2
  exact ⟨rfl, rfl⟩

theorem sub_yes (a b : Int) (w : World) (ha : -9223372036854775808 ≤ a ∧ a ≤ 9223372036854775807) (hb : -9223372036854775808 ≤ b ∧ b ≤ 9223372036854775807)
    (h : -9223372036854775808 ≤ a - b ∧ a - b ≤ 9223372036854775807) :
    Calls Try.prog 20 #[.int .i64 a, .int .i64 b] w fun e w' => e = .returned (.tuple #[.int .i64 (a - b), .bool true]) ∧ w = w' := by
  have ht := sub_test a b ha hb
  have ht2 : ¬ bits .and .i64 (bits .xor .i64 a b) (bits .xor .i64 a (a - b)) < 0 := by
    rw [IntWalk.wrap64_in _ h] at ht; exact fun h' => (ht.1 h') h
  clear ht
  go_enter Try.func20, Try.ntmps20
  go_wp2
  go_ret2
  exact ⟨rfl, rfl⟩

theorem sub_no (a b : Int) (w : World) (ha : -9223372036854775808 ≤ a ∧ a ≤ 9223372036854775807) (hb : -9223372036854775808 ≤ b ∧ b ≤ 9223372036854775807)
    (h : ¬ (-9223372036854775808 ≤ a - b ∧ a - b ≤ 9223372036854775807)) :
    Calls Try.prog 20 #[.int .i64 a, .int .i64 b] w fun e w' => e = .returned (.tuple #[.int .i64 0, .bool false]) ∧ w = w' := by
  have ht2 := (sub_test a b ha hb).2 h
  have H := Lib.hid h; clear h
  go_enter Try.func20, Try.ntmps20
  go_wp2
  go_ret2
  exact ⟨rfl, rfl⟩

theorem hold_low (n low high : Int) (w : World) (h : n < low) :
    Calls Try.prog 29 #[.int .i64 n, .int .i64 low, .int .i64 high] w fun e w' => e = .returned (.int .i64 low) ∧ w = w' := by
  go_enter Try.func29, Try.ntmps29
  go_wp2
  go_ret
  exact ⟨rfl, rfl⟩
theorem hold_mid (n low high : Int) (w : World) (h : low ≤ n) (h2 : n ≤ high) :
    Calls Try.prog 29 #[.int .i64 n, .int .i64 low, .int .i64 high] w fun e w' => e = .returned (.int .i64 n) ∧ w = w' := by
  go_enter Try.func29, Try.ntmps29
  go_wp2
  go_ret
  exact ⟨rfl, rfl⟩
theorem hold_high (n low high : Int) (w : World) (h : low ≤ n) (h2 : high < n) :
    Calls Try.prog 29 #[.int .i64 n, .int .i64 low, .int .i64 high] w fun e w' => e = .returned (.int .i64 high) ∧ w = w' := by
  go_enter Try.func29, Try.ntmps29
  go_wp2
  go_ret
  exact ⟨rfl, rfl⟩
def holdV (n low high : Int) : Int := if n < low then low else if high < n then high else n
theorem hold_any (n low high : Int) (w : World) :
    Calls Try.prog 29 #[.int .i64 n, .int .i64 low, .int .i64 high] w fun e w' => e = .returned (.int .i64 (holdV n low high)) ∧ w = w' := by
  unfold holdV
  split
  · exact hold_low _ _ _ _ ‹_›
  · split
    · exact hold_high _ _ _ _ (by omega) ‹_›
    · exact hold_mid _ _ _ _ (by omega) (by omega)

theorem sat_yes (a b : Int) (w : World) (ha : -9223372036854775808 ≤ a ∧ a ≤ 9223372036854775807) (hb : -9223372036854775808 ≤ b ∧ b ≤ 9223372036854775807) (h : -9223372036854775808 ≤ a + b ∧ a + b ≤ 9223372036854775807) :
    Calls Try.prog 26 #[.int .i64 a, .int .i64 b] w fun e w' => e = .returned (.int .i64 (a + b)) ∧ w' = w.alloc (.cells #[.int .i64 b] 2) := by
  skip
  go_enter Try.func26, Try.ntmps26
  go_wp2_with (first | (go_at_call 25; refine (add_yes _ _ _ ha hb h).mono ?_; rintro e w' ⟨rfl, rfl⟩) | go_in)
  go_ret
  exact ⟨rfl, rfl⟩

theorem sat_high (a b : Int) (w : World) (ha : -9223372036854775808 ≤ a ∧ a ≤ 9223372036854775807) (hb : -9223372036854775808 ≤ b ∧ b ≤ 9223372036854775807) (h : ¬ (-9223372036854775808 ≤ a + b ∧ a + b ≤ 9223372036854775807)) (ht : 0 < b) :
    Calls Try.prog 26 #[.int .i64 a, .int .i64 b] w fun e w' => e = .returned (.int .i64 9223372036854775807) ∧ w' = w.alloc (.cells #[.int .i64 b] 2) := by
  have H := Lib.hid h; clear h
  go_enter Try.func26, Try.ntmps26
  go_wp2_with (first | (go_at_call 25; refine (add_no _ _ _ ha hb H.out).mono ?_; rintro e w' ⟨rfl, rfl⟩) | go_in)
  go_ret
  exact ⟨rfl, rfl⟩

theorem sat_low (a b : Int) (w : World) (ha : -9223372036854775808 ≤ a ∧ a ≤ 9223372036854775807) (hb : -9223372036854775808 ≤ b ∧ b ≤ 9223372036854775807) (h : ¬ (-9223372036854775808 ≤ a + b ∧ a + b ≤ 9223372036854775807)) (ht : ¬ 0 < b) :
    Calls Try.prog 26 #[.int .i64 a, .int .i64 b] w fun e w' => e = .returned (.int .i64 (-9223372036854775808)) ∧ w' = w.alloc (.cells #[.int .i64 b] 2) := by
  have H := Lib.hid h; clear h
  go_enter Try.func26, Try.ntmps26
  go_wp2_with (first | (go_at_call 25; refine (add_no _ _ _ ha hb H.out).mono ?_; rintro e w' ⟨rfl, rfl⟩) | go_in)
  go_ret
  exact ⟨rfl, rfl⟩

theorem less_yes (a b : Int) (w : World) (ha : -9223372036854775808 ≤ a ∧ a ≤ 9223372036854775807) (hb : -9223372036854775808 ≤ b ∧ b ≤ 9223372036854775807) (h : -9223372036854775808 ≤ a - b ∧ a - b ≤ 9223372036854775807) :
    Calls Try.prog 21 #[.int .i64 a, .int .i64 b] w fun e w' => e = .returned (.int .i64 (a - b)) ∧ w' = w.alloc (.cells #[.int .i64 b] 2) := by
  skip
  go_enter Try.func21, Try.ntmps21
  go_wp2_with (first | (go_at_call 20; refine (sub_yes _ _ _ ha hb h).mono ?_; rintro e w' ⟨rfl, rfl⟩) | go_in)
  go_ret
  exact ⟨rfl, rfl⟩

theorem less_high (a b : Int) (w : World) (ha : -9223372036854775808 ≤ a ∧ a ≤ 9223372036854775807) (hb : -9223372036854775808 ≤ b ∧ b ≤ 9223372036854775807) (h : ¬ (-9223372036854775808 ≤ a - b ∧ a - b ≤ 9223372036854775807)) (ht : b < 0) :
    Calls Try.prog 21 #[.int .i64 a, .int .i64 b] w fun e w' => e = .returned (.int .i64 9223372036854775807) ∧ w' = w.alloc (.cells #[.int .i64 b] 2) := by
  have H := Lib.hid h; clear h
  go_enter Try.func21, Try.ntmps21
  go_wp2_with (first | (go_at_call 20; refine (sub_no _ _ _ ha hb H.out).mono ?_; rintro e w' ⟨rfl, rfl⟩) | go_in)
  go_ret
  exact ⟨rfl, rfl⟩

theorem less_low (a b : Int) (w : World) (ha : -9223372036854775808 ≤ a ∧ a ≤ 9223372036854775807) (hb : -9223372036854775808 ≤ b ∧ b ≤ 9223372036854775807) (h : ¬ (-9223372036854775808 ≤ a - b ∧ a - b ≤ 9223372036854775807)) (ht : ¬ b < 0) :
    Calls Try.prog 21 #[.int .i64 a, .int .i64 b] w fun e w' => e = .returned (.int .i64 (-9223372036854775808)) ∧ w' = w.alloc (.cells #[.int .i64 b] 2) := by
  have H := Lib.hid h; clear h
  go_enter Try.func21, Try.ntmps21
  go_wp2_with (first | (go_at_call 20; refine (sub_no _ _ _ ha hb H.out).mono ?_; rintro e w' ⟨rfl, rfl⟩) | go_in)
  go_ret
  exact ⟨rfl, rfl⟩

end Go.Proofs.Ytjokpdgcjhgeeaa