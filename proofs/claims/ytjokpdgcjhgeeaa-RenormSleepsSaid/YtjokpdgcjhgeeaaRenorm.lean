/- Contracts of package renorm and of the reference doleref07: Off, On, Move, Wake. Conditions: the arguments are numbers that int64 holds. -/
import Derived.Test.YtjokpdgcjhgeeaaFixRef
import Derived.Test.YtjokpdgcjhgeeaaUtil
namespace Go.Proofs.Ytjokpdgcjhgeeaa
open Go Go.RowKit Go.ChangeShapes Go.WideShapes
set_option linter.unusedVariables false

theorem satV_in (a b : Int) : -9223372036854775808 ≤ satV a b ∧ satV a b ≤ 9223372036854775807 := by
  unfold satV fitB; simp only [decide_eq_true_eq]; split
  · assumption
  · split <;> omega
theorem lessV_in (a b : Int) : -9223372036854775808 ≤ lessV a b ∧ lessV a b ≤ 9223372036854775807 := by
  unfold lessV fitB; simp only [decide_eq_true_eq]; split
  · assumption
  · split <;> omega
theorem holdV_in (n low high : Int) (h0 : -9223372036854775808 ≤ n ∧ n ≤ 9223372036854775807) (h1 : -9223372036854775808 ≤ low ∧ low ≤ 9223372036854775807) (h2 : -9223372036854775808 ≤ high ∧ high ≤ 9223372036854775807) : -9223372036854775808 ≤ holdV n low high ∧ holdV n low high ≤ 9223372036854775807 := by
  unfold holdV; split
  · assumption
  · split <;> assumption

theorem off_yes (a b : Int) (w : World) (ha : -9223372036854775808 ≤ a ∧ a ≤ 9223372036854775807) (hb : -9223372036854775808 ≤ b ∧ b ≤ 9223372036854775807) (h : -9223372036854775808 ≤ a - b ∧ a - b ≤ 9223372036854775807) :
    Calls Try.prog 10 #[.int .i64 a, .int .i64 b] w fun e w' => e = .returned (.tuple #[.int .i64 (a - b), .bool false]) ∧ Below w.heap.size w w' := by
  go_enter Try.func10, Try.ntmps10
  go_wp2_with (first | (go_at_call 20; refine (sub_yes _ _ _ ha hb h).mono ?_; rintro e w' ⟨rfl, rfl⟩) | go_in)
  go_ret2
  exact ⟨rfl, by go_grown⟩
theorem off_no (a b : Int) (w : World) (ha : -9223372036854775808 ≤ a ∧ a ≤ 9223372036854775807) (hb : -9223372036854775808 ≤ b ∧ b ≤ 9223372036854775807) (h : ¬ (-9223372036854775808 ≤ a - b ∧ a - b ≤ 9223372036854775807)) :
    Calls Try.prog 10 #[.int .i64 a, .int .i64 b] w fun e w' => e = .returned (.tuple #[.int .i64 (lessV a b), .bool true]) ∧ Below w.heap.size w w' := by
  have H := Lib.hid h; clear h
  go_enter Try.func10, Try.ntmps10
  go_wp2_with (first | (go_at_call 20; refine (sub_no _ _ _ ha hb H.out).mono ?_; rintro e w' ⟨rfl, rfl⟩) | (go_at_call 21; refine (less_any _ _ _ ha hb).mono ?_; rintro e w' ⟨rfl, rfl⟩) | go_in)
  go_ret2
  exact ⟨rfl, by go_grown⟩
theorem off_any (a b : Int) (w : World) (ha : -9223372036854775808 ≤ a ∧ a ≤ 9223372036854775807) (hb : -9223372036854775808 ≤ b ∧ b ≤ 9223372036854775807) :
    Calls Try.prog 10 #[.int .i64 a, .int .i64 b] w fun e w' => e = .returned (.tuple #[.int .i64 (lessV a b), .bool (!fitB (a - b))]) ∧ Below w.heap.size w w' := by
  by_cases h : -9223372036854775808 ≤ a - b ∧ a - b ≤ 9223372036854775807
  · rw [fitB_yes h, lessV_yes h]; exact off_yes a b w ha hb h
  · rw [fitB_no h]; exact off_no a b w ha hb h
theorem refoff_any (a b : Int) (w : World) (ha : -9223372036854775808 ≤ a ∧ a ≤ 9223372036854775807) (hb : -9223372036854775808 ≤ b ∧ b ≤ 9223372036854775807) :
    Calls Try.prog 11 #[.int .i64 a, .int .i64 b] w fun e w' => e = .returned (.tuple #[.int .i64 (lessV a b), .bool (!fitB (a - b))]) ∧ Below w.heap.size w w' := by
  go_enter Try.func11, Try.ntmps11
  go_wp2_with (first | (go_at_call 23; refine (refsub_any _ _ _ ha hb).mono ?_; rintro e w' ⟨rfl, rfl⟩) | (go_at_call 24; refine (refless_any _ _ _ ha hb).mono ?_; rintro e w' ⟨rfl, rfl⟩))
  go_ret2
  exact ⟨rfl, Below.refl _ _⟩

theorem on_yes (a b : Int) (w : World) (ha : -9223372036854775808 ≤ a ∧ a ≤ 9223372036854775807) (hb : -9223372036854775808 ≤ b ∧ b ≤ 9223372036854775807) (h : -9223372036854775808 ≤ a + b ∧ a + b ≤ 9223372036854775807) :
    Calls Try.prog 12 #[.int .i64 a, .int .i64 b] w fun e w' => e = .returned (.tuple #[.int .i64 (a + b), .bool false]) ∧ Below w.heap.size w w' := by
  go_enter Try.func12, Try.ntmps12
  go_wp2_with (first | (go_at_call 25; refine (add_yes _ _ _ ha hb h).mono ?_; rintro e w' ⟨rfl, rfl⟩) | go_in)
  go_ret2
  exact ⟨rfl, by go_grown⟩
theorem on_no (a b : Int) (w : World) (ha : -9223372036854775808 ≤ a ∧ a ≤ 9223372036854775807) (hb : -9223372036854775808 ≤ b ∧ b ≤ 9223372036854775807) (h : ¬ (-9223372036854775808 ≤ a + b ∧ a + b ≤ 9223372036854775807)) :
    Calls Try.prog 12 #[.int .i64 a, .int .i64 b] w fun e w' => e = .returned (.tuple #[.int .i64 (satV a b), .bool true]) ∧ Below w.heap.size w w' := by
  have H := Lib.hid h; clear h
  go_enter Try.func12, Try.ntmps12
  go_wp2_with (first | (go_at_call 25; refine (add_no _ _ _ ha hb H.out).mono ?_; rintro e w' ⟨rfl, rfl⟩) | (go_at_call 26; refine (sat_any _ _ _ ha hb).mono ?_; rintro e w' ⟨rfl, rfl⟩) | go_in)
  go_ret2
  exact ⟨rfl, by go_grown⟩
theorem on_any (a b : Int) (w : World) (ha : -9223372036854775808 ≤ a ∧ a ≤ 9223372036854775807) (hb : -9223372036854775808 ≤ b ∧ b ≤ 9223372036854775807) :
    Calls Try.prog 12 #[.int .i64 a, .int .i64 b] w fun e w' => e = .returned (.tuple #[.int .i64 (satV a b), .bool (!fitB (a + b))]) ∧ Below w.heap.size w w' := by
  by_cases h : -9223372036854775808 ≤ a + b ∧ a + b ≤ 9223372036854775807
  · rw [fitB_yes h, satV_yes h]; exact on_yes a b w ha hb h
  · rw [fitB_no h]; exact on_no a b w ha hb h
theorem refon_any (a b : Int) (w : World) (ha : -9223372036854775808 ≤ a ∧ a ≤ 9223372036854775807) (hb : -9223372036854775808 ≤ b ∧ b ≤ 9223372036854775807) :
    Calls Try.prog 13 #[.int .i64 a, .int .i64 b] w fun e w' => e = .returned (.tuple #[.int .i64 (satV a b), .bool (!fitB (a + b))]) ∧ Below w.heap.size w w' := by
  go_enter Try.func13, Try.ntmps13
  go_wp2_with (first | (go_at_call 27; refine (refadd_any _ _ _ ha hb).mono ?_; rintro e w' ⟨rfl, rfl⟩) | (go_at_call 28; refine (refsat_any _ _ _ ha hb).mono ?_; rintro e w' ⟨rfl, rfl⟩))
  go_ret2
  exact ⟨rfl, Below.refl _ _⟩

def moveV (v from_ to : Int) : Int := satV (lessV v from_) to
def moveB (v from_ to : Int) : Bool := !fitB (v - from_) || !fitB (lessV v from_ + to)
theorem move_any (v f t : Int) (w : World) (hv : -9223372036854775808 ≤ v ∧ v ≤ 9223372036854775807) (hf : -9223372036854775808 ≤ f ∧ f ≤ 9223372036854775807) (ht : -9223372036854775808 ≤ t ∧ t ≤ 9223372036854775807) :
    Calls Try.prog 14 #[.int .i64 v, .int .i64 f, .int .i64 t] w fun e w' => e = .returned (.tuple #[.int .i64 (moveV v f t), .bool (moveB v f t)]) ∧ Below w.heap.size w w' := by
  cases hB : fitB (v - f)
  · have hm : moveB v f t = true := by simp [moveB, hB]
    rw [hm]
    go_enter Try.func14, Try.ntmps14
    go_wp2_with fail
    refine (off_any _ _ _ hv hf).mono ?_
    rintro e w1 ⟨rfl, h1⟩
    rw [hB]
    have HB := Lib.hid hB; clear hB
    go_wp2_with fail
    refine (on_any _ _ _ (lessV_in _ _) ht).mono ?_
    rintro e w2 ⟨rfl, h2⟩
    go_wp2
    go_ret2
    exact ⟨rfl, below_trans h1 h2 h1.size⟩
  · have hm : moveB v f t = !fitB (lessV v f + t) := by simp [moveB, hB]
    rw [hm]
    clear hm
    go_enter Try.func14, Try.ntmps14
    go_wp2_with fail
    refine (off_any _ _ _ hv hf).mono ?_
    rintro e w1 ⟨rfl, h1⟩
    rw [hB]
    have HB := Lib.hid hB; clear hB
    go_wp2_with fail
    refine (on_any _ _ _ (lessV_in _ _) ht).mono ?_
    rintro e w2 ⟨rfl, h2⟩
    go_wp2
    go_ret2
    exact ⟨rfl, below_trans h1 h2 h1.size⟩
theorem refmove_any (v f t : Int) (w : World) (hv : -9223372036854775808 ≤ v ∧ v ≤ 9223372036854775807) (hf : -9223372036854775808 ≤ f ∧ f ≤ 9223372036854775807) (ht : -9223372036854775808 ≤ t ∧ t ≤ 9223372036854775807) :
    Calls Try.prog 15 #[.int .i64 v, .int .i64 f, .int .i64 t] w fun e w' => e = .returned (.tuple #[.int .i64 (moveV v f t), .bool (moveB v f t)]) ∧ Below w.heap.size w w' := by
  cases hB : fitB (v - f)
  · have hm : moveB v f t = true := by simp [moveB, hB]
    rw [hm]
    go_enter Try.func15, Try.ntmps15
    go_wp2_with fail
    refine (refoff_any _ _ _ hv hf).mono ?_
    rintro e w1 ⟨rfl, h1⟩
    rw [hB]
    have HB := Lib.hid hB; clear hB
    go_wp2_with fail
    refine (refon_any _ _ _ (lessV_in _ _) ht).mono ?_
    rintro e w2 ⟨rfl, h2⟩
    go_wp2
    go_ret2
    exact ⟨rfl, below_trans h1 h2 h1.size⟩
  · have hm : moveB v f t = !fitB (lessV v f + t) := by simp [moveB, hB]
    rw [hm]
    clear hm
    go_enter Try.func15, Try.ntmps15
    go_wp2_with fail
    refine (refoff_any _ _ _ hv hf).mono ?_
    rintro e w1 ⟨rfl, h1⟩
    rw [hB]
    have HB := Lib.hid hB; clear hB
    go_wp2_with fail
    refine (refon_any _ _ _ (lessV_in _ _) ht).mono ?_
    rintro e w2 ⟨rfl, h2⟩
    go_wp2
    go_ret2
    exact ⟨rfl, below_trans h1 h2 h1.size⟩

def wakeV (own m c : Int) : Int := if lessV m (holdV c 0 1099511627776) < own then own else lessV m (holdV c 0 1099511627776)
theorem wake_any (own m c : Int) (w : World) (hm : -9223372036854775808 ≤ m ∧ m ≤ 9223372036854775807) (hc : -9223372036854775808 ≤ c ∧ c ≤ 9223372036854775807) :
    Calls Try.prog 16 #[.int .i64 own, .int .i64 m, .int .i64 c] w fun e w' => e = .returned (.int .i64 (wakeV own m c)) ∧ Below w.heap.size w w' := by
  have hh := holdV_in c 0 1099511627776 hc (by omega) (by omega)
  unfold wakeV
  rcases Int.lt_trichotomy (lessV m (holdV c 0 1099511627776)) own with k | k | k
  · rw [if_pos k]
    go_enter Try.func16, Try.ntmps16
    go_wp2_with (first | (go_at_call 29; refine (hold_any _ _ _ _).mono ?_; rintro e w' ⟨rfl, rfl⟩) | (go_at_call 21; refine (less_any _ _ _ hm hh).mono ?_; rintro e w' ⟨rfl, rfl⟩))
    go_ret
    exact ⟨rfl, by go_grown⟩
  · rw [if_neg (by omega)]
    have K := Lib.hid k; have k1 := Int.le_of_eq k; have k2 := Int.le_of_eq k.symm; have k3 : ¬ lessV m (holdV c 0 1099511627776) < own := by omega
    clear k
    go_enter Try.func16, Try.ntmps16
    go_wp2_with (first | (go_at_call 29; refine (hold_any _ _ _ _).mono ?_; rintro e w' ⟨rfl, rfl⟩) | (go_at_call 21; refine (less_any _ _ _ hm hh).mono ?_; rintro e w' ⟨rfl, rfl⟩))
    go_ret
    exact ⟨by first | rfl | (rw [K.out]; rfl), by go_grown⟩
  · rw [if_neg (by omega)]
    go_enter Try.func16, Try.ntmps16
    go_wp2_with (first | (go_at_call 29; refine (hold_any _ _ _ _).mono ?_; rintro e w' ⟨rfl, rfl⟩) | (go_at_call 21; refine (less_any _ _ _ hm hh).mono ?_; rintro e w' ⟨rfl, rfl⟩))
    go_ret
    exact ⟨rfl, by go_grown⟩
theorem refwake_any (own m c : Int) (w : World) (hm : -9223372036854775808 ≤ m ∧ m ≤ 9223372036854775807) (hc : -9223372036854775808 ≤ c ∧ c ≤ 9223372036854775807) :
    Calls Try.prog 17 #[.int .i64 own, .int .i64 m, .int .i64 c] w fun e w' => e = .returned (.int .i64 (wakeV own m c)) ∧ Below w.heap.size w w' := by
  have hh := holdV_in c 0 1099511627776 hc (by omega) (by omega)
  unfold wakeV
  rcases Int.lt_trichotomy (lessV m (holdV c 0 1099511627776)) own with k | k | k
  · rw [if_pos k]
    go_enter Try.func17, Try.ntmps17
    go_wp2_with (first | (go_at_call 30; refine (refhold_any _ _ _ _).mono ?_; rintro e w' ⟨rfl, rfl⟩) | (go_at_call 24; refine (refless_any _ _ _ hm hh).mono ?_; rintro e w' ⟨rfl, rfl⟩))
    go_ret
    exact ⟨rfl, by go_grown⟩
  · rw [if_neg (by omega)]
    have K := Lib.hid k; have k1 := Int.le_of_eq k; have k2 := Int.le_of_eq k.symm; have k3 : ¬ lessV m (holdV c 0 1099511627776) < own := by omega
    clear k
    go_enter Try.func17, Try.ntmps17
    go_wp2_with (first | (go_at_call 30; refine (refhold_any _ _ _ _).mono ?_; rintro e w' ⟨rfl, rfl⟩) | (go_at_call 24; refine (refless_any _ _ _ hm hh).mono ?_; rintro e w' ⟨rfl, rfl⟩))
    go_ret
    exact ⟨by first | rfl | (rw [K.out]; rfl), by go_grown⟩
  · rw [if_neg (by omega)]
    go_enter Try.func17, Try.ntmps17
    go_wp2_with (first | (go_at_call 30; refine (refhold_any _ _ _ _).mono ?_; rintro e w' ⟨rfl, rfl⟩) | (go_at_call 24; refine (refless_any _ _ _ hm hh).mono ?_; rintro e w' ⟨rfl, rfl⟩))
    go_ret
    exact ⟨rfl, by go_grown⟩
end Go.Proofs.Ytjokpdgcjhgeeaa
