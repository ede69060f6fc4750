/- Contracts of slices.Min, renorm.Higher and doleref07.Higher over a slice of int64. Conditions: the slice reads as a list of numbers. -/
import Derived.Test.YtjokpdgcjhgeeaaRenorm
import Derived.Test.YtjokpdgcjhgeeaaFlat
namespace Go.Proofs.Ytjokpdgcjhgeeaa
open Go Go.RowKit Go.ChangeShapes Go.WideShapes
set_option linter.unusedVariables false

/-- a slice that reads as a list of numbers -/
structure IntRow (w : World) (a : Option Addr) (len : Nat) (xs : List Int) : Prop where
  length : xs.length = len
  most : len ≤ 9223372036854775807
  cell : ∀ j, j < len → ∃ b off, a = some ⟨b, off, none⟩ ∧ b < w.heap.size ∧ w.cell? ⟨b, off + j, none⟩ = some (.int .i64 (xs.getD j 0))
theorem IntRow.drewN {w : World} {a : Option Addr} {len : Nat} {xs : List Int} (h : IntRow w a len xs) (n : Nat) : IntRow (w.drewN n) a len xs :=
  ⟨h.length, h.most, fun j hj => by obtain ⟨b, off, h1, h2, h3⟩ := h.cell j hj; exact ⟨b, off, h1, h2, by simpa using h3⟩⟩
theorem IntRow.below {w w' : World} {a : Option Addr} {len : Nat} {xs : List Int} (h : IntRow w a len xs) (hb : Below w.heap.size w w') : IntRow w' a len xs :=
  ⟨h.length, h.most, fun j hj => by
    obtain ⟨b, off, h1, h2, h3⟩ := h.cell j hj
    exact ⟨b, off, h1, Nat.lt_of_lt_of_le h2 hb.size, by rw [hb.cell (p := ⟨b, off + j, none⟩) h2]; exact h3⟩⟩

/-- the least one of the first k -/
def lm (xs : List Int) : Nat → Int
  | 0 => xs.getD 0 0
  | k + 1 => if xs.getD k 0 < lm xs k then xs.getD k 0 else lm xs k
theorem lm_one (xs : List Int) : lm xs 1 = xs.getD 0 0 := by simp [lm]
def highV (m : Int) (xs : List Int) : Int := if xs.length = 0 then m else if m < lm xs xs.length then lm xs xs.length else m

theorem min_any (a : Option Addr) (len cap : Nat) (xs : List Int) (w : World) (hr : IntRow w a len xs) (h0 : 0 < len) :
    Calls Try.prog 31 #[.slice a len cap] w fun e w' => e = .returned (.int .i64 (lm xs len)) ∧ ∃ n, w.drewN n = w' := by
  obtain ⟨b, off, rfl, _, hc0⟩ := hr.cell 0 h0
  rw [← lm_one] at hc0
  rw [Nat.add_zero] at hc0
  have hlen := hr.most
  have HR := Lib.hid hr; clear hr
  have h1 : ¬ (len : Int) < 1 := by omega
  generalize hm : lm xs 1 = m0 at *
  have HM := Lib.hid hm; clear hm
  go_enter Try.func31, Try.ntmps31
  go_wp2
  go_loop [3, 4] (fun m i => ∃ k : Nat, 1 ≤ k ∧ k ≤ len ∧ i = .int .i64 k ∧ m = .int .i64 (lm xs k)) (fun _ i => len - (intOf i).toNat)
  case atStart => exact ⟨1, by omega, by omega, rfl, by rw [HM.out]⟩
  case round =>
    obtain ⟨k, hk1, hk, rfl, rfl⟩ := hrel
    by_cases hlt : k < len
    · obtain ⟨b', off', hab, _, hc⟩ := HR.out.cell k hlt
      cases hab
      have HS := Lib.hid (show lm xs (k + 1) = if xs.getD k 0 < lm xs k then xs.getD k 0 else lm xs k from rfl)
      generalize lm xs k = m at *
      generalize hx : xs.getD k 0 = x at *
      clear hx
      rcases Int.lt_trichotomy x m with hm | rfl | hm
      · go_wp2
        go_round
        case rel => exact ⟨k + 1, by omega, by omega, by go_num, by rw [HS.out, if_pos hm]⟩
        case measure => simp [intOf]; omega
      · go_wp2
        go_round
        case rel => exact ⟨k + 1, by omega, by omega, by go_num, by rw [HS.out, if_neg (by omega)]⟩
        case measure => simp [intOf]; omega
      · go_wp2
        go_round
        case rel => exact ⟨k + 1, by omega, by omega, by go_num, by rw [HS.out, if_neg (by omega)]⟩
        case measure => simp [intOf]; omega
    · obtain rfl : k = len := by omega
      go_wp2
      go_ret
      exact ⟨rfl, 0, rfl⟩

theorem higher_none (m : Int) (a : Option Addr) (cap : Nat) (w : World) :
    Calls Try.prog 18 #[.int .i64 m, .slice a 0 cap] w fun e w' => e = .returned (.int .i64 m) ∧ ∃ n, w.drewN n = w' := by
  go_enter Try.func18, Try.ntmps18
  go_wp2
  go_ret
  exact ⟨rfl, 0, rfl⟩
theorem higher_some (m : Int) (a : Option Addr) (len cap : Nat) (xs : List Int) (w : World) (hr : IntRow w a len xs) (h0 : 0 < len) :
    Calls Try.prog 18 #[.int .i64 m, .slice a len cap] w fun e w' => e = .returned (.int .i64 (if m < lm xs len then lm xs len else m)) ∧ ∃ n, w.drewN n = w' := by
  have HC := Lib.hid (min_any a len cap xs w hr h0)
  have hne : ((len : Int) == 0) = false := by simp; omega
  clear hr
  generalize lm xs len = v at *
  rcases Int.lt_trichotomy m v with h | rfl | h
  · rw [if_pos h]
    go_enter Try.func18, Try.ntmps18
    go_wp2_with (go_at_call 31; refine HC.out.mono ?_; rintro e w' ⟨rfl, n, rfl⟩)
    go_ret
    exact ⟨rfl, _, rfl⟩
  · rw [if_neg (by omega)]
    go_enter Try.func18, Try.ntmps18
    go_wp2_with (go_at_call 31; refine HC.out.mono ?_; rintro e w' ⟨rfl, n, rfl⟩)
    go_ret
    exact ⟨rfl, _, rfl⟩
  · rw [if_neg (by omega)]
    go_enter Try.func18, Try.ntmps18
    go_wp2_with (go_at_call 31; refine HC.out.mono ?_; rintro e w' ⟨rfl, n, rfl⟩)
    go_ret
    exact ⟨rfl, _, rfl⟩
theorem higher_any (m : Int) (a : Option Addr) (len cap : Nat) (xs : List Int) (w : World) (hr : IntRow w a len xs) :
    Calls Try.prog 18 #[.int .i64 m, .slice a len cap] w fun e w' => e = .returned (.int .i64 (highV m xs)) ∧ ∃ n, w.drewN n = w' := by
  unfold highV
  rw [hr.length]
  by_cases h : len = 0
  · subst h; rw [if_pos rfl]; exact higher_none m a cap w
  · rw [if_neg h]; exact higher_some m a len cap xs w hr (by omega)

theorem refhigher_none (m : Int) (a : Option Addr) (cap : Nat) (w : World) :
    Calls Try.prog 19 #[.int .i64 m, .slice a 0 cap] w fun e w' => e = .returned (.int .i64 m) ∧ ∃ n, w.drewN n = w' := by
  go_enter Try.func19, Try.ntmps19
  go_wp2
  go_ret
  exact ⟨rfl, 0, rfl⟩
set_option maxHeartbeats 400000 in
theorem refhigher_some (m : Int) (a : Option Addr) (len cap : Nat) (xs : List Int) (w : World) (hr : IntRow w a len xs) (h0 : 0 < len) :
    Calls Try.prog 19 #[.int .i64 m, .slice a len cap] w fun e w' => e = .returned (.int .i64 (if m < lm xs len then lm xs len else m)) ∧ ∃ n, w.drewN n = w' := by
  generalize hV : (if m < lm xs len then lm xs len else m) = V
  have HV := Lib.hid hV; clear hV
  obtain ⟨b, off, rfl, _, hc0⟩ := hr.cell 0 h0
  rw [← lm_one] at hc0
  rw [Nat.add_zero] at hc0
  have hlen := hr.most
  have hne : ((len : Int) == 0) = false := by simp; omega
  have HR := Lib.hid hr; clear hr
  generalize hm : lm xs 1 = m0 at *
  have HM := Lib.hid hm; clear hm
  go_enter Try.func19, Try.ntmps19
  go_wp2
  go_loopw [5, 6] (fun m i wr => ∃ k : Nat, 1 ≤ k ∧ k ≤ len ∧ i = .int .i64 k ∧ m = .int .i64 (lm xs k) ∧ ∃ n, wr = w.drewN n) (fun _ i _ => len - (intOf i).toNat)
  case atStart => exact ⟨1, by omega, by omega, rfl, by rw [HM.out], 0, rfl⟩
  case round =>
    obtain ⟨k, hk1, hk, rfl, rfl, n, rfl⟩ := hrel
    by_cases hlt : k < len
    · obtain ⟨b', off', hab, _, hc⟩ := HR.out.cell k hlt
      cases hab
      have HS := Lib.hid (show lm xs (k + 1) = if xs.getD k 0 < lm xs k then xs.getD k 0 else lm xs k from rfl)
      generalize lm xs k = q at *
      generalize hx : xs.getD k 0 = x at *
      clear hx
      by_cases hm : x < q
      · go_wp2
        try (go_quiet (fail); go_wp2)
        go_roundw
        case rel => exact ⟨k + 1, by omega, by omega, by go_num, by rw [HS.out, if_pos hm], _, rfl⟩
        case measure => simp [intOf]; omega
      · go_wp2
        try (go_quiet (fail); go_wp2)
        go_roundw
        case rel => exact ⟨k + 1, by omega, by omega, by go_num, by rw [HS.out, if_neg (by omega)], _, rfl⟩
        case measure => simp [intOf]; omega
    · obtain rfl : k = len := by omega
      generalize lm xs k = q at *
      by_cases hm : m < q
      · have HW := Lib.hid (show q = V by rw [← HV.out, if_pos hm])
        go_wp2
        go_ret
        exact ⟨by rw [← HW.out]; rfl, _, rfl⟩
      · have HW := Lib.hid (show m = V by rw [← HV.out, if_neg hm])
        go_wp2
        go_ret
        exact ⟨by rw [← HW.out]; rfl, _, rfl⟩
theorem refhigher_any (m : Int) (a : Option Addr) (len cap : Nat) (xs : List Int) (w : World) (hr : IntRow w a len xs) :
    Calls Try.prog 19 #[.int .i64 m, .slice a len cap] w fun e w' => e = .returned (.int .i64 (highV m xs)) ∧ ∃ n, w.drewN n = w' := by
  unfold highV
  rw [hr.length]
  by_cases h : len = 0
  · subst h; rw [if_pos rfl]; exact refhigher_none m a cap w
  · rw [if_neg h]; exact refhigher_some m a len cap xs w hr (by omega)
end Go.Proofs.Ytjokpdgcjhgeeaa
