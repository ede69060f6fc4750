/- Contracts of the program's package quota: there, New, Ensure, the tellers. Conditions: the band lies in memory as HasBand says. -/
import Derived.Test.YtbhiinodejhggaaBand
namespace Go.Proofs.Ytbhiinodejhggaa
open Go Go.RowKit Go.ChangeShapes Go.WideShapes
set_option linter.unusedVariables false

theorem there_nil (k : Int) (w : World) :
    Calls Try.prog 31 #[.pointer none, .int .i64 k] w fun e w' => e = .returned (.bool false) ∧ w = w' := by
  go_enter Try.func31, Try.ntmps31
  go_wp2
  go_ret
  exact ⟨rfl, rfl⟩
theorem there_neg (k : Int) (w : World) (p : Nat) (h : k < 0) :
    Calls Try.prog 31 #[.pointer (some ⟨p, 0, none⟩), .int .i64 k] w fun e w' => e = .returned (.bool false) ∧ w = w' := by
  have h' : decide (0 ≤ k) = false := by simpa using h
  go_enter Try.func31, Try.ntmps31
  go_wp2
  go_ret
  exact ⟨rfl, rfl⟩
theorem there_far (k : Int) (w : World) (p : Nat) (b : Bd) (hb : HasBand w p b) (h : (b.l.length : Int) ≤ k) :
    Calls Try.prog 31 #[.pointer (some ⟨p, 0, none⟩), .int .i64 k] w fun e w' => e = .returned (.bool false) ∧ w = w' := by
  obtain ⟨c0, c1, c2, c3, c4⟩ := hb.cell
  have hp := hb.lt
  have h0 : 0 ≤ k := by omega
  have hd : decide (k < (b.l.length : Int)) = false := by simpa using h
  clear hb c0 c1 c2 c3
  go_enter Try.func31, Try.ntmps31
  go_wp2
  go_ret
  exact ⟨rfl, rfl⟩
theorem there_in (k : Nat) (w : World) (p : Nat) (b : Bd) (hb : HasBand w p b) (h : k < b.l.length) :
    Calls Try.prog 31 #[.pointer (some ⟨p, 0, none⟩), .int .i64 k] w fun e w' => e = .returned (.bool true) ∧ w = w' := by
  obtain ⟨c0, c1, c2, c3, c4⟩ := hb.cell
  have hp := hb.lt
  clear hb c0 c1 c2 c3
  go_enter Try.func31, Try.ntmps31
  go_wp2
  go_ret
  exact ⟨rfl, rfl⟩
/-- a place that is none of a band's -/
def NotP (b : Bd) (k : Int) : Prop := k < 0 ∨ (b.l.length : Int) ≤ k
theorem there_not (k : Int) (w : World) (p : Nat) (b : Bd) (hb : HasBand w p b) (h : NotP b k) :
    Calls Try.prog 31 #[.pointer (some ⟨p, 0, none⟩), .int .i64 k] w fun e w' => e = .returned (.bool false) ∧ w = w' := by
  rcases h with h | h
  · exact there_neg k w p h
  · exact there_far k w p b hb h

theorem pool_nil (w : World) : Calls Try.prog 12 #[.pointer none] w fun e w' => e = .returned (.int .i64 0) ∧ w = w' := by
  go_enter Try.func12, Try.ntmps12
  go_wp2
  go_ret
  exact ⟨rfl, rfl⟩
theorem pool_any (w : World) (p : Nat) (b : Bd) (hb : HasBand w p b) : Calls Try.prog 12 #[.pointer (some ⟨p, 0, none⟩)] w fun e w' => e = .returned (.int .i64 b.pool) ∧ w = w' := by
  obtain ⟨c0, c1, c2, c3, c4⟩ := hb.cell
  have hp := hb.lt
  clear hb
  go_enter Try.func12, Try.ntmps12
  go_wp2
  go_ret
  exact ⟨rfl, rfl⟩
theorem spent_nil (w : World) : Calls Try.prog 18 #[.pointer none] w fun e w' => e = .returned (.int .i64 0) ∧ w = w' := by
  go_enter Try.func18, Try.ntmps18
  go_wp2
  go_ret
  exact ⟨rfl, rfl⟩
theorem spent_any (w : World) (p : Nat) (b : Bd) (hb : HasBand w p b) : Calls Try.prog 18 #[.pointer (some ⟨p, 0, none⟩)] w fun e w' => e = .returned (.int .i64 b.spent) ∧ w = w' := by
  obtain ⟨c0, c1, c2, c3, c4⟩ := hb.cell
  have hp := hb.lt
  clear hb
  go_enter Try.func18, Try.ntmps18
  go_wp2
  go_ret
  exact ⟨rfl, rfl⟩
theorem limited_nil (w : World) : Calls Try.prog 30 #[.pointer none] w fun e w' => e = .returned (.bool false) ∧ w = w' := by
  go_enter Try.func30, Try.ntmps30
  go_wp2
  go_ret
  exact ⟨rfl, rfl⟩
theorem limited_any (w : World) (p : Nat) (b : Bd) (hb : HasBand w p b) : Calls Try.prog 30 #[.pointer (some ⟨p, 0, none⟩)] w fun e w' => e = .returned (.bool (decide (0 < b.q))) ∧ w = w' := by
  obtain ⟨c0, c1, c2, c3, c4⟩ := hb.cell
  have hp := hb.lt
  clear hb
  go_enter Try.func30, Try.ntmps30
  go_wp2
  go_ret
  exact ⟨rfl, rfl⟩
theorem local_nil (k : Int) (w : World) : Calls Try.prog 14 #[.pointer none, .int .i64 k] w fun e w' => e = .returned (.int .i64 0) ∧ w = w' := by
  go_enter Try.func14, Try.ntmps14
  go_wp2_with (go_at_call 31; refine (there_nil _ _).mono ?_; rintro e w1 ⟨rfl, rfl⟩)
  go_ret
  exact ⟨rfl, rfl⟩
theorem local_not (k : Int) (w : World) (p : Nat) (b : Bd) (hb : HasBand w p b) (h : NotP b k) : Calls Try.prog 14 #[.pointer (some ⟨p, 0, none⟩), .int .i64 k] w fun e w' => e = .returned (.int .i64 0) ∧ w = w' := by
  go_enter Try.func14, Try.ntmps14
  go_wp2_with (go_at_call 31; refine (there_not _ _ _ _ hb h).mono ?_; rintro e w1 ⟨rfl, rfl⟩)
  go_ret
  exact ⟨rfl, rfl⟩
theorem local_in (k : Nat) (w : World) (p : Nat) (b : Bd) (hb : HasBand w p b) (h : k < b.l.length) : Calls Try.prog 14 #[.pointer (some ⟨p, 0, none⟩), .int .i64 k] w fun e w' => e = .returned (.int .i64 b.l[k]) ∧ w = w' := by
  obtain ⟨c0, c1, c2, c3, c4⟩ := hb.cell
  have hl := hb.loc k h
  have hp := hb.lt
  have hi := hb.hi
  have HB := Lib.hid hb
  clear hb
  go_enter Try.func14, Try.ntmps14
  go_wp2_with (go_at_call 31; refine (there_in _ _ _ _ HB.out h).mono ?_; rintro e w1 ⟨rfl, rfl⟩)
  go_ret
  exact ⟨rfl, rfl⟩

theorem ensure_nil (k : Int) (w : World) : Calls Try.prog 13 #[.pointer none, .int .i64 k] w fun e w' => e = .returned (.bool false) ∧ w = w' := by
  go_enter Try.func13, Try.ntmps13
  go_wp2_with (go_at_call 31; refine (there_nil _ _).mono ?_; rintro e w1 ⟨rfl, rfl⟩)
  go_ret
  exact ⟨rfl, rfl⟩
theorem ensure_not (k : Int) (w : World) (p : Nat) (b : Bd) (hb : HasBand w p b) (h : NotP b k) : Calls Try.prog 13 #[.pointer (some ⟨p, 0, none⟩), .int .i64 k] w fun e w' => e = .returned (.bool false) ∧ w = w' := by
  go_enter Try.func13, Try.ntmps13
  go_wp2_with (go_at_call 31; refine (there_not _ _ _ _ hb h).mono ?_; rintro e w1 ⟨rfl, rfl⟩)
  go_ret
  exact ⟨rfl, rfl⟩
theorem ensure_free (k : Nat) (w : World) (p : Nat) (b : Bd) (hb : HasBand w p b) (h : k < b.l.length) (hq : b.q = 0) : Calls Try.prog 13 #[.pointer (some ⟨p, 0, none⟩), .int .i64 k] w fun e w' => e = .returned (.bool true) ∧ w = w' := by
  obtain ⟨c0, c1, c2, c3, c4⟩ := hb.cell
  rw [hq] at c0
  have hp := hb.lt
  have HB := Lib.hid hb
  clear hb hq
  go_enter Try.func13, Try.ntmps13
  go_wp2_with (go_at_call 31; refine (there_in _ _ _ _ HB.out h).mono ?_; rintro e w1 ⟨rfl, rfl⟩)
  go_ret
  exact ⟨rfl, rfl⟩
theorem ensure_has (k : Nat) (o : Int) (w : World) (p : Nat) (b : Bd) (hb : HasBand w p b) (h : b.l[k]? = some o) (hq : 0 < b.q) (ho : 0 < o) : Calls Try.prog 13 #[.pointer (some ⟨p, 0, none⟩), .int .i64 k] w fun e w' => e = .returned (.bool true) ∧ w = w' := by
  obtain ⟨c0, c1, c2, c3, c4⟩ := hb.cell
  obtain ⟨hk, rfl⟩ := List.getElem?_eq_some_iff.1 h
  have hl := hb.loc k hk
  have hp := hb.lt
  have hi := hb.hi
  have hqb : (b.q == 0) = false := beq_eq_false_iff_ne.2 (by omega)
  have HB := Lib.hid hb
  clear hb h
  go_enter Try.func13, Try.ntmps13
  go_wp2_with (go_at_call 31; refine (there_in _ _ _ _ HB.out hk).mono ?_; rintro e w1 ⟨rfl, rfl⟩)
  go_ret
  exact ⟨rfl, rfl⟩
end Go.Proofs.Ytbhiinodejhggaa
