/- The walk of the law VrunCharges: it returns true. Conditions: the arguments are numbers that their kinds hold. -/
import Derived.Test.YtbmpepimldjmhaaVrun
import Derived.Test.YtbmpepimldjmhaaVrunPlain
import Derived.Test.YtbmpepimldjmhaaFlat
namespace Go.Proofs.Ytbmpepimldjmhaa
open Go Go.RowKit Go.ChangeShapes Go.WideShapes
set_option linter.unusedVariables false

theorem below_drewN {B : Nat} {a w : World} (h : Below B a w) (n : Nat) : Below B a (w.drewN n) := ⟨h.os, h.tape, h.output, h.size, h.block⟩

theorem walk_VrunCharges (a b c d : Int) (w : World) (ha : 0 ≤ a ∧ a ≤ 18446744073709551615) (hb : 0 ≤ b ∧ b ≤ 18446744073709551615) (hc : 0 ≤ c ∧ c ≤ 18446744073709551615) :
    Calls Try.prog 3 #[.agg #[.int .u64 a, .int .u64 b, .int .u64 c], .int .i64 d] w fun e w' => e = .returned (.bool true) ∧ Below w.heap.size w w' := by
  have h1 := ha.1
  have h2 := hb.1
  have h3 := hc.1
  go_enter Try.func3, Try.ntmps3
  go_wp2_with fail
  refine (awake _).mono ?_
  rintro e w' ⟨rfl, n1, rfl⟩
  go_wp2_with fail
  refine (charge_any _ _ _ _ h1 h2 h3).mono ?_
  rintro e w' ⟨rfl, m1, rfl⟩
  go_wp2_with fail
  refine (refcharge_any _ _ _ _ h1 h2 h3).mono ?_
  rintro e w' ⟨rfl, m2, rfl⟩
  go_wp2_with fail
  refine (need_any _ _ _ _ h2).mono ?_
  rintro e w' ⟨rfl, m3, rfl⟩
  go_wp2_with fail
  refine (refneed_any _ _ _ _ h2).mono ?_
  rintro e w' ⟨rfl, m4, rfl⟩
  go_wp2
  go_ret
  exact ⟨rfl, by repeat (first | exact Below.refl _ _ | apply below_drewN | exact (Below.refl _ _).alloc (Nat.le_refl _) _)⟩
theorem walk_VrunCharges' (cs : List Value) (d : Int) (w : World) (h : Flat [some .u64, some .u64, some .u64] cs) :
    Calls Try.prog 3 #[.agg ⟨cs⟩, .int .i64 d] w fun e w' => e = .returned (.bool true) ∧ Below w.heap.size w w' := by
  match cs, h with
  | [_, _, _], h =>
    obtain ⟨⟨a, rfl, ha⟩, ⟨b, rfl, hb⟩, ⟨c, rfl, hc⟩, _⟩ := h
    exact walk_VrunCharges a b c d w (in64u_of_wf ha) (in64u_of_wf hb) (in64u_of_wf hc)
end Go.Proofs.Ytbmpepimldjmhaa
