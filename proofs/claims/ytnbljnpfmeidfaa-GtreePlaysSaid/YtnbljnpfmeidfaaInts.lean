/- Contract of the law package's ints at two rows of the same numbers. Condition: both rows lie in memory. -/
import Derived.Test.YtnbljnpfmeidfaaGrown
namespace Go.Proofs.Ytnbljnpfmeidfaa
open Go Go.RowKit Go.ChangeShapes Go.WideShapes
set_option linter.unusedVariables false

set_option maxHeartbeats 1000000 in
set_option maxRecDepth 100000 in
theorem ints_eq (w : World) (b1 b2 n : Nat) (v1 v2 : Value) (T : List Int) (hn : n = T.length) (h1 : w.ownsRow b1 3 1 v1 n (iv T)) (h2 : w.ownsRow b2 3 1 v2 n (iv T)) (hb : n ≤ 9223372036854775807) :
    Calls Try.prog 17 #[v1, v2] w fun e w' => e = .returned (.bool true) ∧ ∃ d, w.drewN d = w' := by
  obtain ⟨a1, c1, rfl⟩ := hrow_nil h1
  obtain ⟨a2, c2, rfl⟩ := hrow_nil h2
  have H1 := Lib.hid h1; have H2 := Lib.hid h2; have HN := Lib.hid hn
  clear h1 h2 hn
  go_enter Try.func17, Try.ntmps17
  go_wp2_with fail
  go_loopw [5] (fun i wr => ∃ k d : Nat, k ≤ n ∧ i = .int .i64 k ∧ wr = w.drewN d) (fun i _ => n - (intOf i).toNat)
  case atStart => exact ⟨0, 0, by omega, rfl, rfl⟩
  case round =>
    obtain ⟨k, d, hk, rfl, rfl⟩ := hrel
    by_cases hkn : k < n
    · obtain ⟨x, hT⟩ : ∃ x, T[k]? = some x := ⟨_, List.getElem?_eq_getElem (by rw [← HN.out]; exact hkn)⟩
      obtain ⟨t1, rfl⟩ := hrow_some H1.out (by omega)
      obtain ⟨t2, rfl⟩ := hrow_some H2.out (by omega)
      have x0 := icell H1.out HN.out k x hT
      have y0 := icell H2.out HN.out k x hT
      have xl := (H1.out.lt t1 rfl).2
      have yl := (H2.out.lt t2 rfl).2
      clear hT
      go_wp2_with fail
      go_quiet (fail)
      go_wp2_with fail
      go_roundw
      case rel => exact ⟨k + 1, _, by omega, by go_num, rfl⟩
      case measure => simp [intOf]; omega
    · go_wp2
      go_ret
      exact ⟨rfl, d, rfl⟩
end Go.Proofs.Ytnbljnpfmeidfaa
