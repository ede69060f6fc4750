/- The walk of the law ArenaNobody: it returns true. No conditions. -/
import Derived.Test.YtdkfdpiikhgfiaaPoolA
namespace Go.Proofs.Ytdkfdpiikhgfiaa
open Go Go.RowKit Go.ChangeShapes Go.WideShapes
set_option linter.unusedVariables false

theorem all_nil (w : World) : Calls Try.prog 24 #[.pointer none] w fun e w' => e = .returned (.slice none 0 0) ∧ w = w' := by
  go_enter Try.func24, Try.ntmps24
  go_wp2
  go_ret
  exact ⟨rfl, rfl⟩

set_option maxHeartbeats 1000000 in
theorem walk_ArenaNobody (i g x : Int) (w : World) :
    Calls Try.prog 8 #[.agg #[.int .i64 i, .int .i64 g], .int .i64 x] w fun e w' => e = .returned (.bool true) ∧ Below w.heap.size w w' := by
  go_enter Try.func8, Try.ntmps8
  go_wp2_with fail
  refine (awake _).mono ?_
  rintro e w1 ⟨rfl, b1⟩
  have hx := (Box.new w i g).below b1
  have hb := Lib.hid (((Below.refl w.heap.size w).alloc (Nat.le_refl _) (.cells #[.int .i64 i, .int .i64 g] 31)).trans (below_le b1 (by simp)))
  have hz := b1.size
  simp at hz
  clear b1
  go_wp2_with fail
  refine (put_nil _ _).mono ?_
  rintro e w2 ⟨rfl, b2⟩
  have hx2 := (hx.below b2).alloc (.cells #[.int .i64 0, .int .i64 0] 31)
  have hb2 := Lib.hid ((hb.out.trans (below_le b2 (by omega))).alloc (by have := b2.size; omega) (.cells #[.int .i64 0, .int .i64 0] 31))
  obtain ⟨x0, x1⟩ := hx2.cells
  have hz2 := b2.size
  clear hx b2
  go_wp2_with fail
  refine (get_nil _ _ _).mono ?_
  rintro e w3 ⟨rfl, b3⟩
  have hx3 := hx2.below b3
  have hb3 := Lib.hid (hb2.out.trans (below_le b3 (by simp; omega)))
  have hz3 := b3.size
  simp at hz3
  clear x0 x1 hx2 b3
  obtain ⟨x0, x1⟩ := hx3.cells
  go_wp2_with fail
  refine (free_nil _ _ _).mono ?_
  rintro e w4 ⟨rfl, b4⟩
  have hx4 := hx3.below b4
  have hb4 := Lib.hid (hb3.out.trans (below_le b4 (by omega)))
  have hz4 := b4.size
  clear x0 x1 hx3 b4
  obtain ⟨x0, x1⟩ := hx4.cells
  go_wp2_with fail
  refine (set_nil _ _ _ _).mono ?_
  rintro e w5 ⟨rfl, b5⟩
  have hb5 := Lib.hid (hb4.out.trans (below_le b5 (by omega)))
  clear x0 x1 hx4 b5
  go_wp2_with fail
  refine (len_nil _).mono ?_
  rintro e w6 ⟨rfl, rfl⟩
  go_wp2_with fail
  refine (all_nil _).mono ?_
  rintro e w7 ⟨rfl, rfl⟩
  go_wp2
  go_ret
  exact ⟨rfl, hb5.out⟩
theorem walk_ArenaNobody' (cs : List Value) (x : Int) (w : World) (h : ∃ a b : Int, cs = [.int .i64 a, .int .i64 b]) :
    Calls Try.prog 8 #[.agg ⟨cs⟩, .int .i64 x] w fun e w' => e = .returned (.bool true) ∧ Below w.heap.size w w' := by
  obtain ⟨a, b, rfl⟩ := h
  exact walk_ArenaNobody a b x w
end Go.Proofs.Ytdkfdpiikhgfiaa
