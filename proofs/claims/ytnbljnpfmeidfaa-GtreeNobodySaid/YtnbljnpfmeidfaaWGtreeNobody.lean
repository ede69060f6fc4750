/- The walk of the law GtreeNobody: it returns true. Condition: the arguments are handles. -/
import Derived.Test.YtnbljnpfmeidfaaAw
namespace Go.Proofs.Ytnbljnpfmeidfaa
open Go Go.RowKit Go.ChangeShapes Go.WideShapes
set_option linter.unusedVariables false

theorem create_nil (i g : Int) (w : World) :
    Calls Try.prog 20 #[.pointer none, .agg #[.int .i64 i, .int .i64 g]] w fun e w' => e = .returned (.tuple #[.agg #[.int .i64 0, .int .i64 0], .int .i64 2]) ∧ Below w.heap.size w w' :=
  create_two i g w none (fun W _ => tat_nil i g W)
theorem some_nil (c0 c1 : Nat) (w : World) :
    Calls Try.prog 33 #[.pointer none, .func (.func 34) #[] #[.pointer (some ⟨c0, 0, none⟩), .pointer (some ⟨c1, 0, none⟩)]] w fun e w' => e = .returned (.slice none 0 0) ∧ w = w' := by
  go_enter Try.func33, Try.ntmps33
  go_wp2_with fail
  refine (all_nil _).mono ?_
  rintro e w1 ⟨rfl, rfl⟩
  go_wp2_with fail
  go_loopg [5, 13] 0 (fun n vl vi wr => vl = .slice none 0 0 ∧ vi = .int .i64 0 ∧ w = wr)
  case atStart => exact ⟨rfl, rfl, rfl⟩
  case round =>
    obtain ⟨rfl, rfl, rfl⟩ := hrel
    go_wp2
    go_ret
    exact ⟨rfl, rfl⟩
theorem below_nil (i g : Int) (w : World) :
    Calls Try.prog 12 #[.pointer none, .agg #[.int .i64 i, .int .i64 g]] w fun e w' => e = .returned (.slice none 0 0) ∧ Below w.heap.size w w' := by
  go_enter Try.func12, Try.ntmps12
  go_wp2_with fail
  refine (some_nil _ _ _).mono ?_
  rintro e w1 ⟨rfl, rfl⟩
  go_wp2
  go_ret
  exact ⟨rfl, (below_alloc w _).alloc (by simp) _⟩
set_option maxHeartbeats 2000000 in
theorem walk_GtreeNobody (i g i2 g2 : Int) (w : World) :
    Calls Try.prog 8 #[.agg #[.int .i64 i, .int .i64 g], .agg #[.int .i64 i2, .int .i64 g2]] w fun e w' => e = .returned (.bool true) ∧ Below w.heap.size w w' := by
  obtain ⟨w0, hw0⟩ : ∃ w0, w0 = (w.alloc (hbox i g)).alloc (hbox i2 g2) := ⟨_, rfl⟩
  obtain ⟨z, hz⟩ : ∃ z, z = w.heap.size := ⟨_, rfl⟩
  obtain ⟨y, hy⟩ : ∃ y, y = w.heap.size + 1 := ⟨_, rfl⟩
  have B0 : Hid (Below w.heap.size w w0) := Lib.hid (by rw [hw0]; exact (below_alloc w _).alloc (by simp) _)
  have X0 : Hid (Hx w0 z i g) := Lib.hid (by rw [hw0, hz]; exact (Hx.new w i g).alloc _)
  have Y0 : Hid (Hx w0 y i2 g2) := Lib.hid (by rw [hw0, hy]; exact Hx.new1 w _ i2 g2)
  have W0 := Lib.hid (And.intro hw0 (And.intro hz hy))
  clear hw0 hz hy
  go_enter Try.func8, Try.ntmps8
  go_upto_region 1 with (fail)
  rw [show (w.alloc (Obj.cells #[Value.int IntKind.i64 i, Value.int IntKind.i64 g] 30)).alloc (Obj.cells #[Value.int IntKind.i64 i2, Value.int IntKind.i64 g2] 30) = w0 from W0.out.1.symm, ← W0.out.2.2, ← W0.out.2.1]
  obtain ⟨x0, x1⟩ := X0.out.c2
  obtain ⟨y0, y1⟩ := Y0.out.c2
  have xl := X0.out.lt
  have yl := Y0.out.lt
  go_wp2_with fail
  refine (awake _).mono ?_
  rintro e w1 ⟨rfl, hz⟩
  have B1 := Lib.hid (below_trans B0.out hz B0.out.size); have X1 := Lib.hid (X0.out.behind hz); have Y1 := Lib.hid (Y0.out.behind hz)
  clear hz x0 x1 y0 y1 xl yl
  obtain ⟨x0, x1⟩ := X1.out.c2
  obtain ⟨y0, y1⟩ := Y1.out.c2
  have xl := X1.out.lt
  have yl := Y1.out.lt
  go_wp2_with fail
  refine (create_nil _ _ _).mono ?_
  rintro e w2 ⟨rfl, hz⟩
  obtain ⟨v2, hv2⟩ : ∃ v, v = w2.alloc (hbox 0 0) := ⟨_, rfl⟩
  have B2 : Hid (Below w.heap.size w v2) := Lib.hid (by rw [hv2]; exact (below_trans B1.out hz B1.out.size).alloc (below_trans B1.out hz B1.out.size).size _)
  have X2 : Hid (Hx v2 z i g) := Lib.hid (by rw [hv2]; exact (X1.out.behind hz).alloc _)
  have Y2 : Hid (Hx v2 y i2 g2) := Lib.hid (by rw [hv2]; exact (Y1.out.behind hz).alloc _)
  have V2 := Lib.hid hv2
  clear hz x0 x1 y0 y1 xl yl hv2
  go_upto_region 4 with (fail)
  rw [show w2.alloc (Obj.cells #[Value.int IntKind.i64 0, Value.int IntKind.i64 0] 30) = v2 from V2.out.symm]
  obtain ⟨x0, x1⟩ := X2.out.c2
  obtain ⟨y0, y1⟩ := Y2.out.c2
  have xl := X2.out.lt
  have yl := Y2.out.lt
  go_wp2_with fail
  refine (parent_nil _ _ _).mono ?_
  rintro e w3 ⟨rfl, hz⟩
  obtain ⟨v3, hv3⟩ : ∃ v, v = w3.alloc (hbox 0 0) := ⟨_, rfl⟩
  have B3 : Hid (Below w.heap.size w v3) := Lib.hid (by rw [hv3]; exact (below_trans B2.out hz B2.out.size).alloc (below_trans B2.out hz B2.out.size).size _)
  have X3 : Hid (Hx v3 z i g) := Lib.hid (by rw [hv3]; exact (X2.out.behind hz).alloc _)
  have Y3 : Hid (Hx v3 y i2 g2) := Lib.hid (by rw [hv3]; exact (Y2.out.behind hz).alloc _)
  have V3 := Lib.hid hv3
  clear hz x0 x1 y0 y1 xl yl hv3
  go_upto_region 5 with (fail)
  rw [show w3.alloc (Obj.cells #[Value.int IntKind.i64 0, Value.int IntKind.i64 0] 30) = v3 from V3.out.symm]
  obtain ⟨x0, x1⟩ := X3.out.c2
  obtain ⟨y0, y1⟩ := Y3.out.c2
  have xl := X3.out.lt
  have yl := Y3.out.lt
  go_wp2_with fail
  refine (depth_nil _ _ _).mono ?_
  rintro e w4 ⟨rfl, hz⟩
  have B4 := Lib.hid (below_trans B3.out hz B3.out.size); have X4 := Lib.hid (X3.out.behind hz); have Y4 := Lib.hid (Y3.out.behind hz)
  clear hz x0 x1 y0 y1 xl yl
  obtain ⟨x0, x1⟩ := X4.out.c2
  obtain ⟨y0, y1⟩ := Y4.out.c2
  have xl := X4.out.lt
  have yl := Y4.out.lt
  go_wp2_with fail
  refine (path_nil _ _ _).mono ?_
  rintro e w5 ⟨rfl, hz⟩
  have B5 := Lib.hid (below_trans B4.out hz B4.out.size); have X5 := Lib.hid (X4.out.behind hz); have Y5 := Lib.hid (Y4.out.behind hz)
  clear hz x0 x1 y0 y1 xl yl
  obtain ⟨x0, x1⟩ := X5.out.c2
  obtain ⟨y0, y1⟩ := Y5.out.c2
  have xl := X5.out.lt
  have yl := Y5.out.lt
  go_wp2_with fail
  refine (destroy_nil _ _ _).mono ?_
  rintro e w6 ⟨rfl, hz⟩
  have B6 := Lib.hid (below_trans B5.out hz B5.out.size); have X6 := Lib.hid (X5.out.behind hz); have Y6 := Lib.hid (Y5.out.behind hz)
  clear hz x0 x1 y0 y1 xl yl
  obtain ⟨x0, x1⟩ := X6.out.c2
  obtain ⟨y0, y1⟩ := Y6.out.c2
  have xl := X6.out.lt
  have yl := Y6.out.lt
  go_wp2_with fail
  refine (move_nil _ _ _ _ _).mono ?_
  rintro e w7 ⟨rfl, hz⟩
  have B7 := Lib.hid (below_trans B6.out hz B6.out.size); have X7 := Lib.hid (X6.out.behind hz); have Y7 := Lib.hid (Y6.out.behind hz)
  clear hz x0 x1 y0 y1 xl yl
  obtain ⟨x0, x1⟩ := X7.out.c2
  obtain ⟨y0, y1⟩ := Y7.out.c2
  have xl := X7.out.lt
  have yl := Y7.out.lt
  go_wp2_with fail
  refine (kids_nil _ _ _).mono ?_
  rintro e w8 ⟨rfl, hz⟩
  have B8 := Lib.hid (below_trans B7.out hz B7.out.size); have X8 := Lib.hid (X7.out.behind hz); have Y8 := Lib.hid (Y7.out.behind hz)
  clear hz x0 x1 y0 y1 xl yl
  obtain ⟨x0, x1⟩ := X8.out.c2
  obtain ⟨y0, y1⟩ := Y8.out.c2
  have xl := X8.out.lt
  have yl := Y8.out.lt
  go_wp2_with fail
  refine (below_nil _ _ _).mono ?_
  rintro e w9 ⟨rfl, hz⟩
  have B9 := Lib.hid (below_trans B8.out hz B8.out.size); have X9 := Lib.hid (X8.out.behind hz); have Y9 := Lib.hid (Y8.out.behind hz)
  clear hz x0 x1 y0 y1 xl yl
  obtain ⟨x0, x1⟩ := X9.out.c2
  obtain ⟨y0, y1⟩ := Y9.out.c2
  have xl := X9.out.lt
  have yl := Y9.out.lt
  go_wp2_with fail
  refine (all_nil _).mono ?_
  rintro e w10 ⟨rfl, rfl⟩
  have B10 := B9; have X10 := X9; have Y10 := Y9
  clear x0 x1 y0 y1 xl yl
  obtain ⟨x0, x1⟩ := X10.out.c2
  obtain ⟨y0, y1⟩ := Y10.out.c2
  have xl := X10.out.lt
  have yl := Y10.out.lt
  go_wp2_with fail
  refine (under_nil _ _ _ _ _).mono ?_
  rintro e w11 ⟨rfl, hz⟩
  have B11 := Lib.hid (below_trans B10.out hz B10.out.size); have X11 := Lib.hid (X10.out.behind hz); have Y11 := Lib.hid (Y10.out.behind hz)
  clear hz x0 x1 y0 y1 xl yl
  go_wp2
  go_ret
  exact ⟨rfl, B11.out⟩
end Go.Proofs.Ytnbljnpfmeidfaa
