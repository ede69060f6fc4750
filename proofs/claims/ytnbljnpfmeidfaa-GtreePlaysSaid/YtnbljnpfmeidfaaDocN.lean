/- The document's tree of groups, told by value: Move. Condition: the tree is within bounds, its groups within one another. -/
import Derived.Test.YtnbljnpfmeidfaaDocM
namespace Go.Proofs.Ytnbljnpfmeidfaa
open Go Go.RowKit Go.ChangeShapes Go.WideShapes
set_option linter.unusedVariables false

set_option maxHeartbeats 1000000 in
/-- the first group is not named -/
theorem rmove_one (i g i2 g2 : Int) (b : Nat) (w : World) (s : Ps) (v1 v2 v3 v4 : Sv) (h : RfV w 32 s v1 v2 v3 v4) (ho : s.Ok 32 b) (hb : b ≤ 1000) (hf : s.find i g = none) :
    Calls Try.prog 26 #[.agg (vcl 32 v1 v2 v3 v4), .agg #[.int .i64 i, .int .i64 g], .agg #[.int .i64 i2, .int .i64 g2]] w fun e w' => e = .returned (.tuple #[.agg (vcl 32 v1 v2 v3 v4), .int .i64 2]) ∧ Below w.heap.size w w' := by
  have HO := Lib.hid ho
  have HR := Lib.hid h
  have HF := Lib.hid hf
  clear h ho hf
  go_enter Try.func26, Try.ntmps26
  go_upto_region 1 with (fail)
  obtain ⟨w1, hw1⟩ : ∃ w1, w1 = (((w.alloc (ubox v1 v2 v3 v4)).alloc (hbox i g)).alloc (hbox i2 g2)).alloc (ubox0) := ⟨_, rfl⟩
  have HX : Hid (Ux w1 w.heap.size (vcl 32 v1 v2 v3 v4)) := Lib.hid (by rw [hw1]; exact (((Ux.new w _).alloc _).alloc _).alloc _)
  have HY : Hid (Hx w1 (w.heap.size + 1) i g) := Lib.hid (by rw [hw1]; exact ((Hx.new1 w _ i g).alloc _).alloc _)
  have HZ : Hid (Hx w1 (w.heap.size + 1 + 1) i2 g2) := Lib.hid (by rw [hw1]; exact (Hx.here _ _ (by simp)).alloc _)
  have HU : Hid (Ux w1 (w.heap.size + 1 + 1 + 1) uz) := Lib.hid (by rw [hw1]; exact Ux.here _ (by simp))
  have HB : Hid (Below w.heap.size w w1) := Lib.hid (by rw [hw1]; exact (((below_alloc w _).alloc (by simp) _).alloc (by simp; omega) _).alloc (by simp; omega) _)
  rw [← hw1]
  clear hw1
  obtain ⟨x, hx⟩ : ∃ x, x = w.heap.size := ⟨_, rfl⟩
  obtain ⟨y, hy⟩ : ∃ y, y = w.heap.size + 1 := ⟨_, rfl⟩
  obtain ⟨z, hz⟩ : ∃ z, z = w.heap.size + 1 + 1 := ⟨_, rfl⟩
  obtain ⟨u, hu⟩ : ∃ u, u = w.heap.size + 1 + 1 + 1 := ⟨_, rfl⟩
  rw [← hu, ← hz, ← hy, ← hx]
  rw [← hx] at HX; rw [← hy] at HY; rw [← hz] at HZ; rw [← hu] at HU
  have HN : Hid (x = w.heap.size ∧ y = w.heap.size + 1 ∧ z = w.heap.size + 1 + 1 ∧ u = w.heap.size + 1 + 1 + 1) := Lib.hid ⟨hx, hy, hz, hu⟩
  clear hx hy hz hu
  have HC := Lib.hid (rv_no HF.out (HR.out.behind HB.out) HO.out hb)
  obtain ⟨x0, x1, x2, x3, x4⟩ := HX.out.c5
  have xl := HX.out.lt
  obtain ⟨y0, y1⟩ := HY.out.c2
  have yl := HY.out.lt
  obtain ⟨z0, z1⟩ := HZ.out.c2
  have zl := HZ.out.lt
  go_wp2_with fail
  refine HC.out.mono ?_
  rintro e w2 ⟨rfl, hz2⟩
  replace HU := Lib.hid (HU.out.behind hz2)
  replace HZ := Lib.hid (HZ.out.behind hz2)
  replace HX := Lib.hid (HX.out.behind hz2)
  replace HY := Lib.hid (HY.out.behind hz2)
  replace HB := Lib.hid (below_trans HB.out hz2 HB.out.size)
  clear hz2 x0 x1 x2 x3 x4 y0 y1 xl yl HC z0 z1 zl
  obtain ⟨x0, x1, x2, x3, x4⟩ := HX.out.c5
  have xl := HX.out.lt
  obtain ⟨u0, u1, u2, u3, u4⟩ := HU.out.c5
  have uf := HU.out.frz
  have ul := HU.out.lt
  have n2 : ¬ u = x := by have := HN.out; omega
  go_wp2_with fail
  obtain ⟨w4, hw4⟩ : ∃ w4, w4 = put5 w2 u v1 v2 v3 v4 := ⟨_, rfl⟩
  rw [show (((((w2).setCell ⟨u, 0, none⟩ (.int .i64 32)).setCell ⟨u, 1, none⟩ (.slice v1.a v1.n v1.c)).setCell ⟨u, 2, none⟩ (.slice v2.a v2.n v2.c)).setCell ⟨u, 3, none⟩ (.slice v3.a v3.n v3.c)).setCell ⟨u, 4, none⟩ (.slice v4.a v4.n v4.c) = w4 from hw4.symm]
  have hb4 : Below w.heap.size w w4 := by rw [hw4]; exact put5_below HB.out (by have := HN.out; omega) _ _ _ _
  have HU4 : Ux w4 u (vcl 32 v1 v2 v3 v4) := by rw [hw4]; exact ux_five HU.out
  clear x0 x1 x2 x3 x4 u0 u1 u2 u3 u4 hw4
  obtain ⟨u0, u1, u2, u3, u4⟩ := HU4.c5
  refine bodyPost_ret (v := .tuple #[.agg (vcl 32 v1 v2 v3 v4), .int .i64 2]) (by simp [results, Try.results26, go_sem, u0, u1, u2, u3, u4]) rfl ?_
  exact ⟨rfl, hb4⟩
set_option maxHeartbeats 1000000 in
/-- the other group is not named -/
theorem rmove_two (k : Nat) (i g i2 g2 : Int) (b : Nat) (w : World) (s : Ps) (v1 v2 v3 v4 : Sv) (h : RfV w 32 s v1 v2 v3 v4) (ho : s.Ok 32 b) (hb : b ≤ 1000) (hf : s.find i g = some k) (hf2 : s.find i2 g2 = none) :
    Calls Try.prog 26 #[.agg (vcl 32 v1 v2 v3 v4), .agg #[.int .i64 i, .int .i64 g], .agg #[.int .i64 i2, .int .i64 g2]] w fun e w' => e = .returned (.tuple #[.agg (vcl 32 v1 v2 v3 v4), .int .i64 2]) ∧ Below w.heap.size w w' := by
  have HO := Lib.hid ho
  have HR := Lib.hid h
  have HF := Lib.hid hf
  have HF2 := Lib.hid hf2
  clear h ho hf hf2
  go_enter Try.func26, Try.ntmps26
  go_upto_region 1 with (fail)
  obtain ⟨w1, hw1⟩ : ∃ w1, w1 = (((w.alloc (ubox v1 v2 v3 v4)).alloc (hbox i g)).alloc (hbox i2 g2)).alloc (ubox0) := ⟨_, rfl⟩
  have HX : Hid (Ux w1 w.heap.size (vcl 32 v1 v2 v3 v4)) := Lib.hid (by rw [hw1]; exact (((Ux.new w _).alloc _).alloc _).alloc _)
  have HY : Hid (Hx w1 (w.heap.size + 1) i g) := Lib.hid (by rw [hw1]; exact ((Hx.new1 w _ i g).alloc _).alloc _)
  have HZ : Hid (Hx w1 (w.heap.size + 1 + 1) i2 g2) := Lib.hid (by rw [hw1]; exact (Hx.here _ _ (by simp)).alloc _)
  have HU : Hid (Ux w1 (w.heap.size + 1 + 1 + 1) uz) := Lib.hid (by rw [hw1]; exact Ux.here _ (by simp))
  have HB : Hid (Below w.heap.size w w1) := Lib.hid (by rw [hw1]; exact (((below_alloc w _).alloc (by simp) _).alloc (by simp; omega) _).alloc (by simp; omega) _)
  rw [← hw1]
  clear hw1
  obtain ⟨x, hx⟩ : ∃ x, x = w.heap.size := ⟨_, rfl⟩
  obtain ⟨y, hy⟩ : ∃ y, y = w.heap.size + 1 := ⟨_, rfl⟩
  obtain ⟨z, hz⟩ : ∃ z, z = w.heap.size + 1 + 1 := ⟨_, rfl⟩
  obtain ⟨u, hu⟩ : ∃ u, u = w.heap.size + 1 + 1 + 1 := ⟨_, rfl⟩
  rw [← hu, ← hz, ← hy, ← hx]
  rw [← hx] at HX; rw [← hy] at HY; rw [← hz] at HZ; rw [← hu] at HU
  have HN : Hid (x = w.heap.size ∧ y = w.heap.size + 1 ∧ z = w.heap.size + 1 + 1 ∧ u = w.heap.size + 1 + 1 + 1) := Lib.hid ⟨hx, hy, hz, hu⟩
  clear hx hy hz hu
  have HC := Lib.hid (rv_yes HF.out (HR.out.behind HB.out) HO.out hb)
  obtain ⟨x0, x1, x2, x3, x4⟩ := HX.out.c5
  have xl := HX.out.lt
  obtain ⟨y0, y1⟩ := HY.out.c2
  have yl := HY.out.lt
  obtain ⟨z0, z1⟩ := HZ.out.c2
  have zl := HZ.out.lt
  go_wp2_with fail
  refine HC.out.mono ?_
  rintro e w2 ⟨rfl, hz2⟩
  replace HU := Lib.hid (HU.out.behind hz2)
  replace HZ := Lib.hid (HZ.out.behind hz2)
  replace HX := Lib.hid (HX.out.behind hz2)
  replace HY := Lib.hid (HY.out.behind hz2)
  replace HB := Lib.hid (below_trans HB.out hz2 HB.out.size)
  clear hz2 x0 x1 x2 x3 x4 y0 y1 xl yl HC z0 z1 zl
  obtain ⟨x0, x1, x2, x3, x4⟩ := HX.out.c5
  have xl := HX.out.lt
  obtain ⟨y0, y1⟩ := HY.out.c2
  have yl := HY.out.lt
  obtain ⟨z0, z1⟩ := HZ.out.c2
  have zl := HZ.out.lt
  have HC := Lib.hid (rv_no HF2.out (HR.out.behind HB.out) HO.out hb)
  go_wp2_with fail
  refine HC.out.mono ?_
  rintro e w3 ⟨rfl, hz3⟩
  replace HU := Lib.hid (HU.out.behind hz3)
  replace HZ := Lib.hid (HZ.out.behind hz3)
  replace HX := Lib.hid (HX.out.behind hz3)
  replace HY := Lib.hid (HY.out.behind hz3)
  replace HB := Lib.hid (below_trans HB.out hz3 HB.out.size)
  clear hz3 x0 x1 x2 x3 x4 y0 y1 xl yl HC z0 z1 zl
  obtain ⟨x0, x1, x2, x3, x4⟩ := HX.out.c5
  have xl := HX.out.lt
  obtain ⟨u0, u1, u2, u3, u4⟩ := HU.out.c5
  have uf := HU.out.frz
  have ul := HU.out.lt
  have n2 : ¬ u = x := by have := HN.out; omega
  go_wp2_with fail
  obtain ⟨w4, hw4⟩ : ∃ w4, w4 = put5 w3 u v1 v2 v3 v4 := ⟨_, rfl⟩
  rw [show (((((w3).setCell ⟨u, 0, none⟩ (.int .i64 32)).setCell ⟨u, 1, none⟩ (.slice v1.a v1.n v1.c)).setCell ⟨u, 2, none⟩ (.slice v2.a v2.n v2.c)).setCell ⟨u, 3, none⟩ (.slice v3.a v3.n v3.c)).setCell ⟨u, 4, none⟩ (.slice v4.a v4.n v4.c) = w4 from hw4.symm]
  have hb4 : Below w.heap.size w w4 := by rw [hw4]; exact put5_below HB.out (by have := HN.out; omega) _ _ _ _
  have HU4 : Ux w4 u (vcl 32 v1 v2 v3 v4) := by rw [hw4]; exact ux_five HU.out
  clear x0 x1 x2 x3 x4 u0 u1 u2 u3 u4 hw4
  obtain ⟨u0, u1, u2, u3, u4⟩ := HU4.c5
  refine bodyPost_ret (v := .tuple #[.agg (vcl 32 v1 v2 v3 v4), .int .i64 2]) (by simp [results, Try.results26, go_sem, u0, u1, u2, u3, u4]) rfl ?_
  exact ⟨rfl, hb4⟩
set_option maxHeartbeats 1000000 in
theorem rmove_root (g i2 g2 : Int) (pk : Nat) (b : Nat) (w : World) (s : Ps) (v1 v2 v3 v4 : Sv) (h : RfV w 32 s v1 v2 v3 v4) (ho : s.Ok 32 b) (hb : b ≤ 1000) (hf : s.find 0 g = some 0) (hf2 : s.find i2 g2 = some pk) :
    Calls Try.prog 26 #[.agg (vcl 32 v1 v2 v3 v4), .agg #[.int .i64 0, .int .i64 g], .agg #[.int .i64 i2, .int .i64 g2]] w fun e w' => e = .returned (.tuple #[.agg (vcl 32 v1 v2 v3 v4), .int .i64 1]) ∧ Below w.heap.size w w' := by
  have HO := Lib.hid ho
  have HR := Lib.hid h
  have HF := Lib.hid hf
  have HF2 := Lib.hid hf2
  clear h ho hf hf2
  go_enter Try.func26, Try.ntmps26
  go_upto_region 1 with (fail)
  obtain ⟨w1, hw1⟩ : ∃ w1, w1 = (((w.alloc (ubox v1 v2 v3 v4)).alloc (hbox 0 g)).alloc (hbox i2 g2)).alloc (ubox0) := ⟨_, rfl⟩
  have HX : Hid (Ux w1 w.heap.size (vcl 32 v1 v2 v3 v4)) := Lib.hid (by rw [hw1]; exact (((Ux.new w _).alloc _).alloc _).alloc _)
  have HY : Hid (Hx w1 (w.heap.size + 1) 0 g) := Lib.hid (by rw [hw1]; exact ((Hx.new1 w _ 0 g).alloc _).alloc _)
  have HZ : Hid (Hx w1 (w.heap.size + 1 + 1) i2 g2) := Lib.hid (by rw [hw1]; exact (Hx.here _ _ (by simp)).alloc _)
  have HU : Hid (Ux w1 (w.heap.size + 1 + 1 + 1) uz) := Lib.hid (by rw [hw1]; exact Ux.here _ (by simp))
  have HB : Hid (Below w.heap.size w w1) := Lib.hid (by rw [hw1]; exact (((below_alloc w _).alloc (by simp) _).alloc (by simp; omega) _).alloc (by simp; omega) _)
  rw [← hw1]
  clear hw1
  obtain ⟨x, hx⟩ : ∃ x, x = w.heap.size := ⟨_, rfl⟩
  obtain ⟨y, hy⟩ : ∃ y, y = w.heap.size + 1 := ⟨_, rfl⟩
  obtain ⟨z, hz⟩ : ∃ z, z = w.heap.size + 1 + 1 := ⟨_, rfl⟩
  obtain ⟨u, hu⟩ : ∃ u, u = w.heap.size + 1 + 1 + 1 := ⟨_, rfl⟩
  rw [← hu, ← hz, ← hy, ← hx]
  rw [← hx] at HX; rw [← hy] at HY; rw [← hz] at HZ; rw [← hu] at HU
  have HN : Hid (x = w.heap.size ∧ y = w.heap.size + 1 ∧ z = w.heap.size + 1 + 1 ∧ u = w.heap.size + 1 + 1 + 1) := Lib.hid ⟨hx, hy, hz, hu⟩
  clear hx hy hz hu
  have HC := Lib.hid (rv_yes HF.out (HR.out.behind HB.out) HO.out hb)
  obtain ⟨x0, x1, x2, x3, x4⟩ := HX.out.c5
  have xl := HX.out.lt
  obtain ⟨y0, y1⟩ := HY.out.c2
  have yl := HY.out.lt
  obtain ⟨z0, z1⟩ := HZ.out.c2
  have zl := HZ.out.lt
  go_wp2_with fail
  refine HC.out.mono ?_
  rintro e w2 ⟨rfl, hz2⟩
  replace HU := Lib.hid (HU.out.behind hz2)
  replace HZ := Lib.hid (HZ.out.behind hz2)
  replace HX := Lib.hid (HX.out.behind hz2)
  replace HY := Lib.hid (HY.out.behind hz2)
  replace HB := Lib.hid (below_trans HB.out hz2 HB.out.size)
  clear hz2 x0 x1 x2 x3 x4 y0 y1 xl yl HC z0 z1 zl
  obtain ⟨x0, x1, x2, x3, x4⟩ := HX.out.c5
  have xl := HX.out.lt
  obtain ⟨y0, y1⟩ := HY.out.c2
  have yl := HY.out.lt
  obtain ⟨z0, z1⟩ := HZ.out.c2
  have zl := HZ.out.lt
  have HC := Lib.hid (rv_yes HF2.out (HR.out.behind HB.out) HO.out hb)
  go_wp2_with fail
  refine HC.out.mono ?_
  rintro e w3 ⟨rfl, hz3⟩
  replace HU := Lib.hid (HU.out.behind hz3)
  replace HZ := Lib.hid (HZ.out.behind hz3)
  replace HX := Lib.hid (HX.out.behind hz3)
  replace HY := Lib.hid (HY.out.behind hz3)
  replace HB := Lib.hid (below_trans HB.out hz3 HB.out.size)
  clear hz3 x0 x1 x2 x3 x4 y0 y1 xl yl HC z0 z1 zl
  obtain ⟨x0, x1, x2, x3, x4⟩ := HX.out.c5
  have xl := HX.out.lt
  obtain ⟨u0, u1, u2, u3, u4⟩ := HU.out.c5
  have uf := HU.out.frz
  have ul := HU.out.lt
  have n2 : ¬ u = x := by have := HN.out; omega
  obtain ⟨y0, y1⟩ := HY.out.c2
  have yl := HY.out.lt
  go_wp2_with fail
  obtain ⟨w4, hw4⟩ : ∃ w4, w4 = put5 w3 u v1 v2 v3 v4 := ⟨_, rfl⟩
  rw [show (((((w3).setCell ⟨u, 0, none⟩ (.int .i64 32)).setCell ⟨u, 1, none⟩ (.slice v1.a v1.n v1.c)).setCell ⟨u, 2, none⟩ (.slice v2.a v2.n v2.c)).setCell ⟨u, 3, none⟩ (.slice v3.a v3.n v3.c)).setCell ⟨u, 4, none⟩ (.slice v4.a v4.n v4.c) = w4 from hw4.symm]
  have hb4 : Below w.heap.size w w4 := by rw [hw4]; exact put5_below HB.out (by have := HN.out; omega) _ _ _ _
  have HU4 : Ux w4 u (vcl 32 v1 v2 v3 v4) := by rw [hw4]; exact ux_five HU.out
  clear x0 x1 x2 x3 x4 u0 u1 u2 u3 u4 hw4
  obtain ⟨u0, u1, u2, u3, u4⟩ := HU4.c5
  refine bodyPost_ret (v := .tuple #[.agg (vcl 32 v1 v2 v3 v4), .int .i64 1]) (by simp [results, Try.results26, go_sem, u0, u1, u2, u3, u4]) rfl ?_
  exact ⟨rfl, hb4⟩
set_option maxHeartbeats 1000000 in
/-- neither root, both named -/
theorem rmove_loop (hk pk : Nat) (qh qp : Pl) (b : Nat) (w : World) (s : Ps) (v1 v2 v3 v4 : Sv) (h : RfV w 32 s v1 v2 v3 v4) (ho : s.Ok 32 b) (hb : b ≤ 1000) (htr : Tr s.l) (h1 : s.l[hk]? = some qh) (h2 : qh.used = true) (p1 : s.l[pk]? = some qp) (p2 : qp.used = true) (h0 : hk ≠ 0) (hl : und s.l pk hk = true) :
    Calls Try.prog 26 #[.agg (vcl 32 v1 v2 v3 v4), .agg #[.int .i64 hk, .int .i64 qh.gen], .agg #[.int .i64 pk, .int .i64 qp.gen]] w fun e w' => e = .returned (.tuple #[.agg (vcl 32 v1 v2 v3 v4), .int .i64 10]) ∧ Below w.heap.size w w' := by
  have HF := Lib.hid (find_of h1 h2).1
  have HF2 := Lib.hid (find_of p1 p2).1
  have HD := Lib.hid (fun (W : World) h => rbelow_any pk hk b W s v1 v2 v3 v4 h ho hb htr ⟨qp, p1, p2⟩)
  rw [hl] at HD
  have HO := Lib.hid ho
  have HR := Lib.hid h
  have hk1 : ((hk : Int) == 0) = false := beq_eq_false_iff_ne.2 (by omega)
  generalize hgg : qh.gen = g at *
  generalize hgp : qp.gen = gp at *
  have HGG := Lib.hid (And.intro hgg hgp)
  clear h ho htr h1 h2 p1 p2 h0 hl hgg hgp
  go_enter Try.func26, Try.ntmps26
  go_upto_region 1 with (fail)
  obtain ⟨w1, hw1⟩ : ∃ w1, w1 = (((w.alloc (ubox v1 v2 v3 v4)).alloc (hbox hk g)).alloc (hbox pk gp)).alloc (ubox0) := ⟨_, rfl⟩
  have HX : Hid (Ux w1 w.heap.size (vcl 32 v1 v2 v3 v4)) := Lib.hid (by rw [hw1]; exact (((Ux.new w _).alloc _).alloc _).alloc _)
  have HY : Hid (Hx w1 (w.heap.size + 1) hk g) := Lib.hid (by rw [hw1]; exact ((Hx.new1 w _ hk g).alloc _).alloc _)
  have HZ : Hid (Hx w1 (w.heap.size + 1 + 1) pk gp) := Lib.hid (by rw [hw1]; exact (Hx.here _ _ (by simp)).alloc _)
  have HU : Hid (Ux w1 (w.heap.size + 1 + 1 + 1) uz) := Lib.hid (by rw [hw1]; exact Ux.here _ (by simp))
  have HB : Hid (Below w.heap.size w w1) := Lib.hid (by rw [hw1]; exact (((below_alloc w _).alloc (by simp) _).alloc (by simp; omega) _).alloc (by simp; omega) _)
  rw [← hw1]
  clear hw1
  obtain ⟨x, hx⟩ : ∃ x, x = w.heap.size := ⟨_, rfl⟩
  obtain ⟨y, hy⟩ : ∃ y, y = w.heap.size + 1 := ⟨_, rfl⟩
  obtain ⟨z, hz⟩ : ∃ z, z = w.heap.size + 1 + 1 := ⟨_, rfl⟩
  obtain ⟨u, hu⟩ : ∃ u, u = w.heap.size + 1 + 1 + 1 := ⟨_, rfl⟩
  rw [← hu, ← hz, ← hy, ← hx]
  rw [← hx] at HX; rw [← hy] at HY; rw [← hz] at HZ; rw [← hu] at HU
  have HN : Hid (x = w.heap.size ∧ y = w.heap.size + 1 ∧ z = w.heap.size + 1 + 1 ∧ u = w.heap.size + 1 + 1 + 1) := Lib.hid ⟨hx, hy, hz, hu⟩
  clear hx hy hz hu
  have HC := Lib.hid (rv_yes HF.out (HR.out.behind HB.out) HO.out hb)
  obtain ⟨x0, x1, x2, x3, x4⟩ := HX.out.c5
  have xl := HX.out.lt
  obtain ⟨y0, y1⟩ := HY.out.c2
  have yl := HY.out.lt
  obtain ⟨z0, z1⟩ := HZ.out.c2
  have zl := HZ.out.lt
  go_wp2_with fail
  refine HC.out.mono ?_
  rintro e w2 ⟨rfl, hz2⟩
  replace HU := Lib.hid (HU.out.behind hz2)
  replace HZ := Lib.hid (HZ.out.behind hz2)
  replace HX := Lib.hid (HX.out.behind hz2)
  replace HY := Lib.hid (HY.out.behind hz2)
  replace HB := Lib.hid (below_trans HB.out hz2 HB.out.size)
  clear hz2 x0 x1 x2 x3 x4 y0 y1 xl yl HC z0 z1 zl
  obtain ⟨x0, x1, x2, x3, x4⟩ := HX.out.c5
  have xl := HX.out.lt
  obtain ⟨y0, y1⟩ := HY.out.c2
  have yl := HY.out.lt
  obtain ⟨z0, z1⟩ := HZ.out.c2
  have zl := HZ.out.lt
  have HC := Lib.hid (rv_yes HF2.out (HR.out.behind HB.out) HO.out hb)
  go_wp2_with fail
  refine HC.out.mono ?_
  rintro e w3 ⟨rfl, hz3⟩
  replace HU := Lib.hid (HU.out.behind hz3)
  replace HZ := Lib.hid (HZ.out.behind hz3)
  replace HX := Lib.hid (HX.out.behind hz3)
  replace HY := Lib.hid (HY.out.behind hz3)
  replace HB := Lib.hid (below_trans HB.out hz3 HB.out.size)
  clear hz3 x0 x1 x2 x3 x4 y0 y1 xl yl HC z0 z1 zl
  obtain ⟨x0, x1, x2, x3, x4⟩ := HX.out.c5
  have xl := HX.out.lt
  obtain ⟨y0, y1⟩ := HY.out.c2
  have yl := HY.out.lt
  obtain ⟨z0, z1⟩ := HZ.out.c2
  have zl := HZ.out.lt
  have HC := Lib.hid (HD.out _ (HR.out.behind HB.out))
  go_wp2_with fail
  refine HC.out.mono ?_
  rintro e w4 ⟨rfl, hz4⟩
  replace HU := Lib.hid (HU.out.behind hz4)
  replace HZ := Lib.hid (HZ.out.behind hz4)
  replace HX := Lib.hid (HX.out.behind hz4)
  replace HY := Lib.hid (HY.out.behind hz4)
  replace HB := Lib.hid (below_trans HB.out hz4 HB.out.size)
  clear hz4 x0 x1 x2 x3 x4 y0 y1 xl yl HC z0 z1 zl
  obtain ⟨x0, x1, x2, x3, x4⟩ := HX.out.c5
  have xl := HX.out.lt
  obtain ⟨u0, u1, u2, u3, u4⟩ := HU.out.c5
  have uf := HU.out.frz
  have ul := HU.out.lt
  have n2 : ¬ u = x := by have := HN.out; omega
  go_wp2_with fail
  obtain ⟨w5, hw5⟩ : ∃ w5, w5 = put5 w4 u v1 v2 v3 v4 := ⟨_, rfl⟩
  rw [show (((((w4).setCell ⟨u, 0, none⟩ (.int .i64 32)).setCell ⟨u, 1, none⟩ (.slice v1.a v1.n v1.c)).setCell ⟨u, 2, none⟩ (.slice v2.a v2.n v2.c)).setCell ⟨u, 3, none⟩ (.slice v3.a v3.n v3.c)).setCell ⟨u, 4, none⟩ (.slice v4.a v4.n v4.c) = w5 from hw5.symm]
  have hb4 : Below w.heap.size w w5 := by rw [hw5]; exact put5_below HB.out (by have := HN.out; omega) _ _ _ _
  have HU4 : Ux w5 u (vcl 32 v1 v2 v3 v4) := by rw [hw5]; exact ux_five HU.out
  clear x0 x1 x2 x3 x4 u0 u1 u2 u3 u4 hw5
  obtain ⟨u0, u1, u2, u3, u4⟩ := HU4.c5
  refine bodyPost_ret (v := .tuple #[.agg (vcl 32 v1 v2 v3 v4), .int .i64 10]) (by simp [results, Try.results26, go_sem, u0, u1, u2, u3, u4]) rfl ?_
  exact ⟨rfl, hb4⟩
theorem bel_belP {s : Ps} {hk : Nat} {g : Int} (hf : s.find hk g = some hk) : selL s.l (belP s hk g) = bel s.l hk := by
  unfold bel
  congr 1
  funext k
  unfold belP
  rw [hf]
/-- what a move leaves, told by value: the words but one are as they were -/
theorem mov_rp {s : Ps} (htr : Tr s.l) {hk pk : Nat} {qh : Pl} (h1 : s.l[hk]? = some qh) (h2 : qh.used = true) (b_ : Int) (d : Int) (g2 : Int) :
    (⟨mvL s.l hk pk g2 b_, s.free, s.st, s.many⟩ : Ps).rp 32 = (s.set hk qh.gen ⟨pk, pk, g2, d⟩).rp 32 := by
  have hp : PAlike s.l (mvL s.l hk pk g2 b_) := (part_turn s.l (mvQ hk pk g2 b_) (belowB s.l hk)).alike (mvQ_same _ _ _ _)
  have hs := set_place h1 h2 ⟨pk, pk, g2, d⟩
  rw [hs]
  have hq : PAlike s.l (s.l.set hk ⟨⟨pk, pk, g2, d⟩, qh.gen, qh.used, qh.next⟩) := by
    intro k
    by_cases e : hk = k
    · subst e
      rw [List.getElem?_set_self (List.getElem?_eq_some_iff.1 h1).1, h1]; rfl
    · rw [List.getElem?_set_ne e]
  unfold Ps.rp
  simp only
  rw [hp.usedOf, hp.gensOf, hq.usedOf, hq.gensOf]
  congr 1
  unfold valsOf mvL
  apply List.ext_getElem?
  intro k
  rw [List.getElem?_map, List.getElem?_map, part_turn s.l (mvQ hk pk g2 b_) (belowB s.l hk) k]
  by_cases e : hk = k
  · subst e
    have hb : belowB s.l hk hk = true := by rw [belowB_of h1 h2]; exact decide_eq_true (way_self htr ⟨qh, h1, h2⟩)
    rw [List.getElem?_set_self (List.getElem?_eq_some_iff.1 h1).1, h1]
    simp [hb, mvQ]
  · rw [List.getElem?_set_ne e]
    cases hq : s.l[k]? with
    | none => rfl
    | some q =>
      simp only [Option.map_some]
      by_cases hc : belowB s.l hk k = true
      · simp [hc, mvQ, show ¬ k = hk from fun e' => e e'.symm]
      · simp [hc]
theorem RfV.congr {w : World} {room : Int} {s s' : Ps} {v1 v2 v3 v4 : Sv} (h : RfV w room s v1 v2 v3 v4) (e : s'.rp room = s.rp room) : RfV w room s' v1 v2 v3 v4 := by
  unfold RfV RfX rcl at *
  rw [e]; exact h
set_option maxHeartbeats 8000000 in
set_option maxRecDepth 100000 in
theorem rmove_rest (hk pk : Nat) (qh qp : Pl) (E : Int) (s2 : Ps) (b : Nat) (w : World) (s : Ps) (v1 v2 v3 v4 : Sv) (h : RfV w 32 s v1 v2 v3 v4) (ho : s.Ok 32 b) (hb : b ≤ 1000) (htr : Tr s.l) (h1 : s.l[hk]? = some qh) (h2 : qh.used = true) (p1 : s.l[pk]? = some qp) (p2 : qp.used = true) (h0 : hk ≠ 0) (hl : und s.l pk hk = false)
    (hdeep : tooDeep s.l hk (mvBy s.l hk pk) = true → E = 5 ∧ s2 = s) (hflat : tooDeep s.l hk (mvBy s.l hk pk) = false → E = 0 ∧ s2 = s.set hk qh.gen ⟨pk, pk, qp.gen, 0⟩) :
    Calls Try.prog 26 #[.agg (vcl 32 v1 v2 v3 v4), .agg #[.int .i64 hk, .int .i64 qh.gen], .agg #[.int .i64 pk, .int .i64 qp.gen]] w fun e w' => ∃ u1 u2 u3 u4, e = .returned (.tuple #[.agg (vcl 32 u1 u2 u3 u4), .int .i64 E]) ∧ RfV w' 32 s2 u1 u2 u3 u4 ∧ Below w.heap.size w w' := by
  have HF := Lib.hid (find_of h1 h2).1
  have HF2 := Lib.hid (find_of p1 p2).1
  have HD := Lib.hid (fun (W : World) h => rbelow_any pk hk b W s v1 v2 v3 v4 h ho hb htr ⟨qp, p1, p2⟩)
  rw [hl] at HD
  have HUN := Lib.hid (fun (W : World) h => runder_any hk qh.gen b W s v1 v2 v3 v4 h ho hb htr)
  rw [bel_belP HF.out] at HUN
  have HDP := Lib.hid (fun (W : World) (k : Nat) h hu => rdepth_any k b W s v1 v2 v3 v4 h ho hb htr hu)
  have HSET := Lib.hid (fun (W : World) h => rv_set hk qh.gen ⟨pk, pk, qp.gen, 0⟩ b W 32 s v1 v2 v3 v4 h ho hb)
  rw [(find_of h1 h2).2.2] at HSET
  simp only at HSET
  have UH := Lib.hid (show Usd s.l hk from ⟨qh, h1, h2⟩)
  have UP := Lib.hid (show Usd s.l pk from ⟨qp, p1, p2⟩)
  have dh8 := (htr.dep0 UH.out).1
  have dp8 := (htr.dep0 UP.out).1
  have HDEEP := Lib.hid hdeep; have HFLAT := Lib.hid hflat
  have HL2 : Hid (∀ k g, (k, g) ∈ bel s.l hk → Usd s.l k) := Lib.hid (fun k g hm => by obtain ⟨⟨q, ha, hb, _⟩, _⟩ := selL_mem.1 hm; exact ⟨q, ha, hb⟩)
  have HTD : Hid (∀ k g, (k, g) ∈ bel s.l hk → (8 < (s.l.getD k plz).x.dp + mvBy s.l hk pk ↔ (8 : Int) < dep s.l k - dep s.l hk + dep s.l pk + 1)) := Lib.hid (fun k g hm => by
    obtain ⟨⟨q, ha, hb, _⟩, _⟩ := selL_mem.1 hm
    have e1 := (htr.dp ha hb).2.2.2
    have e2 := (htr.dp h1 h2).2.2.2
    have e3 := (htr.dp p1 p2).2.2.2
    unfold mvBy
    rw [getD_of ha, getD_of h1, getD_of p1, e1, e2, e3]
    omega)
  have HTDF : Hid (tooDeep s.l hk (mvBy s.l hk pk) = (bel s.l hk).any (fun x => decide (8 < (s.l.getD x.1 plz).x.dp + mvBy s.l hk pk))) := Lib.hid rfl
  have hlen := (allL_len s.l)
  have hblen : (bel s.l hk).length ≤ 1000 := by
    have := List.length_filter_le (fun x : Nat × Int => und s.l x.1 hk) (allL s.l)
    have h3 := (ho.lo hb).1
    show (List.filter (fun x : Nat × Int => und s.l x.1 hk) (allL s.l)).length ≤ 1000
    omega
  obtain ⟨L, hL⟩ : ∃ L, L = bel s.l hk := ⟨_, rfl⟩
  rw [← hL] at HUN HL2 HTD HTDF hblen
  have HDP8 : Hid (∀ k, Usd s.l k → dep s.l k ≤ 8) := Lib.hid (fun k hu => (htr.dep0 hu).1)
  have HO := Lib.hid ho
  have HR := Lib.hid h
  have hk1 : ((hk : Int) == 0) = false := beq_eq_false_iff_ne.2 (by omega)
  generalize hgg : qh.gen = g at *
  generalize hgp : qp.gen = gp at *
  generalize hdh : dep s.l hk = dh at *
  generalize hdp : dep s.l pk = dp at *
  generalize tooDeep s.l hk (mvBy s.l hk pk) = TD at *
  generalize s.set hk g ⟨pk, pk, gp, 0⟩ = s3 at *
  have HGG := Lib.hid (And.intro hgg hgp)
  have HDHP := Lib.hid (And.intro hdh hdp)
  clear h ho htr h1 h2 p1 p2 h0 hl hgg hgp hdh hdp hdeep hflat hlen hL
  go_enter Try.func26, Try.ntmps26
  go_upto_region 1 with (fail)
  obtain ⟨w1, hw1⟩ : ∃ w1, w1 = (((w.alloc (ubox v1 v2 v3 v4)).alloc (hbox hk g)).alloc (hbox pk gp)).alloc (ubox0) := ⟨_, rfl⟩
  have HX : Hid (Ux w1 w.heap.size (vcl 32 v1 v2 v3 v4)) := Lib.hid (by rw [hw1]; exact (((Ux.new w _).alloc _).alloc _).alloc _)
  have HY : Hid (Hx w1 (w.heap.size + 1) hk g) := Lib.hid (by rw [hw1]; exact ((Hx.new1 w _ hk g).alloc _).alloc _)
  have HZ : Hid (Hx w1 (w.heap.size + 1 + 1) pk gp) := Lib.hid (by rw [hw1]; exact (Hx.here _ _ (by simp)).alloc _)
  have HU : Hid (Ux w1 (w.heap.size + 1 + 1 + 1) uz) := Lib.hid (by rw [hw1]; exact Ux.here _ (by simp))
  have HB : Hid (Below w.heap.size w w1) := Lib.hid (by rw [hw1]; exact (((below_alloc w _).alloc (by simp) _).alloc (by simp; omega) _).alloc (by simp; omega) _)
  rw [← hw1]
  clear hw1
  obtain ⟨x, hx⟩ : ∃ x, x = w.heap.size := ⟨_, rfl⟩
  obtain ⟨y, hy⟩ : ∃ y, y = w.heap.size + 1 := ⟨_, rfl⟩
  obtain ⟨z, hz⟩ : ∃ z, z = w.heap.size + 1 + 1 := ⟨_, rfl⟩
  obtain ⟨u, hu⟩ : ∃ u, u = w.heap.size + 1 + 1 + 1 := ⟨_, rfl⟩
  rw [← hu, ← hz, ← hy, ← hx]
  rw [← hx] at HX; rw [← hy] at HY; rw [← hz] at HZ; rw [← hu] at HU
  have HN : Hid (x = w.heap.size ∧ y = w.heap.size + 1 ∧ z = w.heap.size + 1 + 1 ∧ u = w.heap.size + 1 + 1 + 1) := Lib.hid ⟨hx, hy, hz, hu⟩
  clear hx hy hz hu
  have HC := Lib.hid (rv_yes HF.out (HR.out.behind HB.out) HO.out hb)
  obtain ⟨x0, x1, x2, x3, x4⟩ := HX.out.c5
  have xl := HX.out.lt
  obtain ⟨y0, y1⟩ := HY.out.c2
  have yl := HY.out.lt
  obtain ⟨z0, z1⟩ := HZ.out.c2
  have zl := HZ.out.lt
  go_wp2_with fail
  refine HC.out.mono ?_
  rintro e w2 ⟨rfl, hz2⟩
  replace HU := Lib.hid (HU.out.behind hz2)
  replace HZ := Lib.hid (HZ.out.behind hz2)
  replace HX := Lib.hid (HX.out.behind hz2)
  replace HY := Lib.hid (HY.out.behind hz2)
  replace HB := Lib.hid (below_trans HB.out hz2 HB.out.size)
  clear hz2 x0 x1 x2 x3 x4 y0 y1 xl yl HC z0 z1 zl
  obtain ⟨x0, x1, x2, x3, x4⟩ := HX.out.c5
  have xl := HX.out.lt
  obtain ⟨y0, y1⟩ := HY.out.c2
  have yl := HY.out.lt
  obtain ⟨z0, z1⟩ := HZ.out.c2
  have zl := HZ.out.lt
  have HC := Lib.hid (rv_yes HF2.out (HR.out.behind HB.out) HO.out hb)
  go_wp2_with fail
  refine HC.out.mono ?_
  rintro e w3 ⟨rfl, hz3⟩
  replace HU := Lib.hid (HU.out.behind hz3)
  replace HZ := Lib.hid (HZ.out.behind hz3)
  replace HX := Lib.hid (HX.out.behind hz3)
  replace HY := Lib.hid (HY.out.behind hz3)
  replace HB := Lib.hid (below_trans HB.out hz3 HB.out.size)
  clear hz3 x0 x1 x2 x3 x4 y0 y1 xl yl HC z0 z1 zl
  obtain ⟨x0, x1, x2, x3, x4⟩ := HX.out.c5
  have xl := HX.out.lt
  obtain ⟨y0, y1⟩ := HY.out.c2
  have yl := HY.out.lt
  obtain ⟨z0, z1⟩ := HZ.out.c2
  have zl := HZ.out.lt
  have HC := Lib.hid (HD.out _ (HR.out.behind HB.out))
  go_wp2_with fail
  refine HC.out.mono ?_
  rintro e w4 ⟨rfl, hz4⟩
  replace HU := Lib.hid (HU.out.behind hz4)
  replace HZ := Lib.hid (HZ.out.behind hz4)
  replace HX := Lib.hid (HX.out.behind hz4)
  replace HY := Lib.hid (HY.out.behind hz4)
  replace HB := Lib.hid (below_trans HB.out hz4 HB.out.size)
  clear hz4 x0 x1 x2 x3 x4 y0 y1 xl yl HC z0 z1 zl
  obtain ⟨x0, x1, x2, x3, x4⟩ := HX.out.c5
  have xl := HX.out.lt
  obtain ⟨y0, y1⟩ := HY.out.c2
  have yl := HY.out.lt
  obtain ⟨z0, z1⟩ := HZ.out.c2
  have zl := HZ.out.lt
  have HC := Lib.hid (HUN.out _ (HR.out.behind HB.out))
  go_wp2_with fail
  refine HC.out.mono ?_
  rintro e w5 ⟨aa, ca, rfl, hr5, hz5⟩
  have HR5 := Lib.hid hr5
  have HW5 := Lib.hid (HR.out.behind (below_trans HB.out hz5 HB.out.size))
  clear hr5
  replace HU := Lib.hid (HU.out.behind hz5)
  replace HZ := Lib.hid (HZ.out.behind hz5)
  replace HX := Lib.hid (HX.out.behind hz5)
  replace HY := Lib.hid (HY.out.behind hz5)
  replace HB := Lib.hid (below_trans HB.out hz5 HB.out.size)
  clear hz5 x0 x1 x2 x3 x4 y0 y1 xl yl HC z0 z1 zl
  obtain ⟨N, hN⟩ : ∃ N, N = L.length := ⟨_, rfl⟩
  rw [← hN] at HR5 hblen ⊢
  have HNL := Lib.hid hN
  clear hN
  go_wp2_with fail
  go_loopg [9] N (fun n vi wr => ∃ (j : Nat), vi = .int .i64 j ∧ j ≤ N ∧ n = N - j ∧ (L.take j).any (fun x => decide (8 < (s.l.getD x.1 plz).x.dp + mvBy s.l hk pk)) = false ∧ Below w5.heap.size w5 wr)
  case atStart => exact ⟨0, rfl, by omega, rfl, by simp, Below.refl _ _⟩
  case round =>
    obtain ⟨j, rfl, hj, hn, hany, hbr⟩ := hrel
    have HBR := Lib.hid hbr; have HGN := Lib.hid hn; have HANY := Lib.hid hany
    clear hbr hn hany
    replace HX := Lib.hid (HX.out.behind HBR.out)
    replace HY := Lib.hid (HY.out.behind HBR.out)
    replace HZ := Lib.hid (HZ.out.behind HBR.out)
    replace HU := Lib.hid (HU.out.behind HBR.out)
    have HWr := Lib.hid (HW5.out.behind HBR.out)
    replace HB := Lib.hid (below_trans HB.out HBR.out HB.out.size)
    by_cases hjn : j < N
    · obtain ⟨kg, hkg⟩ : ∃ kg, L[j]? = some kg := ⟨_, List.getElem?_eq_getElem (by have := HNL.out; omega)⟩
      obtain ⟨k, gk⟩ := kg
      have HUK := Lib.hid (HL2.out k gk (List.mem_of_getElem? hkg))
      have HTK := Lib.hid (HTD.out k gk (List.mem_of_getElem? hkg))
      have HMEM := Lib.hid (List.mem_of_getElem? hkg)
      have HAN : Hid ((L.take (j + 1)).any (fun x => decide (8 < (s.l.getD x.1 plz).x.dp + mvBy s.l hk pk)) = decide (8 < (s.l.getD k plz).x.dp + mvBy s.l hk pk)) := Lib.hid (by
        have hjl : j < L.length := (List.getElem?_eq_some_iff.1 hkg).1
        have e : L[j] = (k, gk) := by have := List.getElem?_eq_getElem hjl; rw [hkg] at this; simpa using this.symm
        rw [← List.take_append_getElem hjl, List.any_append, HANY.out, e]
        simp)
      obtain ⟨tt, rfl⟩ := hrow_some HR5.out (by omega)
      have HR5r := Lib.hid (ownsRow_below HR5.out HBR.out)
      obtain ⟨k0, k1, kl⟩ := hcl_cell HR5r.out j k gk hkg hjn
      have dk8 := HDP8.out k HUK.out
      obtain ⟨dk, hdk⟩ : ∃ dk, dk = dep s.l k := ⟨_, rfl⟩
      rw [← hdk] at dk8 HTK
      have HDK := Lib.hid hdk
      clear hkg hdk
      obtain ⟨x0, x1, x2, x3, x4⟩ := HX.out.c5
      have xl := HX.out.lt
      obtain ⟨y0, y1⟩ := HY.out.c2
      have yl := HY.out.lt
      obtain ⟨z0, z1⟩ := HZ.out.c2
      have zl := HZ.out.lt
      have HS := Lib.hid (fun (w' : World) (hz : Below wr.drew.heap.size wr.drew w') => show (w'.cell? ⟨x, 0, none⟩ = some (.int .i64 32) ∧ w'.cell? ⟨x, 1, none⟩ = some (.slice v1.a v1.n v1.c) ∧ w'.cell? ⟨x, 2, none⟩ = some (.slice v2.a v2.n v2.c) ∧ w'.cell? ⟨x, 3, none⟩ = some (.slice v3.a v3.n v3.c) ∧ w'.cell? ⟨x, 4, none⟩ = some (.slice v4.a v4.n v4.c) ∧ w'.cell? ⟨y, 0, none⟩ = some (.int .i64 hk) ∧ w'.cell? ⟨z, 0, none⟩ = some (.int .i64 pk) ∧ w'.cell? ⟨tt, j * 2, none⟩ = some (.int .i64 k)) from by
        have c := fun (b o : Nat) (h : b < wr.heap.size) => below_cell (w := wr.drew) hz (b := b) (by exact h) o
        exact ⟨(c _ _ xl).trans x0, (c _ _ xl).trans x1, (c _ _ xl).trans x2, (c _ _ xl).trans x3, (c _ _ xl).trans x4, (c _ _ yl).trans y0, (c _ _ zl).trans z0, (c _ _ kl).trans k0⟩)
      have HC1 := Lib.hid (HDP.out wr.drew k HWr.out.drew HUK.out)
      rw [← HDK.out] at HC1
      have HC2 := Lib.hid (fun (W : World) (hz : Below wr.drew.heap.size wr.drew W) => HDP.out W hk (HWr.out.drew.behind hz) UH.out)
      rw [HDHP.out.1] at HC2
      have HC3 := Lib.hid (fun (W : World) (hz : Below wr.drew.heap.size wr.drew W) => HDP.out W pk (HWr.out.drew.behind hz) UP.out)
      rw [HDHP.out.2] at HC3
      have a1 : IntKind.i64.wrap ((dk : Int) - dh) = dk - dh := IntWalk.i64_in _ (by omega)
      have a2 : IntKind.i64.wrap ((dk : Int) - dh + dp) = dk - dh + dp := IntWalk.i64_in _ (by omega)
      have a3 : IntKind.i64.wrap ((dk : Int) - dh + dp + 1) = dk - dh + dp + 1 := IntWalk.i64_in _ (by omega)
      have hz0 : Below wr.drew.heap.size wr.drew wr.drew := Below.refl _ _
      by_cases hcmp : (8 : Int) < (dk : Int) - dh + dp + 1
      · have ht : decide ((8 : Int) < (dk : Int) - dh + dp + 1) = true := by simp; omega
        go_wp2_with fail
        go_region_held3 (fun w' => w'.cell? ⟨x, 0, none⟩ = some (.int .i64 32) ∧ w'.cell? ⟨x, 1, none⟩ = some (.slice v1.a v1.n v1.c) ∧ w'.cell? ⟨x, 2, none⟩ = some (.slice v2.a v2.n v2.c) ∧ w'.cell? ⟨x, 3, none⟩ = some (.slice v3.a v3.n v3.c) ∧ w'.cell? ⟨x, 4, none⟩ = some (.slice v4.a v4.n v4.c) ∧ w'.cell? ⟨y, 0, none⟩ = some (.int .i64 hk) ∧ w'.cell? ⟨z, 0, none⟩ = some (.int .i64 pk) ∧ w'.cell? ⟨tt, j * 2, none⟩ = some (.int .i64 k))
          (first | exact ⟨x0, x1, x2, x3, x4, y0, z0, k0⟩ | assumption)
          (first | (go_at_call 44; (with_reducible refine HC1.out.mono ?_); rintro e w6 ⟨rfl, hz6⟩; have hS6 := HS.out w6 hz6) | (go_at_call 44; (with_reducible refine (HC2.out _ hz6).mono ?_); rintro e w7 ⟨rfl, hz7⟩; replace hz7 := below_trans hz6 hz7 hz6.size; have hS7 := HS.out w7 hz7) | (go_at_call 44; (with_reducible refine (HC3.out _ hz7).mono ?_); rintro e w8 ⟨rfl, hz8⟩; replace hz8 := below_trans hz7 hz8 hz7.size; have hS8 := HS.out w8 hz8))
        have HBw := Lib.hid (below_undrew hz8)
        clear hz6 hz7 hz8 hS6 hS7 hS8 hz0 a1 a2 a3 x0 x1 x2 x3 x4 y0 y1 z0 z1 k0 k1 xl yl zl kl
        have htd : TD = true := by
          rw [HTDF.out]
          exact List.any_eq_true.2 ⟨(k, gk), HMEM.out, decide_eq_true (HTK.out.2 hcmp)⟩
        obtain ⟨rfl, rfl⟩ := HDEEP.out htd
        have HTDD := Lib.hid htd
        clear htd ht
        replace HX := Lib.hid (HX.out.behind HBw.out)
        replace HU := Lib.hid (HU.out.behind HBw.out)
        replace HB := Lib.hid (below_trans HB.out HBw.out HB.out.size)
        have HWW := Lib.hid (HWr.out.behind HBw.out)
        obtain ⟨x0, x1, x2, x3, x4⟩ := HX.out.c5
        have xl := HX.out.lt
        obtain ⟨u0, u1, u2, u3, u4⟩ := HU.out.c5
        have uf := HU.out.frz
        have ul := HU.out.lt
        have n2 : ¬ u = x := by have := HN.out; omega
        go_wp2_with fail
        have HR9 := Lib.hid (HWW.out.five HU.out v1 v2 v3 v4)
        obtain ⟨w9, hw9⟩ : ∃ w9, w9 = put5 w8 u v1 v2 v3 v4 := ⟨_, rfl⟩
        rw [show (((((w8).setCell ⟨u, 0, none⟩ (.int .i64 32)).setCell ⟨u, 1, none⟩ (.slice v1.a v1.n v1.c)).setCell ⟨u, 2, none⟩ (.slice v2.a v2.n v2.c)).setCell ⟨u, 3, none⟩ (.slice v3.a v3.n v3.c)).setCell ⟨u, 4, none⟩ (.slice v4.a v4.n v4.c) = w9 from hw9.symm]
        have HR10 : RfV w9 32 s2 v1 v2 v3 v4 := by rw [hw9]; exact HR9.out
        have hb4 : Below w.heap.size w w9 := by rw [hw9]; exact put5_below HB.out (by have := HN.out; omega) _ _ _ _
        have HU4 : Ux w9 u (vcl 32 v1 v2 v3 v4) := by rw [hw9]; exact ux_five HU.out
        clear x0 x1 x2 x3 x4 u0 u1 u2 u3 u4 hw9
        obtain ⟨u0, u1, u2, u3, u4⟩ := HU4.c5
        refine bodyPost_ret (v := .tuple #[.agg (vcl 32 v1 v2 v3 v4), .int .i64 5]) (by simp [results, Try.results26, go_sem, u0, u1, u2, u3, u4]) rfl ?_
        exact ⟨v1, v2, v3, v4, rfl, HR10, hb4⟩
      · have ht : decide ((8 : Int) < (dk : Int) - dh + dp + 1) = false := by simp; omega
        have HCMP := Lib.hid hcmp
        clear hcmp
        go_wp2_with fail
        go_region_held3 (fun w' => w'.cell? ⟨x, 0, none⟩ = some (.int .i64 32) ∧ w'.cell? ⟨x, 1, none⟩ = some (.slice v1.a v1.n v1.c) ∧ w'.cell? ⟨x, 2, none⟩ = some (.slice v2.a v2.n v2.c) ∧ w'.cell? ⟨x, 3, none⟩ = some (.slice v3.a v3.n v3.c) ∧ w'.cell? ⟨x, 4, none⟩ = some (.slice v4.a v4.n v4.c) ∧ w'.cell? ⟨y, 0, none⟩ = some (.int .i64 hk) ∧ w'.cell? ⟨z, 0, none⟩ = some (.int .i64 pk) ∧ w'.cell? ⟨tt, j * 2, none⟩ = some (.int .i64 k))
          (first | exact ⟨x0, x1, x2, x3, x4, y0, z0, k0⟩ | assumption)
          (first | (go_at_call 44; (with_reducible refine HC1.out.mono ?_); rintro e w6 ⟨rfl, hz6⟩; have hS6 := HS.out w6 hz6) | (go_at_call 44; (with_reducible refine (HC2.out _ hz6).mono ?_); rintro e w7 ⟨rfl, hz7⟩; replace hz7 := below_trans hz6 hz7 hz6.size; have hS7 := HS.out w7 hz7) | (go_at_call 44; (with_reducible refine (HC3.out _ hz7).mono ?_); rintro e w8 ⟨rfl, hz8⟩; replace hz8 := below_trans hz7 hz8 hz7.size; have hS8 := HS.out w8 hz8))
        have HBw := Lib.hid (below_undrew hz8)
        clear hz6 hz7 hz8 hS6 hS7 hS8 hz0 a1 a2 a3 x0 x1 x2 x3 x4 y0 y1 z0 z1 k0 k1 xl yl zl kl
        clear ht
        go_wp2_with fail
        go_roundg (N - (j + 1))
        case measure => have := HGN.out; omega
        case rel => exact ⟨j + 1, by go_num, by omega, rfl, by rw [HAN.out]; exact decide_eq_false (fun h => by have h1 := HCMP.out; have h2 := HTK.out.1 h; omega), below_trans HBR.out HBw.out HBR.out.size⟩
    · have hjN : j = N := by omega
      subst hjN
      have htd : TD = false := by rw [HTDF.out, ← HANY.out, HNL.out, List.take_length]
      obtain ⟨rfl, rfl⟩ := HFLAT.out htd
      have HTDD := Lib.hid htd
      clear htd
      obtain ⟨x0, x1, x2, x3, x4⟩ := HX.out.c5
      have xl := HX.out.lt
      obtain ⟨y0, y1⟩ := HY.out.c2
      have yl := HY.out.lt
      obtain ⟨z0, z1⟩ := HZ.out.c2
      have zl := HZ.out.lt
      have HC := Lib.hid (HSET.out _ HWr.out)
      go_wp2_with fail
      refine HC.out.mono ?_
      rintro e w6 ⟨t1, t2, t3, t4, rfl, hr4, hz6⟩
      have HR4 := Lib.hid hr4
      clear hr4
      replace HU := Lib.hid (HU.out.behind hz6)
      replace HZ := Lib.hid (HZ.out.behind hz6)
      replace HX := Lib.hid (HX.out.behind hz6)
      replace HY := Lib.hid (HY.out.behind hz6)
      replace HB := Lib.hid (below_trans HB.out hz6 HB.out.size)
      clear hz6 x0 x1 x2 x3 x4 y0 y1 xl yl HC z0 z1 zl
      go_upto_region 14 with (fail)
      obtain ⟨w5, hw5⟩ : ∃ w5, w5 = w6.alloc (.cells (vcl 32 t1 t2 t3 t4) 54) := ⟨_, rfl⟩
      have hz5 : Below w6.heap.size w6 w5 := by rw [hw5]; exact below_alloc _ _
      have HP5 : Hid (Px w5 w6.heap.size (vcl 32 t1 t2 t3 t4)) := Lib.hid (by rw [hw5]; exact Px.new w6 _)
      have HR5 := Lib.hid (HR4.out.behind hz5)
      have HL : Hid (u < w6.heap.size) := Lib.hid HU.out.lt
      replace HU := Lib.hid (HU.out.behind hz5)
      replace HB := Lib.hid (below_trans HB.out hz5 HB.out.size)
      rw [← hw5]
      obtain ⟨y, hy⟩ : ∃ y, y = w6.heap.size := ⟨_, rfl⟩
      rw [← hy]
      rw [← hy] at HP5
      have n4 : ¬ u = y := by have := HL.out; omega
      clear hw5 hy hz5
      obtain ⟨y0, y1, y2, y3, y4⟩ := HP5.out.c5
      have yl := HP5.out.lt
      obtain ⟨u0, u1, u2, u3, u4⟩ := HU.out.c5
      have uf := HU.out.frz
      have ul := HU.out.lt
      go_wp2_with fail
      obtain ⟨w8, hw8⟩ : ∃ w8, w8 = put5 w5 u t1 t2 t3 t4 := ⟨_, rfl⟩
      rw [show (((((w5).setCell ⟨u, 0, none⟩ (.int .i64 32)).setCell ⟨u, 1, none⟩ (.slice t1.a t1.n t1.c)).setCell ⟨u, 2, none⟩ (.slice t2.a t2.n t2.c)).setCell ⟨u, 3, none⟩ (.slice t3.a t3.n t3.c)).setCell ⟨u, 4, none⟩ (.slice t4.a t4.n t4.c) = w8 from hw8.symm]
      have hb4 : Below w.heap.size w w8 := by rw [hw8]; exact put5_below HB.out (by have := HN.out; omega) _ _ _ _
      have HU4 : Ux w8 u (vcl 32 t1 t2 t3 t4) := by rw [hw8]; exact ux_five HU.out
      have HR6 : RfV w8 32 s2 t1 t2 t3 t4 := by rw [hw8]; exact HR5.out.five HU.out _ _ _ _
      clear u0 u1 u2 u3 u4 y0 y1 y2 y3 y4 hw8
      obtain ⟨u0, u1, u2, u3, u4⟩ := HU4.c5
      refine bodyPost_ret (v := .tuple #[.agg (vcl 32 t1 t2 t3 t4), .int .i64 0]) (by simp [results, Try.results26, go_sem, u0, u1, u2, u3, u4]) rfl ?_
      exact ⟨t1, t2, t3, t4, rfl, HR6, hb4⟩
theorem rmove_any (i g i2 g2 : Int) (b : Nat) (w : World) (s : Ps) (v1 v2 v3 v4 : Sv) (h : RfV w 32 s v1 v2 v3 v4) (ho : s.Ok 32 b) (hb : b ≤ 1000) (htr : Tr s.l) :
    Calls Try.prog 26 #[.agg (vcl 32 v1 v2 v3 v4), .agg #[.int .i64 i, .int .i64 g], .agg #[.int .i64 i2, .int .i64 g2]] w fun e w' => ∃ u1 u2 u3 u4, e = .returned (.tuple #[.agg (vcl 32 u1 u2 u3 u4), .int .i64 (s.movE i g i2 g2)]) ∧ RfV w' 32 (s.mov i g i2 g2) u1 u2 u3 u4 ∧ Below w.heap.size w w' := by
  unfold Ps.mov Ps.movE
  cases hk : s.find i g with
  | none => exact (rmove_one i g i2 g2 b w s v1 v2 v3 v4 h ho hb hk).mono fun e w' ⟨h1, h2⟩ => ⟨v1, v2, v3, v4, h1, h.behind h2, h2⟩
  | some hk0 =>
    cases hp : s.find i2 g2 with
    | none => exact (rmove_two hk0 i g i2 g2 b w s v1 v2 v3 v4 h ho hb hk hp).mono fun e w' ⟨h1, h2⟩ => ⟨v1, v2, v3, v4, h1, h.behind h2, h2⟩
    | some pk =>
      obtain ⟨qh, rfl, h1, h2, rfl, _, h6⟩ := find_some hk
      obtain ⟨qp, rfl, p1, p2, rfl, _, p6⟩ := find_some hp
      by_cases h0 : hk0 = 0
      · subst h0
        simp only [if_true]
        exact (rmove_root qh.gen pk qp.gen pk b w s v1 v2 v3 v4 h ho hb hk hp).mono fun e w' ⟨h1, h2⟩ => ⟨v1, v2, v3, v4, h1, h.behind h2, h2⟩
      · simp only [if_neg h0]
        by_cases hl : und s.l pk hk0 = true
        · simp only [if_pos hl]
          exact (rmove_loop hk0 pk qh qp b w s v1 v2 v3 v4 h ho hb htr h1 h2 p1 p2 h0 hl).mono fun e w' ⟨h1, h2⟩ => ⟨v1, v2, v3, v4, h1, h.behind h2, h2⟩
        · simp only [if_neg hl]
          by_cases hd : tooDeep s.l hk0 (mvBy s.l hk0 pk) = true
          · simp only [if_pos hd]
            exact rmove_rest hk0 pk qh qp 5 s b w s v1 v2 v3 v4 h ho hb htr h1 h2 p1 p2 h0 (by simpa using hl) (fun _ => ⟨rfl, rfl⟩) (fun h => by rw [hd] at h; cases h)
          · simp only [if_neg hd]
            refine (rmove_rest hk0 pk qh qp 0 (s.set hk0 qh.gen ⟨pk, pk, qp.gen, 0⟩) b w s v1 v2 v3 v4 h ho hb htr h1 h2 p1 p2 h0 (by simpa using hl) (fun h => absurd h hd) (fun _ => ⟨rfl, rfl⟩)).mono ?_
            rintro e w' ⟨u1, u2, u3, u4, he, hr, hz⟩
            exact ⟨u1, u2, u3, u4, he, hr.congr (mov_rp htr h1 h2 _ 0 _), hz⟩
end Go.Proofs.Ytnbljnpfmeidfaa
