/- The document's tree of groups, told by value: Destroy. Condition: the tree is within bounds, its groups within one another. -/
import Derived.Test.YtnbljnpfmeidfaaDocE
namespace Go.Proofs.Ytnbljnpfmeidfaa
open Go Go.RowKit Go.ChangeShapes Go.WideShapes
set_option linter.unusedVariables false

set_option maxHeartbeats 1000000 in
theorem rdestroy_no (i g : Int) (b : Nat) (w : World) (s : Ps) (v1 v2 v3 v4 : Sv) (h : RfV w 32 s v1 v2 v3 v4) (ho : s.Ok 32 b) (hb : b ≤ 1000) (hf : s.find i g = none) :
    Calls Try.prog 25 #[.agg (vcl 32 v1 v2 v3 v4), .agg #[.int .i64 i, .int .i64 g]] w fun e w' => e = .returned (.tuple #[.agg (vcl 32 v1 v2 v3 v4), .int .i64 2]) ∧ Below w.heap.size w w' := by
  have HO := Lib.hid ho
  have HR := Lib.hid h
  have HF := Lib.hid hf
  clear h ho hf
  go_enter Try.func25, Try.ntmps25
  go_upto_region 1 with (fail)
  obtain ⟨w1, hw1⟩ : ∃ w1, w1 = ((w.alloc (ubox v1 v2 v3 v4)).alloc (hbox i g)).alloc (ubox0) := ⟨_, rfl⟩
  have HX : Hid (Ux w1 w.heap.size (vcl 32 v1 v2 v3 v4)) := Lib.hid (by rw [hw1]; exact ((Ux.new w _).alloc _).alloc _)
  have HY : Hid (Hx w1 (w.heap.size + 1) i g) := Lib.hid (by rw [hw1]; exact (Hx.new1 w _ i g).alloc _)
  have HU : Hid (Ux w1 (w.heap.size + 1 + 1) uz) := Lib.hid (by rw [hw1]; exact Ux.here _ (by simp))
  have HB : Hid (Below w.heap.size w w1) := Lib.hid (by rw [hw1]; exact ((below_alloc w _).alloc (by simp) _).alloc (by simp; omega) _)
  rw [← hw1]
  clear hw1
  obtain ⟨x, hx⟩ : ∃ x, x = w.heap.size := ⟨_, rfl⟩
  obtain ⟨y, hy⟩ : ∃ y, y = w.heap.size + 1 := ⟨_, rfl⟩
  obtain ⟨u, hu⟩ : ∃ u, u = w.heap.size + 1 + 1 := ⟨_, rfl⟩
  rw [← hu, ← hy, ← hx]
  rw [← hx] at HX; rw [← hy] at HY; rw [← hu] at HU
  have HN : Hid (x = w.heap.size ∧ y = w.heap.size + 1 ∧ u = w.heap.size + 1 + 1) := Lib.hid ⟨hx, hy, hu⟩
  clear hx hy hu
  have HC := Lib.hid (rv_no HF.out (HR.out.behind HB.out) HO.out hb)
  obtain ⟨x0, x1, x2, x3, x4⟩ := HX.out.c5
  have xl := HX.out.lt
  obtain ⟨y0, y1⟩ := HY.out.c2
  have yl := HY.out.lt
  go_wp2_with fail
  refine HC.out.mono ?_
  rintro e w2 ⟨rfl, hz2⟩
  replace HU := Lib.hid (HU.out.behind hz2)
  replace HX := Lib.hid (HX.out.behind hz2)
  replace HY := Lib.hid (HY.out.behind hz2)
  replace HB := Lib.hid (below_trans HB.out hz2 HB.out.size)
  clear hz2 x0 x1 x2 x3 x4 y0 y1 xl yl HC
  obtain ⟨x0, x1, x2, x3, x4⟩ := HX.out.c5
  have xl := HX.out.lt
  obtain ⟨u0, u1, u2, u3, u4⟩ := HU.out.c5
  have uf := HU.out.frz
  have ul := HU.out.lt
  have n2 : ¬ u = x := by have := HN.out; omega
  go_wp2_with fail
  obtain ⟨w4, hw4⟩ : ∃ w4, w4 = put5 w2 u v1 v2 v3 v4 := ⟨_, rfl⟩
  rw [show (((((w2).setCell ⟨u, 0, none⟩ (.int .i64 32)).setCell ⟨u, 1, none⟩ (.slice v1.a v1.n v1.c)).setCell ⟨u, 2, none⟩ (.slice v2.a v2.n v2.c)).setCell ⟨u, 3, none⟩ (.slice v3.a v3.n v3.c)).setCell ⟨u, 4, none⟩ (.slice v4.a v4.n v4.c) = w4 from hw4.symm]
  have hb4 : Below w.heap.size w w4 := by rw [hw4]; exact put5_below HB.out (by have := HN.out; omega) _ _ _ _
  have HU4 : Ux w4 u (vcl 32 v1 v2 v3 v4) := by rw [hw4]; exact ux_five HU.out
  clear x0 x1 x2 x3 x4 u0 u1 u2 u3 u4 hw4
  obtain ⟨u0, u1, u2, u3, u4⟩ := HU4.c5
  refine bodyPost_ret (v := .tuple #[.agg (vcl 32 v1 v2 v3 v4), .int .i64 2]) (by simp [results, Try.results25, go_sem, u0, u1, u2, u3, u4]) rfl ?_
  exact ⟨rfl, hb4⟩
set_option maxHeartbeats 1000000 in
theorem rdestroy_root (g : Int) (b : Nat) (w : World) (s : Ps) (v1 v2 v3 v4 : Sv) (h : RfV w 32 s v1 v2 v3 v4) (ho : s.Ok 32 b) (hb : b ≤ 1000) (hf : s.find 0 g = some 0) :
    Calls Try.prog 25 #[.agg (vcl 32 v1 v2 v3 v4), .agg #[.int .i64 0, .int .i64 g]] w fun e w' => e = .returned (.tuple #[.agg (vcl 32 v1 v2 v3 v4), .int .i64 1]) ∧ Below w.heap.size w w' := by
  have HO := Lib.hid ho
  have HR := Lib.hid h
  have HF := Lib.hid hf
  clear h ho hf
  go_enter Try.func25, Try.ntmps25
  go_upto_region 1 with (fail)
  obtain ⟨w1, hw1⟩ : ∃ w1, w1 = ((w.alloc (ubox v1 v2 v3 v4)).alloc (hbox 0 g)).alloc (ubox0) := ⟨_, rfl⟩
  have HX : Hid (Ux w1 w.heap.size (vcl 32 v1 v2 v3 v4)) := Lib.hid (by rw [hw1]; exact ((Ux.new w _).alloc _).alloc _)
  have HY : Hid (Hx w1 (w.heap.size + 1) 0 g) := Lib.hid (by rw [hw1]; exact (Hx.new1 w _ 0 g).alloc _)
  have HU : Hid (Ux w1 (w.heap.size + 1 + 1) uz) := Lib.hid (by rw [hw1]; exact Ux.here _ (by simp))
  have HB : Hid (Below w.heap.size w w1) := Lib.hid (by rw [hw1]; exact ((below_alloc w _).alloc (by simp) _).alloc (by simp; omega) _)
  rw [← hw1]
  clear hw1
  obtain ⟨x, hx⟩ : ∃ x, x = w.heap.size := ⟨_, rfl⟩
  obtain ⟨y, hy⟩ : ∃ y, y = w.heap.size + 1 := ⟨_, rfl⟩
  obtain ⟨u, hu⟩ : ∃ u, u = w.heap.size + 1 + 1 := ⟨_, rfl⟩
  rw [← hu, ← hy, ← hx]
  rw [← hx] at HX; rw [← hy] at HY; rw [← hu] at HU
  have HN : Hid (x = w.heap.size ∧ y = w.heap.size + 1 ∧ u = w.heap.size + 1 + 1) := Lib.hid ⟨hx, hy, hu⟩
  clear hx hy hu
  have HC := Lib.hid (rv_yes HF.out (HR.out.behind HB.out) HO.out hb)
  obtain ⟨x0, x1, x2, x3, x4⟩ := HX.out.c5
  have xl := HX.out.lt
  obtain ⟨y0, y1⟩ := HY.out.c2
  have yl := HY.out.lt
  go_wp2_with fail
  refine HC.out.mono ?_
  rintro e w2 ⟨rfl, hz2⟩
  replace HU := Lib.hid (HU.out.behind hz2)
  replace HX := Lib.hid (HX.out.behind hz2)
  replace HY := Lib.hid (HY.out.behind hz2)
  replace HB := Lib.hid (below_trans HB.out hz2 HB.out.size)
  clear hz2 x0 x1 x2 x3 x4 y0 y1 xl yl HC
  obtain ⟨x0, x1, x2, x3, x4⟩ := HX.out.c5
  have xl := HX.out.lt
  obtain ⟨u0, u1, u2, u3, u4⟩ := HU.out.c5
  have uf := HU.out.frz
  have ul := HU.out.lt
  have n2 : ¬ u = x := by have := HN.out; omega
  obtain ⟨y0, y1⟩ := HY.out.c2
  have yl := HY.out.lt
  go_wp2_with fail
  obtain ⟨w4, hw4⟩ : ∃ w4, w4 = put5 w2 u v1 v2 v3 v4 := ⟨_, rfl⟩
  rw [show (((((w2).setCell ⟨u, 0, none⟩ (.int .i64 32)).setCell ⟨u, 1, none⟩ (.slice v1.a v1.n v1.c)).setCell ⟨u, 2, none⟩ (.slice v2.a v2.n v2.c)).setCell ⟨u, 3, none⟩ (.slice v3.a v3.n v3.c)).setCell ⟨u, 4, none⟩ (.slice v4.a v4.n v4.c) = w4 from hw4.symm]
  have hb4 : Below w.heap.size w w4 := by rw [hw4]; exact put5_below HB.out (by have := HN.out; omega) _ _ _ _
  have HU4 : Ux w4 u (vcl 32 v1 v2 v3 v4) := by rw [hw4]; exact ux_five HU.out
  clear x0 x1 x2 x3 x4 u0 u1 u2 u3 u4 hw4
  obtain ⟨u0, u1, u2, u3, u4⟩ := HU4.c5
  refine bodyPost_ret (v := .tuple #[.agg (vcl 32 v1 v2 v3 v4), .int .i64 1]) (by simp [results, Try.results25, go_sem, u0, u1, u2, u3, u4]) rfl ?_
  exact ⟨rfl, hb4⟩
set_option maxHeartbeats 1000000 in
theorem rdestroy_busy (k : Nat) (qk : Pl) (b : Nat) (w : World) (s : Ps) (v1 v2 v3 v4 : Sv) (h : RfV w 32 s v1 v2 v3 v4) (ho : s.Ok 32 b) (hb : b ≤ 1000) (htr : Tr s.l) (hk : s.l[k]? = some qk) (hku : qk.used = true) (hk0 : k ≠ 0) (hl : (selL s.l (kidP s k qk.gen)).length ≠ 0) :
    Calls Try.prog 25 #[.agg (vcl 32 v1 v2 v3 v4), .agg #[.int .i64 k, .int .i64 qk.gen]] w fun e w' => e = .returned (.tuple #[.agg (vcl 32 v1 v2 v3 v4), .int .i64 6]) ∧ Below w.heap.size w w' := by
  have HF := Lib.hid (find_of hk hku).1
  have HD := Lib.hid (fun (W : World) h => rkids_any k qk.gen b W s v1 v2 v3 v4 h ho hb htr)
  have HO := Lib.hid ho
  have HR := Lib.hid h
  generalize selL s.l (kidP s k qk.gen) = L at *
  have hl1 : 0 < L.length := by omega
  have hk1 : ((k : Int) == 0) = false := beq_eq_false_iff_ne.2 (by omega)
  generalize hgg : qk.gen = g at *
  have HGG := Lib.hid hgg
  clear h ho htr hk hku hk0 hl hgg
  go_enter Try.func25, Try.ntmps25
  go_upto_region 1 with (fail)
  obtain ⟨w1, hw1⟩ : ∃ w1, w1 = ((w.alloc (ubox v1 v2 v3 v4)).alloc (hbox k g)).alloc (ubox0) := ⟨_, rfl⟩
  have HX : Hid (Ux w1 w.heap.size (vcl 32 v1 v2 v3 v4)) := Lib.hid (by rw [hw1]; exact ((Ux.new w _).alloc _).alloc _)
  have HY : Hid (Hx w1 (w.heap.size + 1) k g) := Lib.hid (by rw [hw1]; exact (Hx.new1 w _ k g).alloc _)
  have HU : Hid (Ux w1 (w.heap.size + 1 + 1) uz) := Lib.hid (by rw [hw1]; exact Ux.here _ (by simp))
  have HB : Hid (Below w.heap.size w w1) := Lib.hid (by rw [hw1]; exact ((below_alloc w _).alloc (by simp) _).alloc (by simp; omega) _)
  rw [← hw1]
  clear hw1
  obtain ⟨x, hx⟩ : ∃ x, x = w.heap.size := ⟨_, rfl⟩
  obtain ⟨y, hy⟩ : ∃ y, y = w.heap.size + 1 := ⟨_, rfl⟩
  obtain ⟨u, hu⟩ : ∃ u, u = w.heap.size + 1 + 1 := ⟨_, rfl⟩
  rw [← hu, ← hy, ← hx]
  rw [← hx] at HX; rw [← hy] at HY; rw [← hu] at HU
  have HN : Hid (x = w.heap.size ∧ y = w.heap.size + 1 ∧ u = w.heap.size + 1 + 1) := Lib.hid ⟨hx, hy, hu⟩
  clear hx hy hu
  have HC := Lib.hid (rv_yes HF.out (HR.out.behind HB.out) HO.out hb)
  obtain ⟨x0, x1, x2, x3, x4⟩ := HX.out.c5
  have xl := HX.out.lt
  obtain ⟨y0, y1⟩ := HY.out.c2
  have yl := HY.out.lt
  go_wp2_with fail
  refine HC.out.mono ?_
  rintro e w2 ⟨rfl, hz2⟩
  replace HU := Lib.hid (HU.out.behind hz2)
  replace HX := Lib.hid (HX.out.behind hz2)
  replace HY := Lib.hid (HY.out.behind hz2)
  replace HB := Lib.hid (below_trans HB.out hz2 HB.out.size)
  clear hz2 x0 x1 x2 x3 x4 y0 y1 xl yl HC
  obtain ⟨x0, x1, x2, x3, x4⟩ := HX.out.c5
  have xl := HX.out.lt
  obtain ⟨y0, y1⟩ := HY.out.c2
  have yl := HY.out.lt
  have HC := Lib.hid (HD.out _ (HR.out.behind HB.out))
  go_wp2_with fail
  refine HC.out.mono ?_
  rintro e w3 ⟨ka, kc, rfl, _, hz3⟩
  replace HU := Lib.hid (HU.out.behind hz3)
  replace HX := Lib.hid (HX.out.behind hz3)
  replace HY := Lib.hid (HY.out.behind hz3)
  replace HB := Lib.hid (below_trans HB.out hz3 HB.out.size)
  clear hz3 x0 x1 x2 x3 x4 y0 y1 xl yl HC
  obtain ⟨x0, x1, x2, x3, x4⟩ := HX.out.c5
  have xl := HX.out.lt
  obtain ⟨u0, u1, u2, u3, u4⟩ := HU.out.c5
  have uf := HU.out.frz
  have ul := HU.out.lt
  have n2 : ¬ u = x := by have := HN.out; omega
  go_wp2_with fail
  obtain ⟨w4, hw4⟩ : ∃ w4, w4 = put5 w3 u v1 v2 v3 v4 := ⟨_, rfl⟩
  rw [show (((((w3).setCell ⟨u, 0, none⟩ (.int .i64 32)).setCell ⟨u, 1, none⟩ (.slice v1.a v1.n v1.c)).setCell ⟨u, 2, none⟩ (.slice v2.a v2.n v2.c)).setCell ⟨u, 3, none⟩ (.slice v3.a v3.n v3.c)).setCell ⟨u, 4, none⟩ (.slice v4.a v4.n v4.c) = w4 from hw4.symm]
  have hb4 : Below w.heap.size w w4 := by rw [hw4]; exact put5_below HB.out (by have := HN.out; omega) _ _ _ _
  have HU4 : Ux w4 u (vcl 32 v1 v2 v3 v4) := by rw [hw4]; exact ux_five HU.out
  clear x0 x1 x2 x3 x4 u0 u1 u2 u3 u4 hw4
  obtain ⟨u0, u1, u2, u3, u4⟩ := HU4.c5
  refine bodyPost_ret (v := .tuple #[.agg (vcl 32 v1 v2 v3 v4), .int .i64 6]) (by simp [results, Try.results25, go_sem, u0, u1, u2, u3, u4]) rfl ?_
  exact ⟨rfl, hb4⟩
set_option maxHeartbeats 1000000 in
theorem rdestroy_yes (k : Nat) (qk : Pl) (b : Nat) (w : World) (s : Ps) (v1 v2 v3 v4 : Sv) (h : RfV w 32 s v1 v2 v3 v4) (ho : s.Ok 32 b) (hb : b ≤ 1000) (htr : Tr s.l) (hk : s.l[k]? = some qk) (hku : qk.used = true) (hk0 : k ≠ 0) (hl : (selL s.l (kidP s k qk.gen)).length = 0) :
    Calls Try.prog 25 #[.agg (vcl 32 v1 v2 v3 v4), .agg #[.int .i64 k, .int .i64 qk.gen]] w fun e w' => ∃ u1 u2 u3 u4, e = .returned (.tuple #[.agg (vcl 32 u1 u2 u3 u4), .int .i64 0]) ∧ RfV w' 32 (s.fre k qk.gen) u1 u2 u3 u4 ∧ Below w.heap.size w w' := by
  have HF := Lib.hid (find_of hk hku).1
  have HD := Lib.hid (fun (W : World) h => rkids_any k qk.gen b W s v1 v2 v3 v4 h ho hb htr)
  have HE := Lib.hid (fun (W : World) h => rv_free k qk.gen b W 32 s v1 v2 v3 v4 h ho hb)
  have HO := Lib.hid ho
  have HR := Lib.hid h
  rw [List.eq_nil_of_length_eq_zero hl] at HD
  have hk1 : ((k : Int) == 0) = false := beq_eq_false_iff_ne.2 (by omega)
  generalize s.fre k qk.gen = s2 at *
  generalize s.namE k qk.gen = ne at *
  generalize s.getV k qk.gen = nv at *
  generalize hgg : qk.gen = g at *
  have HGG := Lib.hid hgg
  clear h ho htr hk hku hk0 hl hgg
  go_enter Try.func25, Try.ntmps25
  go_upto_region 1 with (fail)
  obtain ⟨w1, hw1⟩ : ∃ w1, w1 = ((w.alloc (ubox v1 v2 v3 v4)).alloc (hbox k g)).alloc (ubox0) := ⟨_, rfl⟩
  have HX : Hid (Ux w1 w.heap.size (vcl 32 v1 v2 v3 v4)) := Lib.hid (by rw [hw1]; exact ((Ux.new w _).alloc _).alloc _)
  have HY : Hid (Hx w1 (w.heap.size + 1) k g) := Lib.hid (by rw [hw1]; exact (Hx.new1 w _ k g).alloc _)
  have HU : Hid (Ux w1 (w.heap.size + 1 + 1) uz) := Lib.hid (by rw [hw1]; exact Ux.here _ (by simp))
  have HB : Hid (Below w.heap.size w w1) := Lib.hid (by rw [hw1]; exact ((below_alloc w _).alloc (by simp) _).alloc (by simp; omega) _)
  rw [← hw1]
  clear hw1
  obtain ⟨x, hx⟩ : ∃ x, x = w.heap.size := ⟨_, rfl⟩
  obtain ⟨y, hy⟩ : ∃ y, y = w.heap.size + 1 := ⟨_, rfl⟩
  obtain ⟨u, hu⟩ : ∃ u, u = w.heap.size + 1 + 1 := ⟨_, rfl⟩
  rw [← hu, ← hy, ← hx]
  rw [← hx] at HX; rw [← hy] at HY; rw [← hu] at HU
  have HN : Hid (x = w.heap.size ∧ y = w.heap.size + 1 ∧ u = w.heap.size + 1 + 1) := Lib.hid ⟨hx, hy, hu⟩
  clear hx hy hu
  have HC := Lib.hid (rv_yes HF.out (HR.out.behind HB.out) HO.out hb)
  obtain ⟨x0, x1, x2, x3, x4⟩ := HX.out.c5
  have xl := HX.out.lt
  obtain ⟨y0, y1⟩ := HY.out.c2
  have yl := HY.out.lt
  go_wp2_with fail
  refine HC.out.mono ?_
  rintro e w2 ⟨rfl, hz2⟩
  replace HU := Lib.hid (HU.out.behind hz2)
  replace HX := Lib.hid (HX.out.behind hz2)
  replace HY := Lib.hid (HY.out.behind hz2)
  replace HB := Lib.hid (below_trans HB.out hz2 HB.out.size)
  clear hz2 x0 x1 x2 x3 x4 y0 y1 xl yl HC
  obtain ⟨x0, x1, x2, x3, x4⟩ := HX.out.c5
  have xl := HX.out.lt
  obtain ⟨y0, y1⟩ := HY.out.c2
  have yl := HY.out.lt
  have HC := Lib.hid (HD.out _ (HR.out.behind HB.out))
  go_wp2_with fail
  refine HC.out.mono ?_
  rintro e w3 ⟨ka, kc, rfl, _, hz3⟩
  replace HU := Lib.hid (HU.out.behind hz3)
  replace HX := Lib.hid (HX.out.behind hz3)
  replace HY := Lib.hid (HY.out.behind hz3)
  replace HB := Lib.hid (below_trans HB.out hz3 HB.out.size)
  clear hz3 x0 x1 x2 x3 x4 y0 y1 xl yl HC
  obtain ⟨x0, x1, x2, x3, x4⟩ := HX.out.c5
  have xl := HX.out.lt
  obtain ⟨y0, y1⟩ := HY.out.c2
  have yl := HY.out.lt
  have HC := Lib.hid (HE.out _ (HR.out.behind HB.out))
  go_wp2_with fail
  refine HC.out.mono ?_
  rintro e w4 ⟨t1, t2, t3, t4, rfl, hr4, hz4⟩
  have HR4 := Lib.hid hr4
  clear hr4
  replace HU := Lib.hid (HU.out.behind hz4)
  replace HX := Lib.hid (HX.out.behind hz4)
  replace HY := Lib.hid (HY.out.behind hz4)
  replace HB := Lib.hid (below_trans HB.out hz4 HB.out.size)
  clear hz4 x0 x1 x2 x3 x4 y0 y1 xl yl HC
  go_upto_region 8 with (fail)
  obtain ⟨w5, hw5⟩ : ∃ w5, w5 = w4.alloc (.cells (vcl 32 t1 t2 t3 t4) 54) := ⟨_, rfl⟩
  have hz5 : Below w4.heap.size w4 w5 := by rw [hw5]; exact below_alloc _ _
  have HP5 : Hid (Px w5 w4.heap.size (vcl 32 t1 t2 t3 t4)) := Lib.hid (by rw [hw5]; exact Px.new w4 _)
  have HR5 := Lib.hid (HR4.out.behind hz5)
  have HL : Hid (u < w4.heap.size) := Lib.hid HU.out.lt
  replace HU := Lib.hid (HU.out.behind hz5)
  replace HB := Lib.hid (below_trans HB.out hz5 HB.out.size)
  rw [← hw5]
  obtain ⟨y, hy⟩ : ∃ y, y = w4.heap.size := ⟨_, rfl⟩
  rw [← hy]
  rw [← hy] at HP5
  have n4 : ¬ u = y := by have := HL.out; omega
  clear hw5 hy hz5
  obtain ⟨y0, y1, y2, y3, y4⟩ := HP5.out.c5
  have yl := HP5.out.lt
  obtain ⟨u0, u1, u2, u3, u4⟩ := HU.out.c5
  have uf := HU.out.frz
  have ul := HU.out.lt
  go_wp2_with fail
  obtain ⟨w6, hw6⟩ : ∃ w6, w6 = put5 w5 u t1 t2 t3 t4 := ⟨_, rfl⟩
  rw [show (((((w5).setCell ⟨u, 0, none⟩ (.int .i64 32)).setCell ⟨u, 1, none⟩ (.slice t1.a t1.n t1.c)).setCell ⟨u, 2, none⟩ (.slice t2.a t2.n t2.c)).setCell ⟨u, 3, none⟩ (.slice t3.a t3.n t3.c)).setCell ⟨u, 4, none⟩ (.slice t4.a t4.n t4.c) = w6 from hw6.symm]
  have hb4 : Below w.heap.size w w6 := by rw [hw6]; exact put5_below HB.out (by have := HN.out; omega) _ _ _ _
  have HU4 : Ux w6 u (vcl 32 t1 t2 t3 t4) := by rw [hw6]; exact ux_five HU.out
  have HR6 : RfV w6 32 s2 t1 t2 t3 t4 := by rw [hw6]; exact HR5.out.five HU.out _ _ _ _
  clear u0 u1 u2 u3 u4 y0 y1 y2 y3 y4 hw6
  obtain ⟨u0, u1, u2, u3, u4⟩ := HU4.c5
  refine bodyPost_ret (v := .tuple #[.agg (vcl 32 t1 t2 t3 t4), .int .i64 0]) (by simp [results, Try.results25, go_sem, u0, u1, u2, u3, u4]) rfl ?_
  exact ⟨t1, t2, t3, t4, rfl, HR6, hb4⟩
theorem rdestroy_any (i g : Int) (b : Nat) (w : World) (s : Ps) (v1 v2 v3 v4 : Sv) (h : RfV w 32 s v1 v2 v3 v4) (ho : s.Ok 32 b) (hb : b ≤ 1000) (htr : Tr s.l) :
    Calls Try.prog 25 #[.agg (vcl 32 v1 v2 v3 v4), .agg #[.int .i64 i, .int .i64 g]] w fun e w' => ∃ u1 u2 u3 u4, e = .returned (.tuple #[.agg (vcl 32 u1 u2 u3 u4), .int .i64 (s.desE i g)]) ∧ RfV w' 32 (s.des i g) u1 u2 u3 u4 ∧ Below w.heap.size w w' := by
  unfold Ps.des Ps.desE
  cases hf : s.find i g with
  | none => exact (rdestroy_no i g b w s v1 v2 v3 v4 h ho hb hf).mono fun e w' ⟨h1, h2⟩ => ⟨v1, v2, v3, v4, h1, h.behind h2, h2⟩
  | some k =>
    obtain ⟨qk, rfl, hk1, hk2, rfl, _, _⟩ := find_some hf
    by_cases hk : k = 0
    · subst hk
      simp only [if_true]
      exact (rdestroy_root qk.gen b w s v1 v2 v3 v4 h ho hb hf).mono fun e w' ⟨h1, h2⟩ => ⟨v1, v2, v3, v4, h1, h.behind h2, h2⟩
    · simp only [if_neg hk]
      by_cases hl : (selL s.l (kidP s k qk.gen)).length = 0
      · simp only [if_pos hl]
        exact rdestroy_yes k qk b w s v1 v2 v3 v4 h ho hb htr hk1 hk2 hk hl
      · simp only [if_neg hl]
        exact (rdestroy_busy k qk b w s v1 v2 v3 v4 h ho hb htr hk1 hk2 hk hl).mono fun e w' ⟨h1, h2⟩ => ⟨v1, v2, v3, v4, h1, h.behind h2, h2⟩
end Go.Proofs.Ytnbljnpfmeidfaa
