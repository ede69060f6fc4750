/- The document's tree of groups, told by value: New, Create, Parent. Condition: the tree is within bounds, its groups within one another. -/
import Derived.Test.YtnbljnpfmeidfaaDocB
namespace Go.Proofs.Ytnbljnpfmeidfaa
open Go Go.RowKit Go.ChangeShapes Go.WideShapes
set_option linter.unusedVariables false

theorem rv_no {i g : Int} {s : Ps} (hf : s.find i g = none) {b : Nat} {w : World} {room : Int} {v1 v2 v3 v4 : Sv} (h : RfV w room s v1 v2 v3 v4) (ho : s.Ok room b) (hb : b ≤ 1000) :
    Calls Try.prog 43 #[.agg (vcl room v1 v2 v3 v4), .agg #[.int .i64 i, .int .i64 g]] w fun e w' => e = .returned (.bool false) ∧ Below w.heap.size w w' := by
  have := rv_names i g b w room s v1 v2 v3 v4 h ho hb
  rwa [hf] at this
theorem rv_yes {i g : Int} {s : Ps} {k : Nat} (hf : s.find i g = some k) {b : Nat} {w : World} {room : Int} {v1 v2 v3 v4 : Sv} (h : RfV w room s v1 v2 v3 v4) (ho : s.Ok room b) (hb : b ≤ 1000) :
    Calls Try.prog 43 #[.agg (vcl room v1 v2 v3 v4), .agg #[.int .i64 i, .int .i64 g]] w fun e w' => e = .returned (.bool true) ∧ Below w.heap.size w w' := by
  have := rv_names i g b w room s v1 v2 v3 v4 h ho hb
  rwa [hf] at this
theorem Ux.here {w : World} {n : Nat} (cs : Array Value) (h : w.heap.size = n) : Ux (w.alloc (.cells cs 56)) n cs := by rw [← h]; exact Ux.new w cs
theorem Hx.here {w : World} {n : Nat} (i g : Int) (h : w.heap.size = n) : Hx (w.alloc (hbox i g)) n i g := by rw [← h]; exact Hx.new w i g
theorem Px.here {w : World} {n : Nat} (cs : Array Value) (h : w.heap.size = n) : Px (w.alloc (.cells cs 54)) n cs := by rw [← h]; exact Px.new w cs
abbrev sv0 : Sv := ⟨none, 0, 0⟩
abbrev uz : Array Value := #[.int .i64 0, .slice none 0 0, .slice none 0 0, .slice none 0 0, .slice none 0 0]
abbrev ubox0 : Obj := .cells uz 56
theorem rfv0 (w : World) : RfV w 32 ⟨[], -1, [], 0⟩ sv0 sv0 sv0 sv0 := ⟨none, 0, none, 0, none, 0, none, 0, rfl, refP_nil _ 32⟩
/-- the five stores that lay a tree into a box -/
def put5 (w : World) (x : Nat) (v1 v2 v3 v4 : Sv) : World :=
  ((((w.setCell ⟨x, 0, none⟩ (.int .i64 32)).setCell ⟨x, 1, none⟩ (.slice v1.a v1.n v1.c)).setCell ⟨x, 2, none⟩ (.slice v2.a v2.n v2.c)).setCell ⟨x, 3, none⟩ (.slice v3.a v3.n v3.c)).setCell ⟨x, 4, none⟩ (.slice v4.a v4.n v4.c)
theorem ux_five {w : World} {x : Nat} {c0 c1 c2 c3 c4 : Value} {u1 u2 u3 u4 : Sv} (h : Ux w x #[c0, c1, c2, c3, c4]) : Ux (put5 w x u1 u2 u3 u4) x (vcl 32 u1 u2 u3 u4) := ((((h.set _).set _).set _).set _).set _
theorem put5_below {B : Nat} {a w : World} {x : Nat} (h : Below B a w) (hx : B ≤ x) (v1 v2 v3 v4 : Sv) : Below B a (put5 w x v1 v2 v3 v4) :=
  ((((h.setCell hx _).setCell hx _).setCell hx _).setCell hx _).setCell hx _
theorem row_ux {w : World} {base p : Nat} {e : TypeId} {size : Nat} {v : Value} {n : Nat} {xs : List Value} {cs : Array Value} (h : w.ownsRow base e size v n xs) (x : Ux w p cs) (he : e ≠ 56) : v.ownBlock ≠ some p := by
  rcases h.2 with ⟨rfl, _⟩ | ⟨g, cap, cur, rfl, _, hh, _⟩
  · simp [Value.ownBlock]
  · intro hv
    simp [Value.ownBlock] at hv
    subst hv
    unfold Ux at x
    rw [x] at hh
    simp only [Option.some.injEq, Obj.cells.injEq] at hh
    exact absurd hh.2.1.symm he
theorem row_five {w : World} {base p : Nat} {e : TypeId} {size : Nat} {v : Value} {n : Nat} {xs : List Value} {cs : Array Value} (h : w.ownsRow base e size v n xs) (x : Ux w p cs) (he : e ≠ 56) (v1 v2 v3 v4 : Sv) : (put5 w p v1 v2 v3 v4).ownsRow base e size v n xs := by
  have hne := row_ux h x he
  exact row_other (row_other (row_other (row_other (row_other h hne) hne) hne) hne) hne
theorem RfV.five {w : World} {s : Ps} {v1 v2 v3 v4 : Sv} (h : RfV w 32 s v1 v2 v3 v4) {p : Nat} {cs : Array Value} (x : Ux w p cs) (u1 u2 u3 u4 : Sv) : RfV (put5 w p u1 u2 u3 u4) 32 s v1 v2 v3 v4 := by
  obtain ⟨a1, c1, a2, c2, a3, c3, a4, c4, e, h⟩ := h
  exact ⟨a1, c1, a2, c2, a3, c3, a4, c4, e, row_five h.vals x (by decide) .., row_five h.used x (by decide) .., row_five h.gens x (by decide) .., row_five h.freed x (by decide) ..⟩
theorem put5_cell {w : World} {x b o : Nat} (h : b ≠ x) (v1 v2 v3 v4 : Sv) : (put5 w x v1 v2 v3 v4).cell? ⟨b, o, none⟩ = w.cell? ⟨b, o, none⟩ := by
  have h' : x ≠ b := fun e => h e.symm
  unfold put5
  rw [far_cell _ _ _ _ _ _ h', far_cell _ _ _ _ _ _ h', far_cell _ _ _ _ _ _ h', far_cell _ _ _ _ _ _ h', far_cell _ _ _ _ _ _ h']
set_option maxHeartbeats 1000000 in
theorem rnew_any (w : World) :
    Calls Try.prog 22 #[] w fun e w' => ∃ u1 u2 u3 u4, e = .returned (.agg (vcl 32 u1 u2 u3 u4)) ∧ RfV w' 32 ps0 u1 u2 u3 u4 ∧ Below w.heap.size w w' := by
  go_enter Try.func22, Try.ntmps22
  go_wp2_with fail
  refine (rnewp_yes 32 _ (by omega)).mono ?_
  rintro e w1 ⟨rfl, hz1⟩
  have HZ1 := Lib.hid hz1
  have hl := hz1.size
  simp at hl
  clear hz1
  go_wp2_with fail
  refine (rv_put ⟨-1, 0, 0, 0⟩ 0 _ 32 ⟨[], -1, [], 0⟩ sv0 sv0 sv0 sv0 (rfv0 _) (Ps.Ok.start 32 (by omega)) (by omega)).mono ?_
  rintro e w2 ⟨u1, u2, u3, u4, rfl, hr2, hz2⟩
  rw [ps0_put] at hr2
  have HR2 := Lib.hid hr2
  have hq2 := hz2.size
  simp at hq2
  have HZ2 : Hid (Below (w.alloc ubox0).heap.size (w.alloc ubox0) w2) := Lib.hid ((HZ1.out.alloc (by simp; omega) _).trans (below_le hz2 (by simp; omega)))
  clear hr2 hz2
  have HX : Hid (Ux w2 w.heap.size uz) := Lib.hid ((Ux.new w uz).behind HZ2.out)
  obtain ⟨x, hx⟩ : ∃ x, x = w.heap.size := ⟨_, rfl⟩
  have HB : Hid (Below w.heap.size w w2) := Lib.hid (below_trans (below_alloc w ubox0) HZ2.out (by simp))
  have hxs : x < w2.heap.size := by omega
  rw [← hx] at HX ⊢
  have HXX := Lib.hid hx
  clear hq2 hl HZ1 HZ2 hx
  go_upto_region 3 with (fail)
  obtain ⟨w3, hw3⟩ : ∃ w3, w3 = (w2.alloc (.cells (vcl 32 u1 u2 u3 u4) 54)).alloc (hbox (Ps.putI ⟨[], -1, [], 0⟩ 32 : Nat) (Ps.putG ⟨[], -1, [], 0⟩ 32)) := ⟨_, rfl⟩
  have HB2 : Hid (Below w2.heap.size w2 w3) := Lib.hid (by rw [hw3]; exact (below_alloc _ _).alloc (by simp) _)
  have HR3 := Lib.hid (HR2.out.behind HB2.out)
  have HX3 := Lib.hid (HX.out.behind HB2.out)
  have HP3 : Hid (Px w3 w2.heap.size (vcl 32 u1 u2 u3 u4)) := Lib.hid (by rw [hw3]; exact (Px.new w2 _).alloc _)
  rw [← hw3]
  have HB3 := Lib.hid (below_trans HB.out HB2.out HB.out.size)
  clear hw3 HB2 HR2 HX HB
  obtain ⟨y0, y1, y2, y3, y4⟩ := HP3.out.c5
  have yl := HP3.out.lt
  have xf := HX3.out.frz
  have xl := HX3.out.lt
  obtain ⟨x0, x1, x2, x3, x4⟩ := HX3.out.c5
  go_wp2_with fail
  obtain ⟨w4, hw4⟩ : ∃ w4, w4 = put5 w3 x u1 u2 u3 u4 := ⟨_, rfl⟩
  rw [show ((((w3.setCell ⟨x, 0, none⟩ (.int .i64 32)).setCell ⟨x, 1, none⟩ (.slice u1.a u1.n u1.c)).setCell ⟨x, 2, none⟩ (.slice u2.a u2.n u2.c)).setCell ⟨x, 3, none⟩ (.slice u3.a u3.n u3.c)).setCell ⟨x, 4, none⟩ (.slice u4.a u4.n u4.c) = w4 from hw4.symm]
  have HR4 : Hid (RfV w4 32 ps0 u1 u2 u3 u4) := Lib.hid (by rw [hw4]; exact HR3.out.five HX3.out _ _ _ _)
  have HB4 : Hid (Below w.heap.size w w4) := Lib.hid (by rw [hw4]; exact put5_below HB3.out (by rw [HXX.out]; omega) _ _ _ _)
  have HX4 : Ux w4 x (vcl 32 u1 u2 u3 u4) := by rw [hw4]; exact ux_five HX3.out
  clear x0 x1 x2 x3 x4 y0 y1 y2 y3 y4 hw4
  obtain ⟨x0, x1, x2, x3, x4⟩ := HX4.c5
  exact bodyPost_ret (v := .agg (vcl 32 u1 u2 u3 u4)) (by simp [results, Try.results22, go_sem, x0, x1, x2, x3, x4]) rfl ⟨u1, u2, u3, u4, rfl, HR4.out, HB4.out⟩
theorem fold5h_of {w1 w : World} {B x y : Nat} {cs : Array Value} {i0 g0 : Int} {c0 c1 c2 c3 c4 : Value} {v1 v2 v3 v4 : Sv} (hx : Ux w x #[c0, c1, c2, c3, c4]) (hy : Hx w y i0 g0) (hne : x ≠ y) (hb : Below B w1 w) (hlx : B ≤ x) (hly : B ≤ y) (i g : Int) {w4 : World}
    (hw4 : w4 = ((put5 w x v1 v2 v3 v4).setCell ⟨y, 0, none⟩ (.int .i64 i)).setCell ⟨y, 1, none⟩ (.int .i64 g)) : Ux w4 x (vcl 32 v1 v2 v3 v4) ∧ Hx w4 y i g ∧ Below B w1 w4 := by
  have hne' : y ≠ x := fun e => hne e.symm
  have h1 : Hx (put5 w x v1 v2 v3 v4) y i0 g0 := ((((hy.far hne').far hne').far hne').far hne').far hne'
  subst hw4
  refine ⟨((ux_five hx).far hne).far hne, ?_, ((put5_below hb hlx v1 v2 v3 v4).setCell hly _).setCell hly _⟩
  unfold Hx at h1 ⊢
  rw [heap_set_same (heap_set_same h1)]
  simp
theorem Ux.nex {w : World} {x y : Nat} {cs : Array Value} {i g : Int} (h : Ux w x cs) (h2 : Hx w y i g) : x ≠ y := by
  rintro rfl
  unfold Ux at h
  unfold Hx at h2
  rw [h] at h2
  simp only [Option.some.injEq, Obj.cells.injEq] at h2
  exact absurd h2.2.1 (by decide)
theorem RfV.fiveH {w : World} {s : Ps} {v1 v2 v3 v4 : Sv} (h : RfV w 32 s v1 v2 v3 v4) {p y : Nat} {i0 g0 : Int} {cs : Array Value} (x : Ux w p cs) (hy : Hx w y i0 g0) (hne : p ≠ y) (u1 u2 u3 u4 : Sv) (i g : Int) : RfV ((((put5 w p u1 u2 u3 u4).setCell ⟨y, 0, none⟩ (.int .i64 i)).setCell ⟨y, 1, none⟩ (.int .i64 g))) 32 s v1 v2 v3 v4 := by
  have hne' : y ≠ p := fun e => hne e.symm
  have h1 : Hx (put5 w p u1 u2 u3 u4) y i0 g0 := ((((hy.far hne').far hne').far hne').far hne').far hne'
  obtain ⟨a1, c1, a2, c2, a3, c3, a4, c4, e, h⟩ := h.five x u1 u2 u3 u4
  exact ⟨a1, c1, a2, c2, a3, c3, a4, c4, e, (h.farH h1 0 _).farH (h1.set0 i) 1 _⟩
theorem RfV.drew {w : World} {room : Int} {s : Ps} {v1 v2 v3 v4 : Sv} (h : RfV w room s v1 v2 v3 v4) : RfV w.drew room s v1 v2 v3 v4 := h.behind (below_drew (Below.refl _ _))
set_option maxHeartbeats 1000000 in
theorem rcreate_no (i g : Int) (b : Nat) (w : World) (s : Ps) (v1 v2 v3 v4 : Sv) (h : RfV w 32 s v1 v2 v3 v4) (ho : s.Ok 32 b) (hb : b ≤ 1000) (hf : s.find i g = none) :
    Calls Try.prog 24 #[.agg (vcl 32 v1 v2 v3 v4), .agg #[.int .i64 i, .int .i64 g]] w fun e w' => e = .returned (.tuple #[.agg (vcl 32 v1 v2 v3 v4), .agg #[.int .i64 0, .int .i64 0], .int .i64 2]) ∧ Below w.heap.size w w' := by
  have HO := Lib.hid ho
  have HR := Lib.hid h
  have HF := Lib.hid hf
  clear h ho hf
  go_enter Try.func24, Try.ntmps24
  go_upto_region 1 with (fail)
  obtain ⟨w1, hw1⟩ : ∃ w1, w1 = (((w.alloc (ubox v1 v2 v3 v4)).alloc (hbox i g)).alloc (ubox0)).alloc (hbox 0 0) := ⟨_, rfl⟩
  have HX : Hid (Ux w1 w.heap.size (vcl 32 v1 v2 v3 v4)) := Lib.hid (by rw [hw1]; exact (((Ux.new w _).alloc _).alloc _).alloc _)
  have HY : Hid (Hx w1 (w.heap.size + 1) i g) := Lib.hid (by rw [hw1]; exact ((Hx.new1 w _ i g).alloc _).alloc _)
  have HU : Hid (Ux w1 (w.heap.size + 1 + 1) uz) := Lib.hid (by rw [hw1]; exact (Ux.here _ (by simp)).alloc _)
  have HV : Hid (Hx w1 (w.heap.size + 1 + 1 + 1) 0 0) := Lib.hid (by rw [hw1]; exact Hx.here _ _ (by simp))
  have HB : Hid (Below w.heap.size w w1) := Lib.hid (by rw [hw1]; exact (((below_alloc w _).alloc (by simp) _).alloc (by simp; omega) _).alloc (by simp; omega) _)
  rw [← hw1]
  clear hw1
  obtain ⟨x, hx⟩ : ∃ x, x = w.heap.size := ⟨_, rfl⟩
  obtain ⟨y, hy⟩ : ∃ y, y = w.heap.size + 1 := ⟨_, rfl⟩
  obtain ⟨u, hu⟩ : ∃ u, u = w.heap.size + 1 + 1 := ⟨_, rfl⟩
  obtain ⟨v, hv⟩ : ∃ v, v = w.heap.size + 1 + 1 + 1 := ⟨_, rfl⟩
  rw [← hv, ← hu, ← hy, ← hx]
  rw [← hx] at HX; rw [← hy] at HY; rw [← hu] at HU; rw [← hv] at HV
  have HN : Hid (x = w.heap.size ∧ y = w.heap.size + 1 ∧ u = w.heap.size + 1 + 1 ∧ v = w.heap.size + 1 + 1 + 1) := Lib.hid ⟨hx, hy, hu, hv⟩
  clear hx hy hu hv
  have HC := Lib.hid (rv_no HF.out (HR.out.behind HB.out) HO.out hb)
  obtain ⟨x0, x1, x2, x3, x4⟩ := HX.out.c5
  have xl := HX.out.lt
  obtain ⟨y0, y1⟩ := HY.out.c2
  have yl := HY.out.lt
  go_wp2_with fail
  refine HC.out.mono ?_
  rintro e w2 ⟨rfl, hz2⟩
  replace HX := Lib.hid (HX.out.behind hz2)
  replace HY := Lib.hid (HY.out.behind hz2)
  replace HU := Lib.hid (HU.out.behind hz2)
  replace HV := Lib.hid (HV.out.behind hz2)
  replace HB := Lib.hid (below_trans HB.out hz2 HB.out.size)
  clear hz2 x0 x1 x2 x3 x4 y0 y1 xl yl HC
  obtain ⟨x0, x1, x2, x3, x4⟩ := HX.out.c5
  have xl := HX.out.lt
  obtain ⟨u0, u1, u2, u3, u4⟩ := HU.out.c5
  obtain ⟨r0, r1⟩ := HV.out.c2
  have uf := HU.out.frz
  have vf := HV.out.frz
  have ul := HU.out.lt
  have vl := HV.out.lt
  have n1 : ¬ u = v := by have := HN.out; omega
  have n2 : ¬ u = x := by have := HN.out; omega
  have n3 : ¬ v = x := by have := HN.out; omega
  go_wp2_with fail
  obtain ⟨w4, hw4⟩ : ∃ w4, w4 = ((put5 w2 u v1 v2 v3 v4).setCell ⟨v, 0, none⟩ (.int .i64 0)).setCell ⟨v, 1, none⟩ (.int .i64 0) := ⟨_, rfl⟩
  rw [show (((((((w2).setCell ⟨u, 0, none⟩ (.int .i64 32)).setCell ⟨u, 1, none⟩ (.slice v1.a v1.n v1.c)).setCell ⟨u, 2, none⟩ (.slice v2.a v2.n v2.c)).setCell ⟨u, 3, none⟩ (.slice v3.a v3.n v3.c)).setCell ⟨u, 4, none⟩ (.slice v4.a v4.n v4.c)).setCell ⟨v, 0, none⟩ (.int .i64 0)).setCell ⟨v, 1, none⟩ (.int .i64 0) = w4 from hw4.symm]
  obtain ⟨HU4, HV4, hb4⟩ := fold5h_of (cs := #[]) HU.out HV.out (by have := HN.out; omega) HB.out (by have := HN.out; omega) (by have := HN.out; omega) 0 0 hw4
  clear x0 x1 x2 x3 x4 u0 u1 u2 u3 u4 r0 r1 hw4
  obtain ⟨u0, u1, u2, u3, u4⟩ := HU4.c5
  obtain ⟨r0, r1⟩ := HV4.c2
  refine bodyPost_ret (v := .tuple #[.agg (vcl 32 v1 v2 v3 v4), .agg #[.int .i64 0, .int .i64 0], .int .i64 2]) (by simp [results, Try.results24, go_sem, u0, u1, u2, u3, u4, r0, r1]) rfl ?_
  exact ⟨rfl, hb4⟩
set_option maxHeartbeats 1000000 in
theorem rcreate_deep (k : Nat) (i g : Int) (b : Nat) (w : World) (s : Ps) (v1 v2 v3 v4 : Sv) (h : RfV w 32 s v1 v2 v3 v4) (ho : s.Ok 32 b) (hb : b ≤ 1000) (htr : Tr s.l) (hf : s.find i g = some k) (hd : dep s.l k = 8) :
    Calls Try.prog 24 #[.agg (vcl 32 v1 v2 v3 v4), .agg #[.int .i64 i, .int .i64 g]] w fun e w' => e = .returned (.tuple #[.agg (vcl 32 v1 v2 v3 v4), .agg #[.int .i64 0, .int .i64 0], .int .i64 5]) ∧ Below w.heap.size w w' := by
  obtain ⟨q, rfl, hq, hu, rfl, _, _⟩ := find_some hf
  have HO := Lib.hid ho
  have HR := Lib.hid h
  have HF := Lib.hid hf
  have HD := Lib.hid (fun (W : World) h => rdepth_any k b W s v1 v2 v3 v4 h ho hb htr ⟨q, hq, hu⟩)
  rw [hd] at HD
  clear h ho hf htr hq hu hd
  generalize hgg : q.gen = g at *
  have HG := Lib.hid hgg
  clear hgg
  go_enter Try.func24, Try.ntmps24
  go_upto_region 1 with (fail)
  obtain ⟨w1, hw1⟩ : ∃ w1, w1 = (((w.alloc (ubox v1 v2 v3 v4)).alloc (hbox k g)).alloc (ubox0)).alloc (hbox 0 0) := ⟨_, rfl⟩
  have HX : Hid (Ux w1 w.heap.size (vcl 32 v1 v2 v3 v4)) := Lib.hid (by rw [hw1]; exact (((Ux.new w _).alloc _).alloc _).alloc _)
  have HY : Hid (Hx w1 (w.heap.size + 1) k g) := Lib.hid (by rw [hw1]; exact ((Hx.new1 w _ k g).alloc _).alloc _)
  have HU : Hid (Ux w1 (w.heap.size + 1 + 1) uz) := Lib.hid (by rw [hw1]; exact (Ux.here _ (by simp)).alloc _)
  have HV : Hid (Hx w1 (w.heap.size + 1 + 1 + 1) 0 0) := Lib.hid (by rw [hw1]; exact Hx.here _ _ (by simp))
  have HB : Hid (Below w.heap.size w w1) := Lib.hid (by rw [hw1]; exact (((below_alloc w _).alloc (by simp) _).alloc (by simp; omega) _).alloc (by simp; omega) _)
  rw [← hw1]
  clear hw1
  obtain ⟨x, hx⟩ : ∃ x, x = w.heap.size := ⟨_, rfl⟩
  obtain ⟨y, hy⟩ : ∃ y, y = w.heap.size + 1 := ⟨_, rfl⟩
  obtain ⟨u, hu⟩ : ∃ u, u = w.heap.size + 1 + 1 := ⟨_, rfl⟩
  obtain ⟨v, hv⟩ : ∃ v, v = w.heap.size + 1 + 1 + 1 := ⟨_, rfl⟩
  rw [← hv, ← hu, ← hy, ← hx]
  rw [← hx] at HX; rw [← hy] at HY; rw [← hu] at HU; rw [← hv] at HV
  have HN : Hid (x = w.heap.size ∧ y = w.heap.size + 1 ∧ u = w.heap.size + 1 + 1 ∧ v = w.heap.size + 1 + 1 + 1) := Lib.hid ⟨hx, hy, hu, hv⟩
  clear hx hy hu hv
  have HC := Lib.hid (rv_yes HF.out (HR.out.behind HB.out) HO.out hb)
  obtain ⟨x0, x1, x2, x3, x4⟩ := HX.out.c5
  have xl := HX.out.lt
  obtain ⟨y0, y1⟩ := HY.out.c2
  have yl := HY.out.lt
  go_wp2_with fail
  refine HC.out.mono ?_
  rintro e w2 ⟨rfl, hz2⟩
  replace HX := Lib.hid (HX.out.behind hz2)
  replace HY := Lib.hid (HY.out.behind hz2)
  replace HU := Lib.hid (HU.out.behind hz2)
  replace HV := Lib.hid (HV.out.behind hz2)
  replace HB := Lib.hid (below_trans HB.out hz2 HB.out.size)
  clear hz2 x0 x1 x2 x3 x4 y0 y1 xl yl HC
  obtain ⟨x0, x1, x2, x3, x4⟩ := HX.out.c5
  have xl := HX.out.lt
  obtain ⟨y0, y1⟩ := HY.out.c2
  have yl := HY.out.lt
  have HC := Lib.hid (HD.out _ (HR.out.behind HB.out))
  go_wp2_with fail
  refine HC.out.mono ?_
  rintro e w3 ⟨rfl, hz3⟩
  replace HX := Lib.hid (HX.out.behind hz3)
  replace HY := Lib.hid (HY.out.behind hz3)
  replace HU := Lib.hid (HU.out.behind hz3)
  replace HV := Lib.hid (HV.out.behind hz3)
  replace HB := Lib.hid (below_trans HB.out hz3 HB.out.size)
  clear hz3 x0 x1 x2 x3 x4 y0 y1 xl yl HC
  obtain ⟨x0, x1, x2, x3, x4⟩ := HX.out.c5
  have xl := HX.out.lt
  obtain ⟨u0, u1, u2, u3, u4⟩ := HU.out.c5
  obtain ⟨r0, r1⟩ := HV.out.c2
  have uf := HU.out.frz
  have vf := HV.out.frz
  have ul := HU.out.lt
  have vl := HV.out.lt
  have n1 : ¬ u = v := by have := HN.out; omega
  have n2 : ¬ u = x := by have := HN.out; omega
  have n3 : ¬ v = x := by have := HN.out; omega
  go_wp2_with fail
  obtain ⟨w4, hw4⟩ : ∃ w4, w4 = ((put5 w3 u v1 v2 v3 v4).setCell ⟨v, 0, none⟩ (.int .i64 0)).setCell ⟨v, 1, none⟩ (.int .i64 0) := ⟨_, rfl⟩
  rw [show (((((((w3).setCell ⟨u, 0, none⟩ (.int .i64 32)).setCell ⟨u, 1, none⟩ (.slice v1.a v1.n v1.c)).setCell ⟨u, 2, none⟩ (.slice v2.a v2.n v2.c)).setCell ⟨u, 3, none⟩ (.slice v3.a v3.n v3.c)).setCell ⟨u, 4, none⟩ (.slice v4.a v4.n v4.c)).setCell ⟨v, 0, none⟩ (.int .i64 0)).setCell ⟨v, 1, none⟩ (.int .i64 0) = w4 from hw4.symm]
  obtain ⟨HU4, HV4, hb4⟩ := fold5h_of (cs := #[]) HU.out HV.out (by have := HN.out; omega) HB.out (by have := HN.out; omega) (by have := HN.out; omega) 0 0 hw4
  clear x0 x1 x2 x3 x4 u0 u1 u2 u3 u4 r0 r1 hw4
  obtain ⟨u0, u1, u2, u3, u4⟩ := HU4.c5
  obtain ⟨r0, r1⟩ := HV4.c2
  refine bodyPost_ret (v := .tuple #[.agg (vcl 32 v1 v2 v3 v4), .agg #[.int .i64 0, .int .i64 0], .int .i64 5]) (by simp [results, Try.results24, go_sem, u0, u1, u2, u3, u4, r0, r1]) rfl ?_
  exact ⟨rfl, hb4⟩
set_option maxHeartbeats 1000000 in
theorem rcreate_yes (k : Nat) (i g : Int) (b : Nat) (w : World) (s : Ps) (v1 v2 v3 v4 : Sv) (h : RfV w 32 s v1 v2 v3 v4) (ho : s.Ok 32 b) (hb : b ≤ 1000) (htr : Tr s.l) (hf : s.find i g = some k) (hd : dep s.l k ≠ 8) :
    Calls Try.prog 24 #[.agg (vcl 32 v1 v2 v3 v4), .agg #[.int .i64 i, .int .i64 g]] w fun e w' => ∃ u1 u2 u3 u4, e = .returned (.tuple #[.agg (vcl 32 u1 u2 u3 u4), .agg #[.int .i64 (s.putI 32 : Nat), .int .i64 (s.putG 32)], .int .i64 (s.putE 32)]) ∧ RfV w' 32 (s.put 32 ⟨k, k, g, dep s.l k + 1⟩) u1 u2 u3 u4 ∧ Below w.heap.size w w' := by
  obtain ⟨q, rfl, hq, hu, rfl, _, _⟩ := find_some hf
  have HO := Lib.hid ho
  have HR := Lib.hid h
  have HF := Lib.hid hf
  have HD := Lib.hid (fun (W : World) h => rdepth_any k b W s v1 v2 v3 v4 h ho hb htr ⟨q, hq, hu⟩)
  have hd8 := (htr.dep0 ⟨q, hq, hu⟩).1
  generalize hdd : dep s.l k = d at *
  have HE := Lib.hid (fun (W : World) h => rv_put ⟨k, k, q.gen, d + 1⟩ b W 32 s v1 v2 v3 v4 h ho hb)
  simp only at HE
  generalize s.put 32 ⟨k, k, q.gen, d + 1⟩ = s2 at *
  generalize s.putI 32 = pi at *
  generalize s.putG 32 = pg at *
  generalize s.putE 32 = pe at *
  clear h ho hf htr hq hu
  generalize hgg : q.gen = g at *
  have HG := Lib.hid hgg
  have HDD := Lib.hid hdd
  have hd7 : d < 8 := by omega
  clear hgg hdd hd8 hd
  go_enter Try.func24, Try.ntmps24
  go_upto_region 1 with (fail)
  obtain ⟨w1, hw1⟩ : ∃ w1, w1 = (((w.alloc (ubox v1 v2 v3 v4)).alloc (hbox k g)).alloc (ubox0)).alloc (hbox 0 0) := ⟨_, rfl⟩
  have HX : Hid (Ux w1 w.heap.size (vcl 32 v1 v2 v3 v4)) := Lib.hid (by rw [hw1]; exact (((Ux.new w _).alloc _).alloc _).alloc _)
  have HY : Hid (Hx w1 (w.heap.size + 1) k g) := Lib.hid (by rw [hw1]; exact ((Hx.new1 w _ k g).alloc _).alloc _)
  have HU : Hid (Ux w1 (w.heap.size + 1 + 1) uz) := Lib.hid (by rw [hw1]; exact (Ux.here _ (by simp)).alloc _)
  have HV : Hid (Hx w1 (w.heap.size + 1 + 1 + 1) 0 0) := Lib.hid (by rw [hw1]; exact Hx.here _ _ (by simp))
  have HB : Hid (Below w.heap.size w w1) := Lib.hid (by rw [hw1]; exact (((below_alloc w _).alloc (by simp) _).alloc (by simp; omega) _).alloc (by simp; omega) _)
  rw [← hw1]
  clear hw1
  obtain ⟨x, hx⟩ : ∃ x, x = w.heap.size := ⟨_, rfl⟩
  obtain ⟨y, hy⟩ : ∃ y, y = w.heap.size + 1 := ⟨_, rfl⟩
  obtain ⟨u, hu⟩ : ∃ u, u = w.heap.size + 1 + 1 := ⟨_, rfl⟩
  obtain ⟨v, hv⟩ : ∃ v, v = w.heap.size + 1 + 1 + 1 := ⟨_, rfl⟩
  rw [← hv, ← hu, ← hy, ← hx]
  rw [← hx] at HX; rw [← hy] at HY; rw [← hu] at HU; rw [← hv] at HV
  have HN : Hid (x = w.heap.size ∧ y = w.heap.size + 1 ∧ u = w.heap.size + 1 + 1 ∧ v = w.heap.size + 1 + 1 + 1) := Lib.hid ⟨hx, hy, hu, hv⟩
  clear hx hy hu hv
  have HC := Lib.hid (rv_yes HF.out (HR.out.behind HB.out) HO.out hb)
  obtain ⟨x0, x1, x2, x3, x4⟩ := HX.out.c5
  have xl := HX.out.lt
  obtain ⟨y0, y1⟩ := HY.out.c2
  have yl := HY.out.lt
  go_wp2_with fail
  refine HC.out.mono ?_
  rintro e w2 ⟨rfl, hz2⟩
  replace HX := Lib.hid (HX.out.behind hz2)
  replace HY := Lib.hid (HY.out.behind hz2)
  replace HU := Lib.hid (HU.out.behind hz2)
  replace HV := Lib.hid (HV.out.behind hz2)
  replace HB := Lib.hid (below_trans HB.out hz2 HB.out.size)
  clear hz2 x0 x1 x2 x3 x4 y0 y1 xl yl HC
  obtain ⟨x0, x1, x2, x3, x4⟩ := HX.out.c5
  have xl := HX.out.lt
  obtain ⟨y0, y1⟩ := HY.out.c2
  have yl := HY.out.lt
  have HC := Lib.hid (HD.out _ (HR.out.behind HB.out))
  go_wp2_with fail
  refine HC.out.mono ?_
  rintro e w3 ⟨rfl, hz3⟩
  replace HX := Lib.hid (HX.out.behind hz3)
  replace HY := Lib.hid (HY.out.behind hz3)
  replace HU := Lib.hid (HU.out.behind hz3)
  replace HV := Lib.hid (HV.out.behind hz3)
  replace HB := Lib.hid (below_trans HB.out hz3 HB.out.size)
  clear hz3 x0 x1 x2 x3 x4 y0 y1 xl yl HC
  obtain ⟨x0, x1, x2, x3, x4⟩ := HX.out.c5
  have xl := HX.out.lt
  obtain ⟨y0, y1⟩ := HY.out.c2
  have yl := HY.out.lt
  have HC := Lib.hid (HE.out _ (HR.out.behind HB.out))
  go_wp2_with fail
  refine HC.out.mono ?_
  rintro e w4 ⟨t1, t2, t3, t4, rfl, hr4, hz4⟩
  have HR4 := Lib.hid hr4
  clear hr4
  replace HX := Lib.hid (HX.out.behind hz4)
  replace HY := Lib.hid (HY.out.behind hz4)
  replace HU := Lib.hid (HU.out.behind hz4)
  replace HV := Lib.hid (HV.out.behind hz4)
  replace HB := Lib.hid (below_trans HB.out hz4 HB.out.size)
  clear hz4 x0 x1 x2 x3 x4 y0 y1 xl yl HC
  go_upto_region 6 with (fail)
  obtain ⟨w5, hw5⟩ : ∃ w5, w5 = (w4.alloc (.cells (vcl 32 t1 t2 t3 t4) 54)).alloc (hbox (pi : Nat) pg) := ⟨_, rfl⟩
  have hz5 : Below w4.heap.size w4 w5 := by rw [hw5]; exact (below_alloc _ _).alloc (by simp) _
  have HP5 : Hid (Px w5 w4.heap.size (vcl 32 t1 t2 t3 t4)) := Lib.hid (by rw [hw5]; exact (Px.new w4 _).alloc _)
  have HQ5 : Hid (Hx w5 (w4.heap.size + 1) pi pg) := Lib.hid (by rw [hw5]; exact Hx.here _ _ (by simp))
  have HR5 := Lib.hid (HR4.out.behind hz5)
  have HL : Hid (v < w4.heap.size) := Lib.hid HV.out.lt
  replace HU := Lib.hid (HU.out.behind hz5)
  replace HV := Lib.hid (HV.out.behind hz5)
  replace HB := Lib.hid (below_trans HB.out hz5 HB.out.size)
  clear hz5 HX HY
  rw [← hw5]
  obtain ⟨y, hy⟩ : ∃ y, y = w4.heap.size := ⟨_, rfl⟩
  obtain ⟨z, hz⟩ : ∃ z, z = w4.heap.size + 1 := ⟨_, rfl⟩
  rw [← hz, ← hy]
  rw [← hy] at HP5; rw [← hz] at HQ5
  have n4 : ¬ u = y := by have := HN.out; have := HL.out; omega
  have n5 : ¬ v = y := by have := HN.out; have := HL.out; omega
  have n6 : ¬ u = z := by have := HN.out; have := HL.out; omega
  have n7 : ¬ v = z := by have := HN.out; have := HL.out; omega
  clear hw5 hy hz
  obtain ⟨y0, y1, y2, y3, y4⟩ := HP5.out.c5
  obtain ⟨z0, z1⟩ := HQ5.out.c2
  have yl := HP5.out.lt
  have zl := HQ5.out.lt
  obtain ⟨u0, u1, u2, u3, u4⟩ := HU.out.c5
  obtain ⟨r0, r1⟩ := HV.out.c2
  have uf := HU.out.frz
  have vf := HV.out.frz
  have ul := HU.out.lt
  have vl := HV.out.lt
  have n1 : ¬ u = v := by have := HN.out; omega
  go_wp2_with fail
  go_region
  go_wp2_with fail
  obtain ⟨w6, hw6⟩ : ∃ w6, w6 = ((put5 w5 u t1 t2 t3 t4).setCell ⟨v, 0, none⟩ (.int .i64 pi)).setCell ⟨v, 1, none⟩ (.int .i64 pg) := ⟨_, rfl⟩
  rw [show (((((((w5).setCell ⟨u, 0, none⟩ (.int .i64 32)).setCell ⟨u, 1, none⟩ (.slice t1.a t1.n t1.c)).setCell ⟨u, 2, none⟩ (.slice t2.a t2.n t2.c)).setCell ⟨u, 3, none⟩ (.slice t3.a t3.n t3.c)).setCell ⟨u, 4, none⟩ (.slice t4.a t4.n t4.c)).setCell ⟨v, 0, none⟩ (.int .i64 pi)).setCell ⟨v, 1, none⟩ (.int .i64 pg) = w6 from hw6.symm]
  have HR6 : RfV w6 32 s2 t1 t2 t3 t4 := by rw [hw6]; exact HR5.out.fiveH (cs := uz) HU.out HV.out (by have := HN.out; omega) _ _ _ _ _ _
  obtain ⟨HU6, HV6, hb6⟩ := fold5h_of (cs := #[]) HU.out HV.out (by have := HN.out; omega) HB.out (by have := HN.out; omega) (by have := HN.out; omega) pi pg hw6
  clear y0 y1 y2 y3 y4 u0 u1 u2 u3 u4 r0 r1 z0 z1 hw6
  obtain ⟨u0, u1, u2, u3, u4⟩ := HU6.c5
  obtain ⟨r0, r1⟩ := HV6.c2
  exact bodyPost_ret (v := .tuple #[.agg (vcl 32 t1 t2 t3 t4), .agg #[.int .i64 (pi : Nat), .int .i64 pg], .int .i64 pe]) (by simp [results, Try.results24, go_sem, u0, u1, u2, u3, u4, r0, r1]) rfl ⟨t1, t2, t3, t4, rfl, HR6.drew, below_drew hb6⟩
theorem rcreate_any (i g : Int) (b : Nat) (w : World) (s : Ps) (v1 v2 v3 v4 : Sv) (h : RfV w 32 s v1 v2 v3 v4) (ho : s.Ok 32 b) (hb : b ≤ 1000) (htr : Tr s.l) :
    Calls Try.prog 24 #[.agg (vcl 32 v1 v2 v3 v4), .agg #[.int .i64 i, .int .i64 g]] w fun e w' => ∃ u1 u2 u3 u4, e = .returned (.tuple #[.agg (vcl 32 u1 u2 u3 u4), .agg #[.int .i64 (s.creI i g : Nat), .int .i64 (s.creG i g)], .int .i64 (s.creE i g)]) ∧ RfV w' 32 (s.cre i g) u1 u2 u3 u4 ∧ Below w.heap.size w w' := by
  unfold Ps.cre Ps.creI Ps.creG Ps.creE
  cases hf : s.find i g with
  | none => exact (rcreate_no i g b w s v1 v2 v3 v4 h ho hb hf).mono fun e w' ⟨h1, h2⟩ => ⟨v1, v2, v3, v4, h1, h.behind h2, h2⟩
  | some k =>
    by_cases hd : dep s.l k = 8
    · simp only [if_pos hd]
      exact (rcreate_deep k i g b w s v1 v2 v3 v4 h ho hb htr hf hd).mono fun e w' ⟨h1, h2⟩ => ⟨v1, v2, v3, v4, h1, h.behind h2, h2⟩
    · simp only [if_neg hd]
      exact rcreate_yes k i g b w s v1 v2 v3 v4 h ho hb htr hf hd
end Go.Proofs.Ytnbljnpfmeidfaa
