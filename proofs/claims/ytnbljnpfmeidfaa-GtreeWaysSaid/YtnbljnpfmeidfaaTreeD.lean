/- Contracts of the program's package gtree: Depth, Parent, up and the function that it hands back. Conditions: the tree lies in memory as TrX says, its pool within bounds. -/
import Derived.Test.YtnbljnpfmeidfaaTree
import Derived.Test.YtnbljnpfmeidfaaGt
namespace Go.Proofs.Ytnbljnpfmeidfaa
open Go Go.RowKit Go.ChangeShapes Go.WideShapes
set_option linter.unusedVariables false

abbrev hbox (i g : Int) : Obj := .cells #[.int .i64 i, .int .i64 g] 30
abbrev gbox (x : Pay) : Obj := .cells (gcells x) 71
theorem depth_any (i g : Int) (b : Nat) (w : World) (base t p : Nat) (s : Ps) (h : TrX w base t p s) (ho : s.Ok 32 b) (hb : b ≤ 1000) :
    Calls Try.prog 18 #[.pointer (some ⟨t, 0, none⟩), .agg #[.int .i64 i, .int .i64 g]] w fun e w' => e = .returned (.tuple #[.int .i64 (s.getV i g).dp, .int .i64 (s.namE i g)]) ∧ Below w.heap.size w w' := by
  have HC := Lib.hid (tat_any i g b (w.alloc (hbox i g)) base t p s (h.alloc _) ho hb)
  clear h ho
  generalize s.getV i g = x at HC ⊢
  generalize s.namE i g = n at HC ⊢
  obtain ⟨x0, x1, x2, x3⟩ := x
  go_enter Try.func18, Try.ntmps18
  go_wp2_with fail
  refine HC.out.mono ?_
  rintro e w2 ⟨rfl, hz2⟩
  go_wp2
  go_ret2
  exact ⟨rfl, (below_trans (below_alloc w _) hz2 (by simp)).alloc (by have := hz2.size; simp at this; omega) _⟩
theorem depth_nil (i g : Int) (w : World) :
    Calls Try.prog 18 #[.pointer none, .agg #[.int .i64 i, .int .i64 g]] w fun e w' => e = .returned (.tuple #[.int .i64 0, .int .i64 2]) ∧ Below w.heap.size w w' := by
  go_enter Try.func18, Try.ntmps18
  go_wp2_with fail
  refine (tat_nil i g _).mono ?_
  rintro e w2 ⟨rfl, hz2⟩
  go_wp2
  go_ret2
  exact ⟨rfl, (below_trans (below_alloc w _) hz2 (by simp)).alloc (by have := hz2.size; simp at this; omega) _⟩
/-- a group in a box -/
def Gx (w : World) (k : Nat) (x : Pay) : Prop := w.heap[k]? = some (.cells (gcells x) 71 (0, 0))
theorem Gx.new (w : World) (x : Pay) : Gx (w.alloc (gbox x)) w.heap.size x := heap_alloc_new w _
theorem Gx.lt {w : World} {k : Nat} {x : Pay} (h : Gx w k x) : k < w.heap.size := (Array.getElem?_eq_some_iff.1 h).1
theorem Gx.c3 {w : World} {k : Nat} {x : Pay} (h : Gx w k x) : w.cell? ⟨k, 0, none⟩ = some (.int .i64 x.ui) ∧ w.cell? ⟨k, 1, none⟩ = some (.int .i64 x.ug) ∧ w.cell? ⟨k, 2, none⟩ = some (.int .i64 x.dp) := by
  unfold Gx at h
  refine ⟨?_, ?_, ?_⟩ <;> simp [World.cell?, h]
theorem Gx.frz {w : World} {k : Nat} {x : Pay} (h : Gx w k x) : ∀ j, w.frozen? ⟨k, j, none⟩ = false := by
  intro j
  unfold Gx at h
  simp [World.frozen?, h]
theorem Gx.behind {w w' : World} {k : Nat} {x : Pay} (h : Gx w k x) (hb : Below w.heap.size w w') : Gx w' k x := by unfold Gx; rw [hb.block k h.lt]; exact h
theorem Gx.alloc {w : World} {k : Nat} {x : Pay} (h : Gx w k x) (o : Obj) : Gx (w.alloc o) k x := h.behind (below_alloc w o)
theorem Hx.alloc {w : World} {k : Nat} {i g : Int} (h : Hx w k i g) (o : Obj) : Hx (w.alloc o) k i g := h.behind (below_alloc w o)
set_option maxHeartbeats 1000000 in
theorem parent_yes (i g : Int) (b : Nat) (w : World) (base t p : Nat) (s : Ps) (h : TrX w base t p s) (ho : s.Ok 32 b) (hb : b ≤ 1000) (hn : s.namE i g = 0) (hr : ¬ (i = 0 ∧ g = 0)) :
    Calls Try.prog 13 #[.pointer (some ⟨t, 0, none⟩), .agg #[.int .i64 i, .int .i64 g]] w fun e w' => e = .returned (.tuple #[.agg #[.int .i64 (s.getV i g).ui, .int .i64 (s.getV i g).ug], .int .i64 0]) ∧ Below w.heap.size w w' := by
  have HC := Lib.hid (tat_any i g b ((w.alloc (hbox i g)).alloc (hbox 0 0)) base t p s ((h.alloc _).alloc _) ho hb)
  rw [hn] at HC
  clear h ho hn
  generalize s.getV i g = x at HC ⊢
  obtain ⟨x0, x1, x2, x3⟩ := x
  have HR := Lib.hid hr
  clear hr
  go_enter Try.func13, Try.ntmps13
  go_wp2_with fail
  refine HC.out.mono ?_
  rintro e w2 ⟨rfl, hz2⟩
  go_upto_region 4 with (fail)
  have hb3 : Below w.heap.size w (w2.alloc (gbox ⟨x0, x1, x2, x3⟩)) := (below_trans (((Below.refl _ w).alloc (Nat.le_refl _) (hbox i g)).alloc (by simp) (hbox 0 0)) hz2 (by simp; omega)).alloc (by have := hz2.size; simp at this; omega) _
  have hZ : Hx (w2.alloc (gbox ⟨x0, x1, x2, x3⟩)) w.heap.size i g := (((Hx.new w i g).alloc _).behind hz2).alloc _
  have hY : Hx (w2.alloc (gbox ⟨x0, x1, x2, x3⟩)) (w.heap.size + 1) 0 0 := ((Hx.new1 w (hbox i g) 0 0).behind hz2).alloc _
  have hU := Gx.new w2 ⟨x0, x1, x2, x3⟩
  obtain ⟨w3, hw3⟩ : ∃ w3, w3 = w2.alloc (gbox ⟨x0, x1, x2, x3⟩) := ⟨_, rfl⟩
  obtain ⟨z, hz⟩ : ∃ z, z = w.heap.size := ⟨_, rfl⟩
  obtain ⟨y, hy⟩ : ∃ y, y = w.heap.size + 1 := ⟨_, rfl⟩
  obtain ⟨u, hu⟩ : ∃ u, u = w2.heap.size := ⟨_, rfl⟩
  rw [show w2.alloc (Obj.cells #[Value.int IntKind.i64 x1, Value.int IntKind.i64 x2, Value.int IntKind.i64 x3] 71) = w3 from hw3.symm]
  rw [← hw3] at hb3 hZ hY hU
  rw [← hy, ← hz, ← hu]
  rw [← hz] at hZ
  rw [← hy] at hY
  rw [← hu] at hU
  have HB3 := Lib.hid hb3; have HZ := Lib.hid hZ; have HY := Lib.hid hY; have HU := Lib.hid hU
  have Hy := Lib.hid hy
  clear hz2 hw3 hz hy hu hb3 hZ hY hU
  obtain ⟨z0, z1⟩ := HZ.out.c2
  by_cases hi : i = 0
  · have hg : g ≠ 0 := fun e => HR.out ⟨hi, e⟩
    have hgb : (g == 0) = false := beq_eq_false_iff_ne.2 hg
    subst hi
    clear hg
    go_region_held3 (fun w' => w'.cell? ⟨z, 0, none⟩ = some (.int .i64 0) ∧ w'.cell? ⟨z, 1, none⟩ = some (.int .i64 g)) (go_keep)
      (first | (go_at_call 35; refine (root_any _).mono ?_; rintro e w4 ⟨rfl, rfl⟩))
    rename_i hHeld
    clear hHeld z0 z1
    obtain ⟨w5, hw5⟩ : ∃ w5, w5 = (w3.alloc (hbox 0 0)).drew := ⟨_, rfl⟩
    have hb5 : Below w3.heap.size w3 w5 := by rw [hw5]; exact below_drew (below_alloc _ _)
    rw [show (w3.alloc (Obj.cells #[Value.int IntKind.i64 0, Value.int IntKind.i64 0] 30)).drew = w5 from hw5.symm]
    clear hw5
    have HU5 := Lib.hid (HU.out.behind hb5)
    have HY5 := Lib.hid (HY.out.behind hb5)
    have HB5 := Lib.hid (below_trans HB3.out hb5 HB3.out.size)
    clear hb5
    obtain ⟨u0, u1, u2⟩ := HU5.out.c3
    obtain ⟨y0, y1⟩ := HY5.out.c2
    have yf := HY5.out.frz
    go_wp2
    refine bodyPost_ret (v := .tuple #[.agg #[.int .i64 x1, .int .i64 x2], .int .i64 0]) (by simp [results, Try.results13, go_sem, y0, y1]) rfl ⟨rfl, ?_⟩
    exact (HB5.out.setCell (by show w.heap.size ≤ y; rw [Hy.out]; omega) _).setCell (by show w.heap.size ≤ y; rw [Hy.out]; omega) _
  · have hib : (i == 0) = false := beq_eq_false_iff_ne.2 hi
    clear hi
    go_region_held3 (fun w' => w'.cell? ⟨z, 0, none⟩ = some (.int .i64 i) ∧ w'.cell? ⟨z, 1, none⟩ = some (.int .i64 g)) (go_keep)
      (first | (go_at_call 35; refine (root_any _).mono ?_; rintro e w4 ⟨rfl, rfl⟩))
    rename_i hHeld
    clear hHeld z0 z1
    obtain ⟨w5, hw5⟩ : ∃ w5, w5 = (w3.alloc (hbox 0 0)).drew := ⟨_, rfl⟩
    have hb5 : Below w3.heap.size w3 w5 := by rw [hw5]; exact below_drew (below_alloc _ _)
    rw [show (w3.alloc (Obj.cells #[Value.int IntKind.i64 0, Value.int IntKind.i64 0] 30)).drew = w5 from hw5.symm]
    clear hw5
    have HU5 := Lib.hid (HU.out.behind hb5)
    have HY5 := Lib.hid (HY.out.behind hb5)
    have HB5 := Lib.hid (below_trans HB3.out hb5 HB3.out.size)
    clear hb5
    obtain ⟨u0, u1, u2⟩ := HU5.out.c3
    obtain ⟨y0, y1⟩ := HY5.out.c2
    have yf := HY5.out.frz
    go_wp2
    refine bodyPost_ret (v := .tuple #[.agg #[.int .i64 x1, .int .i64 x2], .int .i64 0]) (by simp [results, Try.results13, go_sem, y0, y1]) rfl ⟨rfl, ?_⟩
    exact (HB5.out.setCell (by show w.heap.size ≤ y; rw [Hy.out]; omega) _).setCell (by show w.heap.size ≤ y; rw [Hy.out]; omega) _
set_option maxHeartbeats 1000000 in
theorem parent_root (b : Nat) (w : World) (base t p : Nat) (s : Ps) (h : TrX w base t p s) (ho : s.Ok 32 b) (hb : b ≤ 1000) (hn : s.namE 0 0 = 0) :
    Calls Try.prog 13 #[.pointer (some ⟨t, 0, none⟩), .agg #[.int .i64 0, .int .i64 0]] w fun e w' => e = .returned (.tuple #[.agg #[.int .i64 0, .int .i64 0], .int .i64 12]) ∧ Below w.heap.size w w' := by
  have HC := Lib.hid (tat_any 0 0 b ((w.alloc (hbox 0 0)).alloc (hbox 0 0)) base t p s ((h.alloc _).alloc _) ho hb)
  rw [hn] at HC
  clear h ho hn
  generalize s.getV 0 0 = x at HC ⊢
  obtain ⟨x0, x1, x2, x3⟩ := x
  go_enter Try.func13, Try.ntmps13
  go_wp2_with fail
  refine HC.out.mono ?_
  rintro e w2 ⟨rfl, hz2⟩
  go_upto_region 4 with (fail)
  have hb3 : Below w.heap.size w (w2.alloc (gbox ⟨x0, x1, x2, x3⟩)) := (below_trans (((Below.refl _ w).alloc (Nat.le_refl _) (hbox 0 0)).alloc (by simp) (hbox 0 0)) hz2 (by simp; omega)).alloc (by have := hz2.size; simp at this; omega) _
  have hZ : Hx (w2.alloc (gbox ⟨x0, x1, x2, x3⟩)) w.heap.size 0 0 := (((Hx.new w 0 0).alloc _).behind hz2).alloc _
  have hY : Hx (w2.alloc (gbox ⟨x0, x1, x2, x3⟩)) (w.heap.size + 1) 0 0 := ((Hx.new1 w (hbox 0 0) 0 0).behind hz2).alloc _
  obtain ⟨w3, hw3⟩ : ∃ w3, w3 = w2.alloc (gbox ⟨x0, x1, x2, x3⟩) := ⟨_, rfl⟩
  obtain ⟨z, hz⟩ : ∃ z, z = w.heap.size := ⟨_, rfl⟩
  obtain ⟨y, hy⟩ : ∃ y, y = w.heap.size + 1 := ⟨_, rfl⟩
  rw [show w2.alloc (Obj.cells #[Value.int IntKind.i64 x1, Value.int IntKind.i64 x2, Value.int IntKind.i64 x3] 71) = w3 from hw3.symm]
  rw [← hw3] at hb3 hZ hY
  rw [← hy, ← hz]
  rw [← hz] at hZ
  rw [← hy] at hY
  have HB3 := Lib.hid hb3; have HZ := Lib.hid hZ; have HY := Lib.hid hY
  have Hy := Lib.hid hy
  clear hz2 hw3 hz hy hb3 hZ hY
  obtain ⟨z0, z1⟩ := HZ.out.c2
  go_region_held3 (fun w' => w'.cell? ⟨z, 0, none⟩ = some (.int .i64 0) ∧ w'.cell? ⟨z, 1, none⟩ = some (.int .i64 0)) (go_keep)
    (first | (go_at_call 35; refine (root_any _).mono ?_; rintro e w4 ⟨rfl, rfl⟩))
  rename_i hHeld
  clear hHeld z0 z1
  obtain ⟨w5, hw5⟩ : ∃ w5, w5 = (w3.alloc (hbox 0 0)).drew := ⟨_, rfl⟩
  have hb5 : Below w3.heap.size w3 w5 := by rw [hw5]; exact below_drew (below_alloc _ _)
  rw [show (w3.alloc (Obj.cells #[Value.int IntKind.i64 0, Value.int IntKind.i64 0] 30)).drew = w5 from hw5.symm]
  clear hw5
  have HY5 := Lib.hid (HY.out.behind hb5)
  have HB5 := Lib.hid (below_trans HB3.out hb5 HB3.out.size)
  clear hb5
  obtain ⟨y0, y1⟩ := HY5.out.c2
  have yf := HY5.out.frz
  go_wp2
  refine bodyPost_ret (v := .tuple #[.agg #[.int .i64 0, .int .i64 0], .int .i64 12]) (by simp [results, Try.results13, go_sem, y0, y1]) rfl ⟨rfl, ?_⟩
  exact (HB5.out.setCell (by show w.heap.size ≤ y; rw [Hy.out]; omega) _).setCell (by show w.heap.size ≤ y; rw [Hy.out]; omega) _
set_option maxHeartbeats 1000000 in
theorem parent_two (i g : Int) (w : World) (u : Value) (hc : ∀ W, Below w.heap.size w W → Calls Try.prog 31 #[u, .agg #[.int .i64 i, .int .i64 g]] W fun e w' => e = .returned (.tuple #[.agg (gcells .zero), .int .i64 2]) ∧ Below W.heap.size W w') :
    Calls Try.prog 13 #[u, .agg #[.int .i64 i, .int .i64 g]] w fun e w' => e = .returned (.tuple #[.agg #[.int .i64 0, .int .i64 0], .int .i64 2]) ∧ Below w.heap.size w w' := by
  have HC := Lib.hid (hc ((w.alloc (hbox i g)).alloc (hbox 0 0)) (((Below.refl _ w).alloc (Nat.le_refl _) _).alloc (by simp) _))
  clear hc
  go_enter Try.func13, Try.ntmps13
  go_wp2_with fail
  refine HC.out.mono ?_
  rintro e w2 ⟨rfl, hz2⟩
  have hb2 : Below w.heap.size w w2 := below_trans (((Below.refl _ w).alloc (Nat.le_refl _) (hbox i g)).alloc (by simp) (hbox 0 0)) hz2 (by simp; omega)
  have hY : Hx w2 (w.heap.size + 1) 0 0 := (Hx.new1 w (hbox i g) 0 0).behind hz2
  obtain ⟨y, hy⟩ : ∃ y, y = w.heap.size + 1 := ⟨_, rfl⟩
  rw [← hy] at hY ⊢
  have HB2 := Lib.hid hb2
  have Hy := Lib.hid hy
  clear hb2 hz2 hy
  obtain ⟨y0, y1⟩ := hY.c2
  have yf := hY.frz
  have yl := hY.lt
  clear hY
  go_wp2
  refine bodyPost_ret (v := .tuple #[.agg #[.int .i64 0, .int .i64 0], .int .i64 2]) (by simp [results, Try.results13, go_sem, y0, y1, yl]) rfl ⟨rfl, ?_⟩
  exact ((HB2.out.setCell (by show w.heap.size ≤ y; rw [Hy.out]; omega) _).setCell (by show w.heap.size ≤ y; rw [Hy.out]; omega) _).alloc (by have := HB2.out.size; simpa using this) _
theorem parent_nil (i g : Int) (w : World) :
    Calls Try.prog 13 #[.pointer none, .agg #[.int .i64 i, .int .i64 g]] w fun e w' => e = .returned (.tuple #[.agg #[.int .i64 0, .int .i64 0], .int .i64 2]) ∧ Below w.heap.size w w' :=
  parent_two i g w _ (fun W _ => tat_nil i g W)
theorem getV_no {s : Ps} {i g : Int} (h : s.find i g = none) : s.getV i g = .zero ∧ s.namE i g = 2 := by
  unfold Ps.getV Ps.namE; rw [h]; exact ⟨rfl, rfl⟩
theorem parent_no (i g : Int) (b : Nat) (w : World) (base t p : Nat) (s : Ps) (h : TrX w base t p s) (ho : s.Ok 32 b) (hb : b ≤ 1000) (hn : s.find i g = none) :
    Calls Try.prog 13 #[.pointer (some ⟨t, 0, none⟩), .agg #[.int .i64 i, .int .i64 g]] w fun e w' => e = .returned (.tuple #[.agg #[.int .i64 0, .int .i64 0], .int .i64 2]) ∧ Below w.heap.size w w' :=
  parent_two i g w _ (fun W hW => by
    have := tat_any i g b W base t p s (h.behind hW) ho hb
    rwa [(getV_no hn).1, (getV_no hn).2] at this)
end Go.Proofs.Ytnbljnpfmeidfaa
