/- Contracts of the document's pool, doleref05: Get, Set. Conditions: the rows are as long as one another. -/
import Derived.Test.YtnbljnpfmeidfaaRefN
namespace Go.Proofs.Ytnbljnpfmeidfaa
open Go Go.RowKit Go.ChangeShapes Go.WideShapes
set_option linter.unusedVariables false

/-- a handle in a box -/
def Hx (w : World) (k : Nat) (i g : Int) : Prop := w.heap[k]? = some (.cells #[.int .i64 i, .int .i64 g] 30 (0, 0))
theorem Hx.new (w : World) (i g : Int) : Hx (w.alloc (.cells #[.int .i64 i, .int .i64 g] 30)) w.heap.size i g := heap_alloc_new w _
theorem Hx.new1 (w : World) (o : Obj) (i g : Int) : Hx ((w.alloc o).alloc (.cells #[.int .i64 i, .int .i64 g] 30)) (w.heap.size + 1) i g := by
  have := heap_alloc_new (w.alloc o) (.cells #[.int .i64 i, .int .i64 g] 30)
  rw [show (w.alloc o).heap.size = w.heap.size + 1 by simp] at this
  exact this
theorem Hx.c2 {w : World} {k : Nat} {i g : Int} (h : Hx w k i g) : w.cell? ⟨k, 0, none⟩ = some (.int .i64 i) ∧ w.cell? ⟨k, 1, none⟩ = some (.int .i64 g) := by
  unfold Hx at h
  constructor <;> simp [World.cell?, h]
theorem Hx.lt {w : World} {k : Nat} {i g : Int} (h : Hx w k i g) : k < w.heap.size := (Array.getElem?_eq_some_iff.1 h).1
theorem Hx.frz {w : World} {k : Nat} {i g : Int} (h : Hx w k i g) : ∀ j, w.frozen? ⟨k, j, none⟩ = false := by
  intro j
  unfold Hx at h
  simp [World.frozen?, h]
theorem Hx.behind {w w' : World} {k : Nat} {i g : Int} (h : Hx w k i g) (hb : Below w.heap.size w w') : Hx w' k i g := by unfold Hx; rw [hb.block k h.lt]; exact h
theorem Hx.far {w : World} {k c o : Nat} {i g : Int} {u : Value} (h : Hx w k i g) (hne : k ≠ c) : Hx (w.setCell ⟨c, o, none⟩ u) k i g := by unfold Hx; rw [Below.heap_setCell _ _ _ _ (by exact hne)]; exact h
theorem Hx.ne {w : World} {k p : Nat} {i g : Int} {cs : Array Value} (h : Hx w k i g) (x : Px w p cs) : k ≠ p := by
  rintro rfl
  unfold Hx at h
  unfold Px at x
  rw [h] at x
  simp only [Option.some.injEq, Obj.cells.injEq] at x
  exact absurd x.2.1 (by decide)
/-- a row lies in no handle's box -/
theorem row_hx {w : World} {base p : Nat} {e : TypeId} {v : Value} {n : Nat} {xs : List Value} {i g : Int} (h : w.ownsRow base e 1 v n xs) (x : Hx w p i g) (he : e ≠ 30) : v.ownBlock ≠ some p := by
  rcases h.2 with ⟨rfl, _⟩ | ⟨g, cap, cur, rfl, _, hh, _⟩
  · simp [Value.ownBlock]
  · intro hv
    simp [Value.ownBlock] at hv
    subst hv
    unfold Hx at x
    rw [x] at hh
    simp only [Option.some.injEq, Obj.cells.injEq] at hh
    exact he hh.2.1.symm
theorem row_diff {w : World} {base base2 : Nat} {e e2 : TypeId} {g g2 n n2 c c2 : Nat} {xs xs2 : List Value} (h : w.ownsRow base e 1 (.slice (some ⟨g, 0, none⟩) n c) n xs) (h2 : w.ownsRow base2 e2 1 (.slice (some ⟨g2, 0, none⟩) n2 c2) n2 xs2) (he : e ≠ e2) : g ≠ g2 := by
  rintro rfl
  rcases h.2 with ⟨hv, _⟩ | ⟨x, cap, cur, hv, _, hh, _⟩
  · cases hv
  · rcases h2.2 with ⟨hv2, _⟩ | ⟨x2, cap2, cur2, hv2, _, hh2, _⟩
    · cases hv2
    · cases hv
      cases hv2
      rw [hh] at hh2
      simp only [Option.some.injEq, Obj.cells.injEq] at hh2
      exact he hh2.2.1
theorem iv_set (l : List Int) (k : Nat) (x : Int) : (iv l).set k (.int .i64 x) = iv (l.set k x) := by rw [iv, iv, List.map_set]
theorem bv_set (l : List Bool) (k : Nat) (x : Bool) : (bv l).set k (.bool x) = bv (l.set k x) := by rw [bv, bv, List.map_set]
theorem OwnP.setV {w : World} {base : Nat} {r : Rp} {g1 c1 g2 c2 g3 c3 g4 c4 : Nat} (h : OwnP w base r g1 c1 g2 c2 g3 c3 g4 c4) (k : Nat) (x : Int) : OwnP (w.setCell ⟨g1, k, none⟩ (.int .i64 x)) base { r with vals := r.vals.set k x } g1 c1 g2 c2 g3 c3 g4 c4 := by
  have n12 := row_diff h.vals h.used (by decide)
  refine ⟨?_, row_other h.used (by simp [Value.ownBlock]; omega), row_other h.gens (by simp [Value.ownBlock]; exact fun e => h.n13 e.symm), row_other h.freed (by simp [Value.ownBlock]; exact fun e => h.n14 e.symm), h.n13, h.n14, h.n34⟩
  have := (h.vals.stored k (.int .i64 x)).1
  rw [iv_set] at this
  simpa using this
theorem OwnP.setU {w : World} {base : Nat} {r : Rp} {g1 c1 g2 c2 g3 c3 g4 c4 : Nat} (h : OwnP w base r g1 c1 g2 c2 g3 c3 g4 c4) (k : Nat) (x : Bool) : OwnP (w.setCell ⟨g2, k, none⟩ (.bool x)) base { r with used := r.used.set k x } g1 c1 g2 c2 g3 c3 g4 c4 := by
  have n12 := row_diff h.vals h.used (by decide)
  have n32 := row_diff h.gens h.used (by decide)
  have n42 := row_diff h.freed h.used (by decide)
  refine ⟨row_other h.vals (by simp [Value.ownBlock]; omega), ?_, row_other h.gens (by simp [Value.ownBlock]; omega), row_other h.freed (by simp [Value.ownBlock]; omega), h.n13, h.n14, h.n34⟩
  have := (h.used.stored k (.bool x)).1
  rw [bv_set] at this
  simpa using this
theorem OwnP.setG {w : World} {base : Nat} {r : Rp} {g1 c1 g2 c2 g3 c3 g4 c4 : Nat} (h : OwnP w base r g1 c1 g2 c2 g3 c3 g4 c4) (k : Nat) (x : Int) : OwnP (w.setCell ⟨g3, k, none⟩ (.int .i64 x)) base { r with gens := r.gens.set k x } g1 c1 g2 c2 g3 c3 g4 c4 := by
  have n32 := row_diff h.gens h.used (by decide)
  refine ⟨row_other h.vals (by simp [Value.ownBlock]; exact h.n13), row_other h.used (by simp [Value.ownBlock]; omega), ?_, row_other h.freed (by simp [Value.ownBlock]; exact fun e => h.n34 e.symm), h.n13, h.n14, h.n34⟩
  have := (h.gens.stored k (.int .i64 x)).1
  rw [iv_set] at this
  simpa using this

set_option maxHeartbeats 1000000 in
theorem rset_no (i g x : Int) (w : World) (r : Rp) (a1 : Option Addr) (c1 : Nat) (a2 : Option Addr) (c2 : Nat) (a3 : Option Addr) (c3 : Nat) (a4 : Option Addr) (c4 : Nat) (h : RefP w r a1 c1 a2 c2 a3 c3 a4 c4) (ho : r.Ok) (hn : ∀ k, ¬ NamesR r i g k) :
    Calls Try.prog 49 #[.agg (pcells r a1 c1 a2 c2 a3 c3 a4 c4), .agg #[.int .i64 i, .int .i64 g], .int .i64 x] w fun e w' => e = .returned (.tuple #[.agg (pcells r a1 c1 a2 c2 a3 c3 a4 c4), .int .i64 2]) ∧ Below w.heap.size w w' := by
  have HR := Lib.hid h
  have HN := Lib.hid hn
  clear h hn
  obtain ⟨W0, hW0⟩ : ∃ W0, W0 = ((w.alloc (.cells (pcells r a1 c1 a2 c2 a3 c3 a4 c4) 54)).alloc (.cells #[.int .i64 i, .int .i64 g] 30)).alloc (.cells pzero 54) := ⟨_, rfl⟩
  have X0 : Hid (Px W0 w.heap.size (pcells r a1 c1 a2 c2 a3 c3 a4 c4)) := Lib.hid (by rw [hW0]; exact ((Px.new w _).alloc _).alloc _)
  have Y0 : Hid (Hx W0 (w.heap.size + 1) i g) := Lib.hid (by rw [hW0]; exact (Hx.new1 w _ i g).behind (below_alloc _ _))
  have Z0 : Hid (Px W0 (w.heap.size + 2) pzero) := Lib.hid (by
    rw [hW0]
    have := Px.new1 (w.alloc (.cells (pcells r a1 c1 a2 c2 a3 c3 a4 c4) 54)) (.cells #[.int .i64 i, .int .i64 g] 30) pzero
    rw [show (w.alloc (.cells (pcells r a1 c1 a2 c2 a3 c3 a4 c4) 54)).heap.size = w.heap.size + 1 by simp] at this
    exact this)
  have B0 : Hid (Below w.heap.size w W0) := Lib.hid (by rw [hW0]; exact ((below_alloc _ _).alloc (by simp) _).alloc (by simp; omega) _)
  have R0 := Lib.hid (HR.out.behind B0.out)
  go_enter Try.func49, Try.ntmps49
  go_wp2_with fail
  rw [← hW0]
  clear hW0
  refine (rnames_no _ _ _ _ _ _ _ _ _ _ _ _ R0.out ho HN.out).mono ?_
  rintro e w1 ⟨rfl, hb⟩
  have X1 := Lib.hid (X0.out.behind hb)
  have Y1 := Lib.hid (Y0.out.behind hb)
  have Z1 := Lib.hid (Z0.out.behind hb)
  have R1 := Lib.hid (R0.out.behind hb)
  have B1 := Lib.hid (below_trans B0.out hb B0.out.size)
  clear hb
  obtain ⟨q0, q1, q2, q3, q4⟩ := X1.out.c5
  obtain ⟨y0, y1⟩ := Y1.out.c2
  have f0 := X1.out.frz
  have l0 := X1.out.lt
  have l1 := Y1.out.lt
  obtain ⟨z0, z1, z2, z3, z4⟩ := Z1.out.c5
  have f1 := Z1.out.frz
  have l2 := Z1.out.lt
  go_wp2
  refine bodyPost_ret (v := .tuple #[.agg (pcells r a1 c1 a2 c2 a3 c3 a4 c4), .int .i64 2]) (by simp [results, Try.results49, go_sem, z0, z1, z2, z3, z4]) rfl ⟨rfl, ?_⟩
  repeat (first | exact B1.out | refine Below.setCell ?_ (by simp <;> omega) _)
end Go.Proofs.Ytnbljnpfmeidfaa
