/- A tree in memory, and the first contracts of the program's package gtree: at, root, Depth. Conditions: the tree lies in memory as TrX says, its pool within bounds. -/
import Derived.Test.YtnbljnpfmeidfaaPsStep
import Derived.Deep.RegionHeld3
namespace Go.Proofs.Ytnbljnpfmeidfaa
open Go Go.RowKit Go.ChangeShapes Go.WideShapes
set_option linter.unusedVariables false

theorem PlX.behind {w w' : World} {base p : Nat} {room : Int} {s : Ps} (h : PlX w base p room s) (hb : Below w.heap.size w w') : PlX w' base p room s := by
  obtain ⟨v, h⟩ := h; exact ⟨v, h.behind hb⟩
theorem PlX.lt {w : World} {base p : Nat} {room : Int} {s : Ps} (h : PlX w base p room s) : p < w.heap.size := by
  obtain ⟨v, h⟩ := h; exact h.lt
theorem PlX.lo {w : World} {base p : Nat} {room : Int} {s : Ps} (h : PlX w base p room s) : base ≤ p := by
  obtain ⟨v, h⟩ := h; exact h.lo
/-- the tree in block t, its pool in block p -/
structure TrX (w : World) (base t p : Nat) (s : Ps) : Prop where
  tb : w.heap[t]? = some (.cells #[.pointer (some ⟨p, 0, none⟩)] 83 (0, 0))
  has : PlX w base p 32 s
  lo : base ≤ t
theorem TrX.ne {w : World} {base t p : Nat} {s : Ps} (h : TrX w base t p s) : t ≠ p := by
  rintro rfl
  obtain ⟨v, hp⟩ := h.has
  have h1 := hp.blk
  rw [h.tb] at h1
  simp at h1
theorem TrX.lt {w : World} {base t p : Nat} {s : Ps} (h : TrX w base t p s) : t < w.heap.size := (Array.getElem?_eq_some_iff.1 h.tb).1
theorem TrX.cell {w : World} {base t p : Nat} {s : Ps} (h : TrX w base t p s) : w.cell? ⟨t, 0, none⟩ = some (.pointer (some ⟨p, 0, none⟩)) := by
  simp [World.cell?, h.tb]
theorem TrX.behind {w w' : World} {base t p : Nat} {s : Ps} (h : TrX w base t p s) (hb : Below w.heap.size w w') : TrX w' base t p s :=
  ⟨by rw [hb.block t h.lt]; exact h.tb, h.has.behind hb, h.lo⟩
theorem TrX.step {w w' : World} {base t p : Nat} {s s' : Ps} (h : TrX w base t p s) (hs : PoolStep base p w w') (hp : PlX w' base p 32 s') : TrX w' base t p s' :=
  ⟨hs.same h.tb h.ne (by decide), hp, h.lo⟩
theorem TrX.alloc {w : World} {base t p : Nat} {s : Ps} (h : TrX w base t p s) (o : Obj) : TrX (w.alloc o) base t p s := h.behind (below_alloc w o)
theorem TrX.base_le {w : World} {base t p : Nat} {s : Ps} (h : TrX w base t p s) : base ≤ w.heap.size := by have := h.lo; have := h.lt; omega

theorem root_any (w : World) : Calls Try.prog 35 #[] w fun e w' => e = .returned (.agg #[.int .i64 0, .int .i64 0]) ∧ w.alloc (.cells #[.int .i64 0, .int .i64 0] 30) = w' := by
  go_enter Try.func35, Try.ntmps35
  go_wp2
  refine bodyPost_ret (v := .agg #[.int .i64 0, .int .i64 0]) (by simp [results, Try.results35, go_sem]) rfl ⟨rfl, rfl⟩
theorem tat_nil (i g : Int) (w : World) :
    Calls Try.prog 31 #[.pointer none, .agg #[.int .i64 i, .int .i64 g]] w fun e w' => e = .returned (.tuple #[.agg (gcells .zero), .int .i64 2]) ∧ Below w.heap.size w w' := by
  go_enter Try.func31, Try.ntmps31
  go_wp2
  refine bodyPost_ret (v := .tuple #[.agg (gcells .zero), .int .i64 2]) (by simp [results, Try.results31, go_sem, Pay.zero]) rfl ⟨rfl, ?_⟩
  exact (((Below.refl _ w).alloc (Nat.le_refl _) _).alloc (by simp) _)
theorem below_undrew {B : Nat} {a w : World} (h : Below B a.drew w) : Below B a w := ⟨h.os, h.tape, h.output, h.size, h.block⟩
theorem below_cell {B : Nat} {w w' : World} (h : Below B w w') {b : Nat} (hb : b < B) (o : Nat) : w'.cell? ⟨b, o, none⟩ = w.cell? ⟨b, o, none⟩ := h.cell (p := ⟨b, o, none⟩) hb
theorem far_cell (w : World) (a b i j : Nat) (v : Value) (h : a ≠ b) : (w.setCell ⟨a, i, none⟩ v).cell? ⟨b, j, none⟩ = w.cell? ⟨b, j, none⟩ := World.cell?_setCell_far w _ _ v h
set_option maxRecDepth 100000 in
theorem tat_any (i g : Int) (b : Nat) (w : World) (base t p : Nat) (s : Ps) (h : TrX w base t p s) (ho : s.Ok 32 b) (hb : b ≤ 1000) :
    Calls Try.prog 31 #[.pointer (some ⟨t, 0, none⟩), .agg #[.int .i64 i, .int .i64 g]] w fun e w' => e = .returned (.tuple #[.agg (gcells (s.getV i g)), .int .i64 (s.namE i g)]) ∧ Below w.heap.size w w' := by
  obtain ⟨w1, hw1⟩ : ∃ w1, w1 = ((w.alloc (.cells #[.int .i64 i, .int .i64 g] 30)).alloc (.cells (gcells .zero) 71)) := ⟨_, rfl⟩
  have hb1 : Below w.heap.size w w1 := by rw [hw1]; exact (((Below.refl _ w).alloc (Nat.le_refl _) _).alloc (by simp) _)
  have H1 := Lib.hid (h.behind hb1)
  have HB1 := Lib.hid hb1
  have HO := Lib.hid ho
  have hc : w1.cell? ⟨w.heap.size, 0, none⟩ = some (.int .i64 i) ∧ w1.cell? ⟨w.heap.size, 1, none⟩ = some (.int .i64 g) := by
    rw [hw1]; constructor <;> simp [go_sem]
  have ht := H1.out.cell
  have hf : w1.frozen? ⟨w.heap.size + 1, 0, none⟩ = false ∧ w1.frozen? ⟨w.heap.size + 1, 1, none⟩ = false ∧ w1.frozen? ⟨w.heap.size + 1, 2, none⟩ = false := by
    rw [hw1]; refine ⟨?_, ?_, ?_⟩ <;> simp [go_sem]
  have hd : w1.cell? ⟨w.heap.size + 1, 0, none⟩ = some (.int .i64 0) ∧ w1.cell? ⟨w.heap.size + 1, 1, none⟩ = some (.int .i64 0) ∧ w1.cell? ⟨w.heap.size + 1, 2, none⟩ = some (.int .i64 0) := by
    rw [hw1]; refine ⟨?_, ?_, ?_⟩ <;> simp [go_sem, Pay.zero]
  have htl := h.lt
  have hz1 : w1.heap.size = w.heap.size + 2 := by rw [hw1]; simp
  obtain ⟨hc0, hc1⟩ := hc
  have HW := Lib.hid hw1
  have HZ1 := Lib.hid hz1
  have HB := Lib.hid (fun (w2 : World) (hz2 : Below w1.heap.size w1 w2) => (show (w2.cell? ⟨t, 0, none⟩ = some (.pointer (some ⟨p, 0, none⟩)) ∧ w2.cell? ⟨w.heap.size, 0, none⟩ = some (.int .i64 i) ∧ w2.cell? ⟨w.heap.size, 1, none⟩ = some (.int .i64 g)) ∧
      (w2.cell? ⟨w.heap.size + 1, 0, none⟩ = some (.int .i64 0) ∧ w2.cell? ⟨w.heap.size + 1, 1, none⟩ = some (.int .i64 0) ∧ w2.cell? ⟨w.heap.size + 1, 2, none⟩ = some (.int .i64 0)) ∧
      (w2.frozen? ⟨w.heap.size + 1, 0, none⟩ = false ∧ w2.frozen? ⟨w.heap.size + 1, 1, none⟩ = false ∧ w2.frozen? ⟨w.heap.size + 1, 2, none⟩ = false) from by
    have b0 : t < w1.heap.size := by omega
    have b1 : w.heap.size < w1.heap.size := by omega
    have b2 : w.heap.size + 1 < w1.heap.size := by omega
    have c := (bcell hz2).1
    have f := (bcell hz2).2
    refine ⟨⟨?_, ?_, ?_⟩, ⟨?_, ?_, ?_⟩, ?_, ?_, ?_⟩
    · rw [c _ _ b0]; exact ht
    · rw [c _ _ b1]; exact hc0
    · rw [c _ _ b1]; exact hc1
    · rw [c _ _ b2]; exact hd.1
    · rw [c _ _ b2]; exact hd.2.1
    · rw [c _ _ b2]; exact hd.2.2
    · rw [f _ _ b2]; exact hf.1
    · rw [f _ _ b2]; exact hf.2.1
    · rw [f _ _ b2]; exact hf.2.2))
  have HC := Lib.hid (pl_get i g b w1.drew base p 32 s (H1.out.has.behind (below_drew (Below.refl _ w1))) HO.out hb)
  clear h ho hb1 hz1 hw1 hd hf
  generalize s.getV i g = x at HC ⊢
  generalize s.namE i g = n at HC ⊢
  obtain ⟨x0, x1, x2, x3⟩ := x
  go_enter Try.func31, Try.ntmps31
  go_upto_region 3 with (fail)
  rw [show ((w.alloc (.cells #[.int .i64 i, .int .i64 g] 30)).alloc (.cells #[.int .i64 0, .int .i64 0, .int .i64 0] 71)) = w1 from HW.out.symm]
  obtain ⟨z, hz⟩ : ∃ z, z = w.heap.size := ⟨_, rfl⟩
  obtain ⟨y, hy⟩ : ∃ y, y = w.heap.size + 1 := ⟨_, rfl⟩
  rw [← hy] at HB ⊢
  rw [← hz] at HB hc0 hc1 htl ⊢
  have hyt : ¬ y = t := by omega
  have hyz : ¬ y = z := by omega
  have HY := Lib.hid hy; have HZ := Lib.hid hz
  clear hy hz
  go_region_held3 (fun w' => w'.cell? ⟨t, 0, none⟩ = some (.pointer (some ⟨p, 0, none⟩)) ∧ w'.cell? ⟨z, 0, none⟩ = some (.int .i64 i) ∧ w'.cell? ⟨z, 1, none⟩ = some (.int .i64 g))
    (first | exact ⟨ht, hc0, hc1⟩ | assumption | (refine ⟨?_, ?_, ?_⟩; (rw [far_cell _ _ _ _ _ _ hyt, far_cell _ _ _ _ _ _ hyt, far_cell _ _ _ _ _ _ hyt]; exact hS2.1); (rw [far_cell _ _ _ _ _ _ hyz, far_cell _ _ _ _ _ _ hyz, far_cell _ _ _ _ _ _ hyz]; exact hS2.2.1); (rw [far_cell _ _ _ _ _ _ hyz, far_cell _ _ _ _ _ _ hyz, far_cell _ _ _ _ _ _ hyz]; exact hS2.2.2)))
    (first | (go_at_call 54; refine HC.out.mono ?_; rintro e w2 ⟨rfl, hz2⟩; obtain ⟨hS2, ⟨k0, k1, k2⟩, f0, f1, f2⟩ := HB.out w2 (below_undrew hz2)))
  clear hS2
  go_wp2
  refine bodyPost_ret (v := .tuple #[.agg (gcells ⟨x0, x1, x2, x3⟩), .int .i64 n]) (by simp [results, Try.results31, go_sem, k0, k1, k2]) rfl ⟨rfl, ?_⟩
  exact (((below_trans HB1.out (below_undrew hz2) HB1.out.size).setCell (by rw [HY.out]; simp) _).setCell (by rw [HY.out]; simp) _).setCell (by rw [HY.out]; simp) _
end Go.Proofs.Ytnbljnpfmeidfaa
