/- Steps of a pool, as the laws use them; and the package's own small test, awake. No conditions beyond those in each statement. -/
import Derived.Test.YtdkfdpiikhgfiaaPoolQ
namespace Go.Proofs.Ytdkfdpiikhgfiaa
open Go Go.RowKit Go.ChangeShapes Go.WideShapes
set_option linter.unusedVariables false

theorem free_step (i g : Int) (k : Nat) (q : Pl) (w : World) (base p b cap n : Nat) (room many free : Int) (l : List Pl) (h : HasPool w base p (.slice (some ⟨b, 0, none⟩) n cap) room many free l) (hl : l.length ≤ 4096) (hn : Names l i g k q)
    (hg : 0 ≤ q.gen ∧ q.gen ≤ 1000000) (hm : -1000000 ≤ many ∧ many ≤ 4096) (hb : base ≤ w.heap.size) :
    Calls Try.prog 12 #[.pointer (some ⟨p, 0, none⟩), .agg #[.int .i64 i, .int .i64 g]] w fun e w' => e = .returned (.tuple #[.int .i64 q.x, .int .i64 0]) ∧ HasPool w' base p (.slice (some ⟨b, 0, none⟩) n cap) room (many - 1) k (l.set k ⟨0, q.gen + 1, false, free⟩) ∧ PoolStep base p w w' := by
  obtain rfl := h.len
  exact (free_hit i g k q w base p b cap room many free l h hl hn hg hm).mono fun e w' ⟨he, h1, h2⟩ => ⟨he, h1, h.step hb h2⟩
theorem put_again (x : Int) (k : Nat) (q : Pl) (w : World) (base p b cap n : Nat) (room many : Int) (l : List Pl) (h : HasPool w base p (.slice (some ⟨b, 0, none⟩) n cap) room many k l) (hl : l.length ≤ 4096) (hq : l[k]? = some q) (hm : -1000000 ≤ many ∧ many ≤ 4096) (hr : many < room) (hb : base ≤ w.heap.size) :
    Calls Try.prog 11 #[.pointer (some ⟨p, 0, none⟩), .int .i64 x] w fun e w' => e = .returned (.tuple #[.agg #[.int .i64 k, .int .i64 q.gen], .int .i64 0]) ∧
      HasPool w' base p (.slice (some ⟨b, 0, none⟩) n cap) room (many + 1) q.next (l.set k ⟨x, q.gen, true, -1⟩) ∧ PoolStep base p w w' := by
  obtain rfl := h.len
  exact (put_reuse x k q w base p b cap room many l h hl hq hm hr).mono fun e w' ⟨he, h1, h2⟩ => ⟨he, h1, h.step hb h2⟩
theorem set_step (i g x : Int) (k : Nat) (q : Pl) (w : World) (base p b cap n : Nat) (room many free : Int) (l : List Pl) (h : HasPool w base p (.slice (some ⟨b, 0, none⟩) n cap) room many free l) (hl : l.length ≤ 4096) (hn : Names l i g k q) (hb : base ≤ w.heap.size) :
    Calls Try.prog 15 #[.pointer (some ⟨p, 0, none⟩), .agg #[.int .i64 i, .int .i64 g], .int .i64 x] w fun e w' => e = .returned (.int .i64 0) ∧ HasPool w' base p (.slice (some ⟨b, 0, none⟩) n cap) room many free (l.set k { q with x := x }) ∧ PoolStep base p w w' := by
  obtain rfl := h.len
  exact (set_hit i g x k q w base p b cap room many free l h hl hn).mono fun e w' ⟨he, h1, h2⟩ => ⟨he, h1, h.step hb ⟨h2.os, h2.tape, h2.output, h2.size, fun j hj hf => h2.block j hj (fun e => hf (.inl e))⟩⟩
theorem get_step (i g : Int) (k : Nat) (q : Pl) (w : World) (base p b cap n : Nat) (room many free : Int) (l : List Pl) (h : HasPool w base p (.slice (some ⟨b, 0, none⟩) n cap) room many free l) (hl : l.length ≤ 4096) (hn : Names l i g k q) :
    Calls Try.prog 13 #[.pointer (some ⟨p, 0, none⟩), .agg #[.int .i64 i, .int .i64 g]] w fun e w' => e = .returned (.tuple #[.int .i64 q.x, .int .i64 0]) ∧ Below w.heap.size w w' := by
  obtain rfl := h.len
  exact get_hit i g k q w base p b cap room many free l h hl hn
/-- a pool behind calls that make memory alone -/
theorem HasPool.behind {w w' : World} {base p : Nat} {v : Value} {room many free : Int} {l : List Pl} (h : HasPool w base p v room many free l) (hb : Below w.heap.size w w') : HasPool w' base p v room many free l :=
  h.kept (hb.block p h.lt) (fun g hg => hb.block g (h.own.lt g hg).2)
/-- a handle in a box -/
def Box (w : World) (k : Nat) (i g : Int) : Prop := w.heap[k]? = some (.cells #[.int .i64 i, .int .i64 g] 31 (0, 0))
theorem Box.new (w : World) (i g : Int) : Box (w.alloc (.cells #[.int .i64 i, .int .i64 g] 31)) w.heap.size i g := heap_alloc_new w _
theorem Box.cells {w : World} {k : Nat} {i g : Int} (h : Box w k i g) : w.cell? ⟨k, 0, none⟩ = some (.int .i64 i) ∧ w.cell? ⟨k, 1, none⟩ = some (.int .i64 g) := by
  unfold Box at h
  constructor <;> simp [World.cell?, h]
theorem Box.lt {w : World} {k : Nat} {i g : Int} (h : Box w k i g) : k < w.heap.size := (Array.getElem?_eq_some_iff.1 h).1
theorem Box.step {w w' : World} {base p k : Nat} {i g : Int} (h : Box w k i g) (hs : PoolStep base p w w') (hp : k ≠ p) : Box w' k i g := hs.same h hp (by decide)
theorem Box.alloc {w : World} {k : Nat} {i g : Int} (h : Box w k i g) (o : Obj) : Box (w.alloc o) k i g := by
  unfold Box; rw [Below.heap_alloc w o k h.lt]; exact h
theorem Box.below {w w' : World} {k : Nat} {i g : Int} (h : Box w k i g) (hb : Below w.heap.size w w') : Box w' k i g := by
  unfold Box; rw [hb.block k h.lt]; exact h

theorem names_0 (q : Pl) (g : Int) (hu : q.used = true) (hg : q.gen = g) : Names [q] 0 g 0 q := ⟨rfl, rfl, hu, hg⟩
set_option maxHeartbeats 1000000 in
theorem awake (w : World) : Calls Try.prog 9 #[] w fun e w' => e = .returned (.bool true) ∧ Below w.heap.size w w' := by
  go_enter Try.func9, Try.ntmps9
  go_wp2_with fail
  refine (new_yes 1 _ (by omega)).mono ?_
  rintro e w1 ⟨rfl, rfl⟩
  have hp0 := HasPool.made w 1 w.heap.size (Nat.le_refl _)
  have hb0 : Below w.heap.size w (w.alloc (.cells #[.int .i64 1, .int .i64 0, .slice none 0 0, .int .i64 (-1)] 64)) := (Below.refl _ _).alloc (Nat.le_refl _) _
  have HP := Lib.hid hp0; clear hp0
  go_wp2_with fail
  refine (put_grow 5 _ _ _ _ _ _ _ HP.out (by simp) (by omega) (by omega) (by simp)).mono ?_
  rintro e w2 ⟨rfl, g, cap, hp2, hs2⟩
  have hz2 := hs2.tch.size
  simp at hz2
  have HP2 := Lib.hid hp2; have HB2 := Lib.hid (hb0.trans hs2.below); clear hp2 hs2 hb0
  go_wp2_with fail
  refine (free_step 0 0 0 ⟨5, 0, true, -1⟩ _ _ _ _ _ _ _ _ _ _ (HP2.out.alloc _) (by simp) (names_0 _ _ rfl rfl) (by simp) (by omega) (by simp; omega)).mono ?_
  rintro e w3 ⟨rfl, hp3, hs3⟩
  have hx3 := (Box.new w2 0 0).step hs3 (by omega)
  have hb3 := (HB2.out.alloc (by omega) (.cells #[.int .i64 0, .int .i64 0] 31)).trans hs3.below
  have hz3 := hs3.tch.size
  simp at hz3
  have HP3 := Lib.hid hp3; have HB3 := Lib.hid hb3; have HX3 := Lib.hid hx3; clear hp3 hs3 hb3 hx3
  go_wp2_with fail
  refine (put_again 6 0 ⟨0, 1, false, -1⟩ _ _ _ _ _ _ _ _ _ HP3.out (by simp) rfl (by omega) (by omega) (by omega)).mono ?_
  rintro e w4 ⟨rfl, hp4, hs4⟩
  have hz4 := hs4.tch.size
  have hx4 := (HX3.out.step hs4 (by omega)).alloc (.cells #[.int .i64 0, .int .i64 1] 31)
  obtain ⟨x0, x1⟩ := hx4.cells
  have hb4 := (HB3.out.trans hs4.below).alloc (by omega) (.cells #[.int .i64 0, .int .i64 1] 31)
  have HP4 := Lib.hid hp4; have HB4 := Lib.hid hb4; clear hp4 hs4 hb4 hx4
  go_wp2_with fail
  refine (get_miss 0 0 _ _ _ _ _ _ _ _ (HP4.out.alloc _) (by simp) ?hmiss).mono ?_
  case hmiss =>
    rintro k q ⟨h1, h2, h3, h4⟩
    have hk : k = 0 := by omega
    subst hk
    simp at h2
    subst h2
    simp at h4
  rintro e w5 ⟨rfl, h5⟩
  have hx5 := (Box.new w4 0 1).below h5
  obtain ⟨y0, y1⟩ := hx5.cells
  have HP5 := Lib.hid ((HP4.out.alloc _).behind h5); have HB5 := Lib.hid (HB4.out.trans (below_le h5 (by simp; omega)))
  clear h5 hx5 x0 x1
  go_wp2_with fail
  refine (len_any _ _ _ _ _ _ _ _ HP5.out).mono ?_
  rintro e w6 ⟨rfl, rfl⟩
  go_wp2
  go_ret
  exact ⟨rfl, HB5.out⟩
end Go.Proofs.Ytdkfdpiikhgfiaa
