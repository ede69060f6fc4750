/- Steps of a pool, as the laws use them. No conditions beyond those in each statement. -/
import Derived.Test.YtnbljnpfmeidfaaPoolQ
namespace Go.Proofs.Ytnbljnpfmeidfaa
open Go Go.RowKit Go.ChangeShapes Go.WideShapes
set_option linter.unusedVariables false

theorem free_step (i g : Int) (k : Nat) (q : Pl) (w : World) (base p b cap n : Nat) (room many free : Int) (l : List Pl) (h : HasPool w base p (.slice (some ⟨b, 0, none⟩) n cap) room many free l) (hl : l.length ≤ 4096) (hn : Names l i g k q)
    (hg : 0 ≤ q.gen ∧ q.gen ≤ 1000000) (hm : -1000000 ≤ many ∧ many ≤ 4096) (hb : base ≤ w.heap.size) :
    Calls Try.prog 40 #[.pointer (some ⟨p, 0, none⟩), .agg #[.int .i64 i, .int .i64 g]] w fun e w' => e = .returned (.tuple #[.agg (gcells q.x), .int .i64 0]) ∧ HasPool w' base p (.slice (some ⟨b, 0, none⟩) n cap) room (many - 1) k (l.set k ⟨.zero, q.gen + 1, false, free⟩) ∧ PoolStep base p w w' := by
  obtain rfl := h.len
  exact (free_hit i g k q w base p b cap room many free l h hl hn hg hm).mono fun e w' ⟨he, h1, h2⟩ => ⟨he, h1, h.step hb h2⟩
theorem put_again (x : Pay) (k : Nat) (q : Pl) (w : World) (base p b cap n : Nat) (room many : Int) (l : List Pl) (h : HasPool w base p (.slice (some ⟨b, 0, none⟩) n cap) room many k l) (hl : l.length ≤ 4096) (hq : l[k]? = some q) (hm : -1000000 ≤ many ∧ many ≤ 4096) (hr : many < room) (hb : base ≤ w.heap.size) :
    Calls Try.prog 39 #[.pointer (some ⟨p, 0, none⟩), .agg (gcells x)] w fun e w' => e = .returned (.tuple #[.agg #[.int .i64 k, .int .i64 q.gen], .int .i64 0]) ∧
      HasPool w' base p (.slice (some ⟨b, 0, none⟩) n cap) room (many + 1) q.next (l.set k ⟨x, q.gen, true, -1⟩) ∧ PoolStep base p w w' := by
  obtain rfl := h.len
  exact (put_reuse x k q w base p b cap room many l h hl hq hm hr).mono fun e w' ⟨he, h1, h2⟩ => ⟨he, h1, h.step hb h2⟩
theorem set_step (i g : Int) (x : Pay) (k : Nat) (q : Pl) (w : World) (base p b cap n : Nat) (room many free : Int) (l : List Pl) (h : HasPool w base p (.slice (some ⟨b, 0, none⟩) n cap) room many free l) (hl : l.length ≤ 4096) (hn : Names l i g k q) (hb : base ≤ w.heap.size) :
    Calls Try.prog 37 #[.pointer (some ⟨p, 0, none⟩), .agg #[.int .i64 i, .int .i64 g], .agg (gcells x)] w fun e w' => e = .returned (.int .i64 0) ∧ HasPool w' base p (.slice (some ⟨b, 0, none⟩) n cap) room many free (l.set k ⟨x, q.gen, q.used, q.next⟩) ∧ PoolStep base p w w' := by
  obtain rfl := h.len
  exact (set_hit i g x k q w base p b cap room many free l h hl hn).mono fun e w' ⟨he, h1, h2⟩ => ⟨he, h1, h.step hb ⟨h2.os, h2.tape, h2.output, h2.size, fun j hj hf => h2.block j hj (fun e => hf (.inl e))⟩⟩
theorem get_step (i g : Int) (k : Nat) (q : Pl) (w : World) (base p b cap n : Nat) (room many free : Int) (l : List Pl) (h : HasPool w base p (.slice (some ⟨b, 0, none⟩) n cap) room many free l) (hl : l.length ≤ 4096) (hn : Names l i g k q) :
    Calls Try.prog 54 #[.pointer (some ⟨p, 0, none⟩), .agg #[.int .i64 i, .int .i64 g]] w fun e w' => e = .returned (.tuple #[.agg (gcells q.x), .int .i64 0]) ∧ Below w.heap.size w w' := by
  obtain rfl := h.len
  exact get_hit i g k q w base p b cap room many free l h hl hn
/-- a pool behind calls that make memory alone -/
theorem HasPool.behind {w w' : World} {base p : Nat} {v : Value} {room many free : Int} {l : List Pl} (h : HasPool w base p v room many free l) (hb : Below w.heap.size w w') : HasPool w' base p v room many free l :=
  h.kept (hb.block p h.lt) (fun g hg => hb.block g (h.own.lt g hg).2)
/-- a handle in a box -/
def Box (w : World) (k : Nat) (i g : Int) : Prop := w.heap[k]? = some (.cells #[.int .i64 i, .int .i64 g] 30 (0, 0))
theorem Box.new (w : World) (i g : Int) : Box (w.alloc (.cells #[.int .i64 i, .int .i64 g] 30)) w.heap.size i g := heap_alloc_new w _
theorem Box.cells {w : World} {k : Nat} {i g : Int} (h : Box w k i g) : w.cell? ⟨k, 0, none⟩ = some (.int .i64 i) ∧ w.cell? ⟨k, 1, none⟩ = some (.int .i64 g) := by
  unfold Box at h
  constructor <;> simp [World.cell?, h]
theorem Box.lt {w : World} {k : Nat} {i g : Int} (h : Box w k i g) : k < w.heap.size := (Array.getElem?_eq_some_iff.1 h).1
theorem Box.step {w w' : World} {base p k : Nat} {i g : Int} (h : Box w k i g) (hs : PoolStep base p w w') (hp : k ≠ p) : Box w' k i g := hs.same h hp (by decide)
theorem Box.alloc {w : World} {k : Nat} {i g : Int} (h : Box w k i g) (o : Obj) : Box (w.alloc o) k i g := by
  unfold Box; rw [Below.heap_alloc w o k h.lt]; exact h
theorem Box.below {w w' : World} {k : Nat} {i g : Int} (h : Box w k i g) (hb : Below w.heap.size w w') : Box w' k i g := by
  unfold Box; rw [hb.block k h.lt]; exact h

/-- a row of other elements is as it was behind a step of a pool -/
theorem ownsRow_step {w w' : World} {base base2 p : Nat} {e : TypeId} {size : Nat} {v : Value} {n : Nat} {xs : List Value} (h : w.ownsRow base e size v n xs) (hs : PoolStep base2 p w w') (he : e ≠ 104)
    (hp : ∀ cs fr, w.heap[p]? ≠ some (.cells cs e fr)) : w'.ownsRow base e size v n xs := by
  refine ⟨h.1, ?_⟩
  rcases h.2 with hn | ⟨g, cap, cur, hv, hb, hh, hr⟩
  · exact .inl hn
  · exact .inr ⟨g, cap, cur, hv, hb, hs.same hh (by rintro rfl; exact hp _ _ hh) he, hr⟩
theorem ownsRow_below {w w' : World} {base : Nat} {e : TypeId} {size : Nat} {v : Value} {n : Nat} {xs : List Value} (h : w.ownsRow base e size v n xs) (hb : Below w.heap.size w w') : w'.ownsRow base e size v n xs := by
  refine ⟨h.1, ?_⟩
  rcases h.2 with hn | ⟨g, cap, cur, hv, hb', hh, hr⟩
  · exact .inl hn
  · exact .inr ⟨g, cap, cur, hv, hb', by rw [hb.block g (Array.getElem?_eq_some_iff.1 hh).1]; exact hh, hr⟩
theorem HasPool.notRow {w : World} {base p : Nat} {v : Value} {room many free : Int} {l : List Pl} (h : HasPool w base p v room many free l) (e : TypeId) (he : e ≠ 107) : ∀ cs fr, w.heap[p]? ≠ some (.cells cs e fr) := by
  intro cs fr hh
  rw [h.blk] at hh
  simp only [Option.some.injEq, Obj.cells.injEq] at hh
  exact he hh.2.1.symm
/-- a pool is as it was where a row of other elements has grown -/
theorem HasPool.rowGrown {w w' : World} {base p : Nat} {v : Value} {room many free : Int} {l : List Pl} (h : HasPool w base p v room many free l) {vr : Value} (hg : w.grownBy w' vr.ownBlock) {base2 : Nat} {e : TypeId} {size n : Nat} {xs : List Value} (hr : w.ownsRow base2 e size vr n xs)
    (he : e ≠ 107) (he2 : e ≠ 104) : HasPool w' base p v room many free l := by
  have hno : ∀ (k : Nat) (cs : Array Value) (t : TypeId) (fr : Nat × Nat), w.heap[k]? = some (.cells cs t fr) → t ≠ e → w'.heap[k]? = w.heap[k]? := by
    intro k cs t fr hk ht
    refine hg.block k (Array.getElem?_eq_some_iff.1 hk).1 (fun e' => ?_)
    rcases hr.2 with ⟨rfl, _⟩ | ⟨g, cap, cur, rfl, _, hh, _⟩
    · simp [Value.ownBlock] at e'
    · simp [Value.ownBlock] at e'
      subst e'
      rw [hk] at hh
      simp only [Option.some.injEq, Obj.cells.injEq] at hh
      exact ht hh.2.1
  refine h.kept (hno p _ _ _ h.blk (fun e' => he e'.symm)) (fun g hgv => ?_)
  rcases h.own.2 with ⟨rfl, _⟩ | ⟨g', cap, cur, rfl, _, hh, _⟩
  · simp [Value.ownBlock] at hgv
  · simp [Value.ownBlock] at hgv
    subst hgv
    exact hno _ _ _ _ hh (fun e' => he2 e'.symm)
end Go.Proofs.Ytnbljnpfmeidfaa
