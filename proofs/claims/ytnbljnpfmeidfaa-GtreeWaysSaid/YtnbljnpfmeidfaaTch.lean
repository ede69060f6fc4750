/- Frames: all but some old blocks are as they were. No conditions beyond those in each statement. -/
import Derived.Test.YtnbljnpfmeidfaaUtil
namespace Go.Proofs.Ytnbljnpfmeidfaa
open Go Go.RowKit

/-- all but some old blocks are as they were -/
structure Tch (F : Nat → Prop) (w w' : World) : Prop where
  os : w'.os = w.os
  tape : w'.tape = w.tape
  output : w'.output = w.output
  size : w.heap.size ≤ w'.heap.size
  block : ∀ k, k < w.heap.size → ¬ F k → w'.heap[k]? = w.heap[k]?
theorem Tch.of_below {F : Nat → Prop} {w w' : World} (h : Below w.heap.size w w') : Tch F w w' := ⟨h.os, h.tape, h.output, h.size, fun k hk _ => h.block k hk⟩
theorem Tch.below {F : Nat → Prop} {w w' : World} {B : Nat} (h : Tch F w w') (hB : B ≤ w.heap.size) (hF : ∀ k, F k → B ≤ k) : Below B w w' :=
  ⟨h.os, h.tape, h.output, h.size, fun k hk => h.block k (by omega) (fun hf => by have := hF k hf; omega)⟩
theorem Tch.refl (F : Nat → Prop) (w : World) : Tch F w w := ⟨rfl, rfl, rfl, Nat.le_refl _, fun _ _ _ => rfl⟩
theorem Tch.alloc {F : Nat → Prop} {a w : World} (h : Tch F a w) (o : Obj) : Tch F a (w.alloc o) :=
  ⟨h.os, h.tape, h.output, Nat.le_trans h.size (by simp), fun k hk hf => by rw [Below.heap_alloc w o k (Nat.lt_of_lt_of_le hk h.size)]; exact h.block k hk hf⟩
theorem Tch.drewN {F : Nat → Prop} {a w : World} (h : Tch F a w) (n : Nat) : Tch F a (w.drewN n) := ⟨h.os, h.tape, h.output, h.size, h.block⟩
theorem Tch.drew {F : Nat → Prop} {a w : World} (h : Tch F a w) : Tch F a w.drew := ⟨h.os, h.tape, h.output, h.size, h.block⟩
theorem Tch.setCell {F : Nat → Prop} {a w : World} (h : Tch F a w) {p : Addr} (hp : F p.block ∨ a.heap.size ≤ p.block) (u : Value) : Tch F a (w.setCell p u) :=
  ⟨h.os, h.tape, h.output, by simpa [World.setCell] using h.size, fun k hk hf => by
    rw [Below.heap_setCell w p u k (by rintro rfl; rcases hp with hp | hp; exact hf hp; omega)]; exact h.block k hk hf⟩
theorem Tch.grown {F : Nat → Prop} {a w w' : World} {row : Option Nat} (h : Tch F a w) (hg : w.grownBy w' row) (hr : ∀ k, row = some k → F k ∨ a.heap.size ≤ k) : Tch F a w' :=
  ⟨hg.os.trans h.os, hg.tape.trans h.tape, hg.output.trans h.output, Nat.le_trans h.size hg.size, fun k hk hf => by
    rw [hg.block k (Nat.lt_of_lt_of_le hk h.size) (by intro e; rcases hr k e.symm with h1 | h1; exact hf h1; omega)]; exact h.block k hk hf⟩
theorem Tch.trans {F G : Nat → Prop} {a b c : World} (h : Tch F a b) (k : Tch G b c) (hG : ∀ x, G x → F x ∨ a.heap.size ≤ x) : Tch F a c :=
  ⟨k.os.trans h.os, k.tape.trans h.tape, k.output.trans h.output, Nat.le_trans h.size k.size, fun x hx hf => by
    rw [k.block x (Nat.lt_of_lt_of_le hx h.size) (by intro e; rcases hG x e with h1 | h1; exact hf h1; omega)]; exact h.block x hx hf⟩
theorem heap_set_same {w : World} {b i : Nat} {cs : Array Value} {t : TypeId} {z : Nat × Nat} {u : Value} (h : w.heap[b]? = some (.cells cs t z)) : (w.setCell ⟨b, i, none⟩ u).heap[b]? = some (.cells (cs.setIfInBounds i u) t z) := by
  obtain ⟨hb, hc⟩ := Array.getElem?_eq_some_iff.1 h
  simp only [World.setCell]
  rw [Array.getElem?_modify]
  simp [hb, hc]
end Go.Proofs.Ytnbljnpfmeidfaa
