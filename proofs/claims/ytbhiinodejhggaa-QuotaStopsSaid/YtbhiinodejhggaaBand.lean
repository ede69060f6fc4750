/- A band in memory: its block, as the walks see it. No conditions beyond those in each statement. -/
import Derived.Test.YtbhiinodejhggaaChecked
import Derived.Test.YtbhiinodejhggaaUtil
import Derived.Test.YtbhiinodejhggaaTch
import Derived.Laws.CopyRow
namespace Go.Proofs.Ytbhiinodejhggaa
open Go Go.RowKit Go.ChangeShapes Go.WideShapes
set_option linter.unusedVariables false

/-- a band: its quota, its slice, what no P has, what was taken, what each P has -/
structure Bd where
  q : Int
  s : Int
  pool : Int
  spent : Int
  l : List Int
def Bd.cells (p : Nat) (b : Bd) : List Value := [.int .i64 b.q, .int .i64 b.s, .int .i64 b.pool, .int .i64 b.spent] ++ (b.l.map (Value.int .i64) ++ (List.replicate (64 - b.l.length) (.int .i64 0) ++ [.slice (some ⟨p, 4, none⟩) b.l.length 64]))
structure HasBand (w : World) (p : Nat) (b : Bd) : Prop where
  blk : w.heap[p]? = some (.cells (b.cells p).toArray 66 (0, 0))
  lo : 1 ≤ b.l.length
  hi : b.l.length ≤ 64
theorem Bd.cells_length (p : Nat) (b : Bd) (h : b.l.length ≤ 64) : (b.cells p).length = 69 := by simp [Bd.cells]; omega
theorem Bd.cells_loc (p : Nat) (b : Bd) (k : Nat) (h : k < b.l.length) : (b.cells p)[4 + k]? = some (.int .i64 b.l[k]) := by
  unfold Bd.cells
  rw [List.getElem?_append_right (by simp), List.getElem?_append_left (by simp <;> omega)]
  simp [h]
theorem Bd.cells_slice (p : Nat) (b : Bd) (h : b.l.length ≤ 64) : (b.cells p)[68]? = some (.slice (some ⟨p, 4, none⟩) b.l.length 64) := by
  unfold Bd.cells
  rw [List.getElem?_append_right (by simp), List.getElem?_append_right (by simp <;> omega), List.getElem?_append_right (by simp <;> omega)]
  have e : 68 - [Value.int .i64 b.q, .int .i64 b.s, .int .i64 b.pool, .int .i64 b.spent].length - (b.l.map (Value.int .i64)).length - (List.replicate (64 - b.l.length) (Value.int .i64 0)).length = 0 := by simp <;> omega
  rw [e]; rfl
theorem Bd.cells_set (p : Nat) (b : Bd) (k : Nat) (n : Int) (h : k < b.l.length) : (b.cells p).set (4 + k) (.int .i64 n) = ({ b with l := b.l.set k n } : Bd).cells p := by
  unfold Bd.cells
  rw [List.set_append_right _ _ (by simp), List.set_append_left _ _ (by simp <;> omega)]
  simp
theorem HasBand.lt {w : World} {p : Nat} {b : Bd} (h : HasBand w p b) : p < w.heap.size := (Array.getElem?_eq_some_iff.1 h.blk).1
theorem HasBand.cell {w : World} {p : Nat} {b : Bd} (h : HasBand w p b) :
    w.cell? ⟨p, 0, none⟩ = some (.int .i64 b.q) ∧ w.cell? ⟨p, 1, none⟩ = some (.int .i64 b.s) ∧ w.cell? ⟨p, 2, none⟩ = some (.int .i64 b.pool) ∧ w.cell? ⟨p, 3, none⟩ = some (.int .i64 b.spent) ∧ w.cell? ⟨p, 68, none⟩ = some (.slice (some ⟨p, 4, none⟩) b.l.length 64) := by
  have hb := h.blk
  have h5 := Bd.cells_slice p b h.hi
  refine ⟨?_, ?_, ?_, ?_, ?_⟩
  · simp [World.cell?, hb, Bd.cells]
  · simp [World.cell?, hb, Bd.cells]
  · simp [World.cell?, hb, Bd.cells]
  · simp [World.cell?, hb, Bd.cells]
  · simp only [World.cell?, hb, List.getElem?_toArray, h5]; rfl
theorem HasBand.loc {w : World} {p : Nat} {b : Bd} (h : HasBand w p b) (k : Nat) (hk : k < b.l.length) : w.cell? ⟨p, 4 + k, none⟩ = some (.int .i64 b.l[k]) := by
  have hb := h.blk
  simp only [World.cell?, hb, List.getElem?_toArray, Bd.cells_loc p b k hk]; rfl
theorem HasBand.free {w : World} {p : Nat} {b : Bd} (h : HasBand w p b) (i : Nat) : w.frozen? ⟨p, i, none⟩ = false := by
  have hb := h.blk
  simp [World.frozen?, hb]
theorem HasBand.q_ {w : World} {p : Nat} {b : Bd} (h : HasBand w p b) (n : Int) : HasBand (w.setCell ⟨p, 0, none⟩ (.int .i64 n)) p { b with q := n } := ⟨by rw [heap_set_same h.blk]; rfl, h.lo, h.hi⟩
theorem HasBand.s_ {w : World} {p : Nat} {b : Bd} (h : HasBand w p b) (n : Int) : HasBand (w.setCell ⟨p, 1, none⟩ (.int .i64 n)) p { b with s := n } := ⟨by rw [heap_set_same h.blk]; rfl, h.lo, h.hi⟩
theorem HasBand.pool_ {w : World} {p : Nat} {b : Bd} (h : HasBand w p b) (n : Int) : HasBand (w.setCell ⟨p, 2, none⟩ (.int .i64 n)) p { b with pool := n } := ⟨by rw [heap_set_same h.blk]; rfl, h.lo, h.hi⟩
theorem HasBand.spent_ {w : World} {p : Nat} {b : Bd} (h : HasBand w p b) (n : Int) : HasBand (w.setCell ⟨p, 3, none⟩ (.int .i64 n)) p { b with spent := n } := ⟨by rw [heap_set_same h.blk]; rfl, h.lo, h.hi⟩
theorem HasBand.loc_ {w : World} {p : Nat} {b : Bd} (h : HasBand w p b) (k : Nat) (hk : k < b.l.length) (n : Int) : HasBand (w.setCell ⟨p, 4 + k, none⟩ (.int .i64 n)) p { b with l := b.l.set k n } :=
  ⟨by rw [heap_set_same h.blk, List.setIfInBounds_toArray, Bd.cells_set p b k n hk], by simpa using h.lo, by simpa using h.hi⟩
theorem HasBand.alloc {w : World} {p : Nat} {b : Bd} (h : HasBand w p b) (o : Obj) : HasBand (w.alloc o) p b := ⟨by rw [Below.heap_alloc w o p h.lt]; exact h.blk, h.lo, h.hi⟩
theorem HasBand.drewN {w : World} {p : Nat} {b : Bd} (h : HasBand w p b) (n : Nat) : HasBand (w.drewN n) p b := ⟨h.blk, h.lo, h.hi⟩
theorem HasBand.kept {w w' : World} {p : Nat} {b : Bd} (h : HasBand w p b) (hp : w'.heap[p]? = w.heap[p]?) : HasBand w' p b := ⟨by rw [hp]; exact h.blk, h.lo, h.hi⟩
theorem HasBand.behind {w w' : World} {p : Nat} {b : Bd} (h : HasBand w p b) (hb : Below w.heap.size w w') : HasBand w' p b := h.kept (hb.block p h.lt)
/-- what clear leaves -/
theorem HasBand.cleared {w : World} {p : Nat} {b : Bd} (h : HasBand w p b) (n : Nat) (hn : n = b.l.length) :
    HasBand (w.setRow p (((b.cells p).toArray.toList.take 4 ++ List.replicate n (Value.int .i64 0) ++ (b.cells p).toArray.toList.drop (4 + n)).toArray)) p { b with l := List.replicate n 0 } := by
  subst hn
  have e : ((b.cells p).toArray.toList.take 4 ++ List.replicate b.l.length (Value.int .i64 0) ++ (b.cells p).toArray.toList.drop (4 + b.l.length)) = ({ b with l := List.replicate b.l.length 0 } : Bd).cells p := by
    unfold Bd.cells
    have e4 : ∀ (a b c d : Value) (x y : List Value), List.drop (4 + x.length) ([a, b, c, d] ++ (x ++ y)) = y := by intro a b c d x y; rw [Nat.add_comm, show x.length + 4 = ([a, b, c, d] ++ x).length by simp, ← List.append_assoc, List.drop_left]
    have e5 := e4 (.int .i64 b.q) (.int .i64 b.s) (.int .i64 b.pool) (.int .i64 b.spent) (b.l.map (Value.int .i64)) (List.replicate (64 - b.l.length) (Value.int .i64 0) ++ [Value.slice (some { block := p, off := 4 }) b.l.length 64])
    rw [List.length_map] at e5
    rw [e5]
    simp
  refine ⟨?_, by simpa using h.lo, by simpa using h.hi⟩
  rw [e]
  exact setRow_heap w p _ _ _ _ h.blk
end Go.Proofs.Ytbhiinodejhggaa
