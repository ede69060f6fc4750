/- A pool in memory: its struct, and the row of its places, as the walks see them. No conditions beyond those in each statement. -/
import Derived.Test.YtnbljnpfmeidfaaChecked
import Derived.Test.YtnbljnpfmeidfaaUtil
import Derived.Test.YtnbljnpfmeidfaaTch
namespace Go.Proofs.Ytnbljnpfmeidfaa
open Go Go.RowKit Go.ChangeShapes Go.WideShapes
set_option linter.unusedVariables false

/-- a row is as it was behind a store into another block -/
theorem ownsRow_other {w : World} {base : Nat} {e : TypeId} {size : Nat} {v : Value} {n : Nat} {xs : List Value} {b : Nat} {o : Nat} {u : Value} (h : w.ownsRow base e size v n xs) (hne : v.ownBlock ≠ some b) : (w.setCell ⟨b, o, none⟩ u).ownsRow base e size v n xs := by
  refine ⟨h.1, ?_⟩
  rcases h.2 with hn | ⟨g, cap, cur, hv, hb, hh, hr⟩
  · exact .inl hn
  · refine .inr ⟨g, cap, cur, hv, hb, ?_, hr⟩
    rw [Below.heap_setCell _ _ _ _ (by rintro rfl; exact hne (by rw [hv]; rfl))]; exact hh
/-- what a place has: within which group it is, how deep; and the document's word for it, which lies in no cell of the program's -/
structure Pay where
  x : Int
  ui : Int
  ug : Int
  dp : Int
def Pay.zero : Pay := ⟨0, 0, 0, 0⟩
abbrev gcells (x : Pay) : Array Value := #[.int .i64 x.ui, .int .i64 x.ug, .int .i64 x.dp]
/-- one place: what it has, how often it was freed, whether it is used, which one was freed ahead of it -/
structure Pl where
  x : Pay
  gen : Int
  used : Bool
  next : Int
def Pl.cells (s : Pl) : List Value := [.int .i64 s.x.ui, .int .i64 s.x.ug, .int .i64 s.x.dp, .int .i64 s.gen, .bool s.used, .int .i64 s.next]
theorem Pl.cells_length (s : Pl) : s.cells.length = 6 := rfl
def plc (l : List Pl) : List Value := l.flatMap Pl.cells
/-- the cells of a row whose i-th place has the cells c -/
def plE (l : List Pl) (i : Nat) (c : List Value) : List Value := plc (l.take i) ++ c ++ plc (l.drop (i + 1))
theorem plc_length (l : List Pl) : (plc l).length = l.length * 6 := by
  induction l with
  | nil => rfl
  | cons a r ih =>
    have e : plc (a :: r) = a.cells ++ plc r := by simp [plc]
    rw [e, List.length_append, Pl.cells_length, ih, List.length_cons]; omega
theorem plc_append (a b : List Pl) : plc (a ++ b) = plc a ++ plc b := by simp [plc]
theorem plE_self (l : List Pl) (i : Nat) (h : i < l.length) : plE l i (l[i].cells) = plc l := by
  have e : l = l.take i ++ [l[i]] ++ l.drop (i + 1) := by simp
  have h2 : plc l = plc (l.take i ++ [l[i]] ++ l.drop (i + 1)) := congrArg plc e
  rw [h2, plc_append, plc_append]
  simp [plE, plc]
theorem plE_set (l : List Pl) (i : Nat) (q : Pl) (h : i < l.length) : plE l i q.cells = plc (l.set i q) := by
  rw [List.set_eq_take_append_cons_drop, if_pos h, plc_append]
  simp [plE, plc]
theorem plE_store (l : List Pl) (i : Nat) (c : List Value) (j : Nat) (u : Value) (h : i < l.length) (hj : j < c.length) : (plE l i c).set (i * 6 + j) u = plE l i (c.set j u) := by
  have hl : (plc (l.take i)).length = i * 6 := by rw [plc_length, List.length_take, Nat.min_eq_left (by omega)]
  unfold plE
  rw [List.append_assoc, List.set_append_right _ _ (by omega), hl, Nat.add_sub_cancel_left, List.set_append_left _ _ hj, ← List.append_assoc]
theorem plE_get (l : List Pl) (i : Nat) (c : List Value) (j : Nat) (h : i < l.length) (hj : j < c.length) : (plE l i c)[i * 6 + j]? = c[j]? := by
  have hl : (plc (l.take i)).length = i * 6 := by rw [plc_length, List.length_take, Nat.min_eq_left (by omega)]
  unfold plE
  rw [List.append_assoc, List.getElem?_append_right (by omega), hl, Nat.add_sub_cancel_left, List.getElem?_append_left hj]
theorem plc_get (l : List Pl) (i j : Nat) (h : i < l.length) (hj : j < 6) : (plc l)[i * 6 + j]? = (l[i].cells)[j]? := by
  rw [← plE_self l i h, plE_get l i _ j h (by simpa [Pl.cells_length] using hj)]

/-- a pool's struct in block p, its places the row v -/
structure HasPool (w : World) (base p : Nat) (v : Value) (room many free : Int) (l : List Pl) : Prop where
  blk : w.heap[p]? = some (.cells #[.int .i64 room, .int .i64 many, v, .int .i64 free] 107 (0, 0))
  own : w.ownsRow base 104 6 v l.length (plc l)
  ne : v.ownBlock ≠ some p
  lo : base ≤ p

theorem HasPool.lt {w : World} {base p : Nat} {v : Value} {room many free : Int} {l : List Pl} (h : HasPool w base p v room many free l) : p < w.heap.size := (Array.getElem?_eq_some_iff.1 h.blk).1
theorem HasPool.cell {w : World} {base p : Nat} {v : Value} {room many free : Int} {l : List Pl} (h : HasPool w base p v room many free l) :
    w.cell? ⟨p, 0, none⟩ = some (.int .i64 room) ∧ w.cell? ⟨p, 1, none⟩ = some (.int .i64 many) ∧ w.cell? ⟨p, 2, none⟩ = some v ∧ w.cell? ⟨p, 3, none⟩ = some (.int .i64 free) := by
  have hb := h.blk
  refine ⟨?_, ?_, ?_, ?_⟩ <;> simp [World.cell?, hb]
theorem HasPool.free {w : World} {base p : Nat} {v : Value} {room many free : Int} {l : List Pl} (h : HasPool w base p v room many free l) (i : Nat) : w.frozen? ⟨p, i, none⟩ = false := by
  have hb := h.blk
  simp [World.frozen?, hb]
/-- the row's shape: it is nil, or a block of its own -/
theorem HasPool.row {w : World} {base p : Nat} {v : Value} {room many free : Int} {l : List Pl} (h : HasPool w base p v room many free l) :
    (v = .slice none 0 0 ∧ l = []) ∨ ∃ g cap, v = .slice (some ⟨g, 0, none⟩) l.length cap ∧ base ≤ g ∧ g < w.heap.size ∧ g ≠ p ∧ l.length ≤ cap ∧ cap ≤ maxLen := by
  rcases h.own.2 with ⟨hv, hn⟩ | ⟨g, cap, cur, hv, hg, hh, hc, hm, _, _⟩
  · exact .inl ⟨hv, List.eq_nil_of_length_eq_zero hn⟩
  · refine .inr ⟨g, cap, hv, hg, (Array.getElem?_eq_some_iff.1 hh).1, ?_, hc, hm⟩
    have := h.ne
    rw [hv] at this
    simpa [Value.ownBlock] using this
theorem HasPool.place {w : World} {base p g cap : Nat} {room many free : Int} {l : List Pl} (h : HasPool w base p (.slice (some ⟨g, 0, none⟩) l.length cap) room many free l) (i j : Nat) (hi : i < l.length) (hj : j < 6) :
    w.cell? ⟨g, i * 6 + j, none⟩ = (l[i].cells)[j]? := by
  rw [h.own.cellAt (i * 6 + j) (by omega), plc_get l i j hi hj]
theorem HasPool.placeFree {w : World} {base p g cap : Nat} {room many free : Int} {l : List Pl} (h : HasPool w base p (.slice (some ⟨g, 0, none⟩) l.length cap) room many free l) (j : Nat) : w.frozen? ⟨g, j, none⟩ = false := h.own.frozenAt j

theorem HasPool.alloc {w : World} {base p : Nat} {v : Value} {room many free : Int} {l : List Pl} (h : HasPool w base p v room many free l) (o : Obj) : HasPool (w.alloc o) base p v room many free l :=
  ⟨by rw [Below.heap_alloc w o p h.lt]; exact h.blk, h.own.alloc o, h.ne, h.lo⟩
theorem HasPool.drewN {w : World} {base p : Nat} {v : Value} {room many free : Int} {l : List Pl} (h : HasPool w base p v room many free l) (n : Nat) : HasPool (w.drewN n) base p v room many free l := ⟨h.blk, h.own, h.ne, h.lo⟩
/-- another world that holds both blocks as they are -/
theorem HasPool.kept {w w' : World} {base p : Nat} {v : Value} {room many free : Int} {l : List Pl} (h : HasPool w base p v room many free l) (hp : w'.heap[p]? = w.heap[p]?) (hg : ∀ g, v.ownBlock = some g → w'.heap[g]? = w.heap[g]?) : HasPool w' base p v room many free l := by
  refine ⟨by rw [hp]; exact h.blk, ⟨h.own.1, ?_⟩, h.ne, h.lo⟩
  rcases h.own.2 with hn | ⟨g, cap, cur, hv, hb, hh, hr⟩
  · exact .inl hn
  · exact .inr ⟨g, cap, cur, hv, hb, by rw [hg g (by rw [hv]; rfl)]; exact hh, hr⟩

theorem HasPool.lt2 {w : World} {base p g cap n : Nat} {room many free : Int} {l : List Pl} (h : HasPool w base p (.slice (some ⟨g, 0, none⟩) n cap) room many free l) : g < w.heap.size := by
  rcases h.row with ⟨hv, _⟩ | ⟨b', cap', hv, _, hb, _⟩
  · cases hv
  · cases hv; exact hb
theorem HasPool.len {w : World} {base p g cap n : Nat} {room many free : Int} {l : List Pl} (h : HasPool w base p (.slice (some ⟨g, 0, none⟩) n cap) room many free l) : n = l.length := by
  rcases h.row with ⟨hv, _⟩ | ⟨b', cap', hv, _⟩
  · cases hv
  · cases hv; rfl
/-- a store into a place -/
theorem HasPool.store {w : World} {base p g cap n : Nat} {room many free : Int} {l : List Pl} (h : HasPool w base p (.slice (some ⟨g, 0, none⟩) n cap) room many free l) (k j : Nat) (u : Value) (q q' : Pl) (hk : l[k]? = some q) (hj : j < 6) (hq : q.cells.set j u = q'.cells) :
    HasPool (w.setCell ⟨g, k * 6 + j, none⟩ u) base p (.slice (some ⟨g, 0, none⟩) n cap) room many free (l.set k q') := by
  obtain rfl := h.len
  obtain ⟨hk', rfl⟩ := List.getElem?_eq_some_iff.1 hk
  have hne : g ≠ p := by
    have := h.ne
    simpa [Value.ownBlock] using this
  refine ⟨?_, ?_, h.ne, h.lo⟩
  · rw [Below.heap_setCell _ _ _ _ (by exact fun e => hne e.symm)]; exact h.blk
  · have ho := (h.own.stored (k * 6 + j) u).1
    have e : (plc l).set (k * 6 + j) u = plc (l.set k q') := by
      have := plE_store l k (l[k].cells) j u hk' (by simpa [Pl.cells_length] using hj)
      rw [plE_self l k hk'] at this
      rw [this, hq, plE_set l k q' hk']
    rw [e] at ho
    rw [List.length_set]
    exact ho
theorem HasPool.store6 {w : World} {base p g cap n : Nat} {room many free : Int} {l : List Pl} (h : HasPool w base p (.slice (some ⟨g, 0, none⟩) n cap) room many free l) (k : Nat) (q q' : Pl) (hk : l[k]? = some q) :
    HasPool ((((((w.setCell ⟨g, k * 6, none⟩ (.int .i64 q'.x.ui)).setCell ⟨g, k * 6 + 1, none⟩ (.int .i64 q'.x.ug)).setCell ⟨g, k * 6 + 2, none⟩ (.int .i64 q'.x.dp)).setCell ⟨g, k * 6 + 3, none⟩ (.int .i64 q'.gen)).setCell ⟨g, k * 6 + 4, none⟩ (.bool q'.used)).setCell ⟨g, k * 6 + 5, none⟩ (.int .i64 q'.next)) base p (.slice (some ⟨g, 0, none⟩) n cap) room many free (l.set k q') := by
  have hl := (List.getElem?_eq_some_iff.1 hk).1
  have h1 := h.store k 0 (.int .i64 q'.x.ui) q ⟨⟨q'.x.x, q'.x.ui, q.x.ug, q.x.dp⟩, q.gen, q.used, q.next⟩ hk (by omega) rfl
  have h2 := h1.store k 1 (.int .i64 q'.x.ug) _ ⟨⟨q'.x.x, q'.x.ui, q'.x.ug, q.x.dp⟩, q.gen, q.used, q.next⟩ (List.getElem?_set_self hl) (by omega) rfl
  have h3 := h2.store k 2 (.int .i64 q'.x.dp) _ ⟨q'.x, q.gen, q.used, q.next⟩ (List.getElem?_set_self (by simpa using hl)) (by omega) rfl
  have h4 := h3.store k 3 (.int .i64 q'.gen) _ ⟨q'.x, q'.gen, q.used, q.next⟩ (List.getElem?_set_self (by simpa using hl)) (by omega) rfl
  have h5 := h4.store k 4 (.bool q'.used) _ ⟨q'.x, q'.gen, q'.used, q.next⟩ (List.getElem?_set_self (by simpa using hl)) (by omega) rfl
  have h6 := h5.store k 5 (.int .i64 q'.next) _ q' (List.getElem?_set_self (by simpa using hl)) (by omega) rfl
  simp only [List.set_set, Nat.add_zero] at h6
  exact h6
theorem HasPool.storeX {w : World} {base p g cap n : Nat} {room many free : Int} {l : List Pl} (h : HasPool w base p (.slice (some ⟨g, 0, none⟩) n cap) room many free l) (k : Nat) (q q' : Pl) (hk : l[k]? = some q) (hg : q'.gen = q.gen) (hu : q'.used = q.used) (hn : q'.next = q.next) :
    HasPool (((w.setCell ⟨g, k * 6, none⟩ (.int .i64 q'.x.ui)).setCell ⟨g, k * 6 + 1, none⟩ (.int .i64 q'.x.ug)).setCell ⟨g, k * 6 + 2, none⟩ (.int .i64 q'.x.dp)) base p (.slice (some ⟨g, 0, none⟩) n cap) room many free (l.set k q') := by
  have hl := (List.getElem?_eq_some_iff.1 hk).1
  have h1 := h.store k 0 (.int .i64 q'.x.ui) q ⟨⟨q'.x.x, q'.x.ui, q.x.ug, q.x.dp⟩, q.gen, q.used, q.next⟩ hk (by omega) rfl
  have h2 := h1.store k 1 (.int .i64 q'.x.ug) _ ⟨⟨q'.x.x, q'.x.ui, q'.x.ug, q.x.dp⟩, q.gen, q.used, q.next⟩ (List.getElem?_set_self hl) (by omega) rfl
  have h3 := h2.store k 2 (.int .i64 q'.x.dp) _ ⟨q'.x, q.gen, q.used, q.next⟩ (List.getElem?_set_self (by simpa using hl)) (by omega) rfl
  simp only [List.set_set, Nat.add_zero] at h3
  have e : (⟨q'.x, q.gen, q.used, q.next⟩ : Pl) = q' := by rw [← hg, ← hu, ← hn]
  rw [e] at h3
  exact h3
/-- a store into the struct -/
theorem HasPool.many_ {w : World} {base p : Nat} {v : Value} {room many free : Int} {l : List Pl} (h : HasPool w base p v room many free l) (m : Int) : HasPool (w.setCell ⟨p, 1, none⟩ (.int .i64 m)) base p v room m free l := by
  refine ⟨by rw [heap_set_same h.blk]; rfl, ?_, h.ne, h.lo⟩
  exact (ownsRow_other h.own h.ne)
theorem HasPool.free_ {w : World} {base p : Nat} {v : Value} {room many free : Int} {l : List Pl} (h : HasPool w base p v room many free l) (m : Int) : HasPool (w.setCell ⟨p, 3, none⟩ (.int .i64 m)) base p v room many m l :=
  ⟨by rw [heap_set_same h.blk]; rfl, ownsRow_other h.own h.ne, h.ne, h.lo⟩
/-- a store elsewhere -/
theorem HasPool.far {w : World} {base p : Nat} {v : Value} {room many free : Int} {l : List Pl} (h : HasPool w base p v room many free l) {c o : Nat} {u : Value} (h1 : c ≠ p) (h2 : v.ownBlock ≠ some c) : HasPool (w.setCell ⟨c, o, none⟩ u) base p v room many free l :=
  ⟨by rw [Below.heap_setCell _ _ _ _ (by exact fun e => h1 e.symm)]; exact h.blk, ownsRow_other h.own h2, h.ne, h.lo⟩
theorem HasPool.store5 {w : World} {base p g cap n : Nat} {room many free : Int} {l : List Pl} (h : HasPool w base p (.slice (some ⟨g, 0, none⟩) n cap) room many free l) (k : Nat) (q q' : Pl) (hk : l[k]? = some q) (hg : q'.gen = q.gen) :
    HasPool (((((w.setCell ⟨g, k * 6, none⟩ (.int .i64 q'.x.ui)).setCell ⟨g, k * 6 + 1, none⟩ (.int .i64 q'.x.ug)).setCell ⟨g, k * 6 + 2, none⟩ (.int .i64 q'.x.dp)).setCell ⟨g, k * 6 + 4, none⟩ (.bool q'.used)).setCell ⟨g, k * 6 + 5, none⟩ (.int .i64 q'.next)) base p (.slice (some ⟨g, 0, none⟩) n cap) room many free (l.set k q') := by
  have hl := (List.getElem?_eq_some_iff.1 hk).1
  have h3 := h.storeX k q ⟨q'.x, q.gen, q.used, q.next⟩ hk rfl rfl rfl
  have h5 := h3.store k 4 (.bool q'.used) _ ⟨q'.x, q.gen, q'.used, q.next⟩ (List.getElem?_set_self hl) (by omega) rfl
  have h6 := h5.store k 5 (.int .i64 q'.next) _ ⟨q'.x, q.gen, q'.used, q'.next⟩ (List.getElem?_set_self (by simpa using hl)) (by omega) rfl
  simp only [List.set_set] at h6
  have e : (⟨q'.x, q.gen, q'.used, q'.next⟩ : Pl) = q' := by rw [← hg]
  rw [e] at h6
  exact h6
/-- the row grown by one place, and laid into the struct -/
theorem HasPool.grow {w0 w1 : World} {base p : Nat} {v v' : Value} {room many free : Int} {l : List Pl} (h : HasPool w0 base p v room many free l) (q : Pl) (hg : w0.grownBy w1 v.ownBlock) (ho : w1.ownsRow base 104 6 v' (l.length + 1) (plc l ++ q.cells)) (hne : v'.ownBlock ≠ some p) :
    HasPool (w1.setCell ⟨p, 2, none⟩ v') base p v' room many free (l ++ [q]) := by
  have hb : w1.heap[p]? = some (.cells #[.int .i64 room, .int .i64 many, v, .int .i64 free] 107 (0, 0)) := by
    rw [hg.block p h.lt (fun e => h.ne e.symm)]; exact h.blk
  refine ⟨by rw [heap_set_same hb]; rfl, ?_, hne, h.lo⟩
  have e : plc (l ++ [q]) = plc l ++ q.cells := by rw [plc_append]; simp [plc]
  rw [e, List.length_append]
  exact ownsRow_other ho hne
/-- where the grown row lies: not where the struct does -/
theorem grown_ne {w0 w1 : World} {base p : Nat} {v v' : Value} {n : Nat} {xs : List Value} {e : TypeId} {size : Nat} (hne : v.ownBlock ≠ some p) (hg : w0.grownBy w1 v.ownBlock) (ho : w1.ownsRow base e size v' n xs) {o : Obj} (hb : w0.heap[p]? = some o) (ht : ∀ cs z, o ≠ .cells cs e z) : v'.ownBlock ≠ some p := by
  rcases ho.2 with ⟨rfl, _⟩ | ⟨g, cap, cur, rfl, _, hh, _⟩
  · simp [Value.ownBlock]
  · intro hp
    simp [Value.ownBlock] at hp
    subst hp
    have := hg.block g (Array.getElem?_eq_some_iff.1 hb).1 (fun e => hne e.symm)
    rw [hb] at this
    rw [this] at hh
    exact ht cur (0, 0) (by simpa using hh)
end Go.Proofs.Ytnbljnpfmeidfaa
