/- The document's pool as a value, its four rows; the contract of doleref05.copied. Conditions: the rows are read only, their lengths within bounds. -/
import Derived.Test.YtnbljnpfmeidfaaChecked
import Derived.Test.YtnbljnpfmeidfaaUtil
import Derived.Test.YtnbljnpfmeidfaaTch
import Derived.Test.YtnbljnpfmeidfaaRowUtil
import Derived.Deep.Cut
import Derived.Deep.DeepCutAuto
import Derived.StillTailTactics
namespace Go.Proofs.Ytnbljnpfmeidfaa
open Go Go.RowKit Go.ChangeShapes Go.WideShapes
set_option linter.unusedVariables false

theorem wp_still_tail {P : Program} {id : Nat} {Q : Exit → Act → World → Prop} {a : Act} {w : World} {l : List Oper} (n : Nat) (hm : P.follows .mixedOrders = true) (hB : Region.lexTailB .any l.toArray n = true) (w2 : World) (hw : w2 = w.drew)
    (h : wpStill P l.toArray w2 (fun a' => wpList P l.toArray Q (l.drop n) a' w2) (l.take n) a) : (Code.region id l.toArray true).wp P Q a w := by
  subst hw
  exact wp_region_still_tail n hm hB h
theorem rinfo_int : (Try.prog.info? 3).map (fun i => (i.zero, i.size, i.bytes)) = some (some (.int .i64 0), 1, 8) := by kernel_rfl
theorem rinfo_bool : (Try.prog.info? 4).map (fun i => (i.zero, i.size, i.bytes)) = some (some (.bool false), 1, 1) := by kernel_rfl
/-- the document's pool -/
structure Rp where
  room : Int
  vals : List Int
  used : List Bool
  gens : List Int
  freed : List Nat
def iv (l : List Int) : List Value := l.map (Value.int .i64)
def bv (l : List Bool) : List Value := l.map Value.bool
def nv (l : List Nat) : List Value := l.map (fun k : Nat => Value.int .i64 k)
theorem iv_length (l : List Int) : (iv l).length = l.length := by simp [iv]
theorem bv_length (l : List Bool) : (bv l).length = l.length := by simp [bv]
theorem nv_length (l : List Nat) : (nv l).length = l.length := by simp [nv]
theorem iv_one (l : List Int) : ∀ u ∈ iv l, u.oneCell' = true := by intro u hu; obtain ⟨x, _, rfl⟩ := List.mem_map.1 hu; rfl
theorem bv_one (l : List Bool) : ∀ u ∈ bv l, u.oneCell' = true := by intro u hu; obtain ⟨x, _, rfl⟩ := List.mem_map.1 hu; rfl
theorem nv_one (l : List Nat) : ∀ u ∈ nv l, u.oneCell' = true := by intro u hu; obtain ⟨x, _, rfl⟩ := List.mem_map.1 hu; rfl
/-- the cells of a pool's value -/
abbrev pcells (r : Rp) (a1 : Option Addr) (c1 : Nat) (a2 : Option Addr) (c2 : Nat) (a3 : Option Addr) (c3 : Nat) (a4 : Option Addr) (c4 : Nat) : Array Value :=
  #[.int .i64 r.room, .slice a1 r.vals.length c1, .slice a2 r.used.length c2, .slice a3 r.gens.length c3, .slice a4 r.freed.length c4]
/-- a pool's value, its rows to be read -/
structure RefP (w : World) (r : Rp) (a1 : Option Addr) (c1 : Nat) (a2 : Option Addr) (c2 : Nat) (a3 : Option Addr) (c3 : Nat) (a4 : Option Addr) (c4 : Nat) : Prop where
  vals : w.ownsRow 0 3 1 (.slice a1 r.vals.length c1) r.vals.length (iv r.vals)
  used : w.ownsRow 0 4 1 (.slice a2 r.used.length c2) r.used.length (bv r.used)
  gens : w.ownsRow 0 3 1 (.slice a3 r.gens.length c3) r.gens.length (iv r.gens)
  freed : w.ownsRow 0 3 1 (.slice a4 r.freed.length c4) r.freed.length (nv r.freed)
/-- a pool's value, its rows its own, each in a block of its own from base on -/
structure OwnP (w : World) (base : Nat) (r : Rp) (g1 c1 g2 c2 g3 c3 g4 c4 : Nat) : Prop where
  vals : w.ownsRow base 3 1 (.slice (some ⟨g1, 0, none⟩) r.vals.length c1) r.vals.length (iv r.vals)
  used : w.ownsRow base 4 1 (.slice (some ⟨g2, 0, none⟩) r.used.length c2) r.used.length (bv r.used)
  gens : w.ownsRow base 3 1 (.slice (some ⟨g3, 0, none⟩) r.gens.length c3) r.gens.length (iv r.gens)
  freed : w.ownsRow base 3 1 (.slice (some ⟨g4, 0, none⟩) r.freed.length c4) r.freed.length (nv r.freed)
  n13 : g1 ≠ g3
  n14 : g1 ≠ g4
  n34 : g3 ≠ g4
theorem OwnP.ref {w : World} {base : Nat} {r : Rp} {g1 c1 g2 c2 g3 c3 g4 c4 : Nat} (h : OwnP w base r g1 c1 g2 c2 g3 c3 g4 c4) : RefP w r (some ⟨g1, 0, none⟩) c1 (some ⟨g2, 0, none⟩) c2 (some ⟨g3, 0, none⟩) c3 (some ⟨g4, 0, none⟩) c4 :=
  ⟨row_base h.vals (Nat.zero_le _), row_base h.used (Nat.zero_le _), row_base h.gens (Nat.zero_le _), row_base h.freed (Nat.zero_le _)⟩
theorem RefP.behind {w w' : World} {r : Rp} {a1 : Option Addr} {c1 : Nat} {a2 : Option Addr} {c2 : Nat} {a3 : Option Addr} {c3 : Nat} {a4 : Option Addr} {c4 : Nat} (h : RefP w r a1 c1 a2 c2 a3 c3 a4 c4) (hb : Below w.heap.size w w') : RefP w' r a1 c1 a2 c2 a3 c3 a4 c4 :=
  ⟨row_below h.vals hb, row_below h.used hb, row_below h.gens hb, row_below h.freed hb⟩
theorem OwnP.behind {w w' : World} {base : Nat} {r : Rp} {g1 c1 g2 c2 g3 c3 g4 c4 : Nat} (h : OwnP w base r g1 c1 g2 c2 g3 c3 g4 c4) (hb : Below w.heap.size w w') : OwnP w' base r g1 c1 g2 c2 g3 c3 g4 c4 :=
  ⟨row_below h.vals hb, row_below h.used hb, row_below h.gens hb, row_below h.freed hb, h.n13, h.n14, h.n34⟩
/-- lengths within bounds -/
structure Rp.Fit (r : Rp) : Prop where
  vals : r.vals.length ≤ 5000
  used : r.used.length ≤ 5000
  gens : r.gens.length ≤ 5000
  freed : r.freed.length ≤ 5000
theorem below_drew {B : Nat} {a w : World} (h : Below B a w) : Below B a w.drew := ⟨h.os, h.tape, h.output, h.size, h.block⟩
theorem below_alloc (w : World) (o : Obj) : Below w.heap.size w (w.alloc o) := (Below.refl _ _).alloc (Nat.le_refl _) _
/-- a box of a pool -/
def Px (w : World) (p : Nat) (cs : Array Value) : Prop := w.heap[p]? = some (.cells cs 54 (0, 0))
abbrev pzero : Array Value := #[.int .i64 0, .slice none 0 0, .slice none 0 0, .slice none 0 0, .slice none 0 0]
theorem Px.new (w : World) (cs : Array Value) : Px (w.alloc (.cells cs 54)) w.heap.size cs := heap_alloc_new w _
theorem Px.new1 (w : World) (o : Obj) (cs : Array Value) : Px ((w.alloc o).alloc (.cells cs 54)) (w.heap.size + 1) cs := by
  have := heap_alloc_new (w.alloc o) (.cells cs 54)
  rw [show (w.alloc o).heap.size = w.heap.size + 1 by simp] at this
  exact this
theorem Px.lt {w : World} {p : Nat} {cs : Array Value} (h : Px w p cs) : p < w.heap.size := (Array.getElem?_eq_some_iff.1 h).1
theorem Px.behind {w w' : World} {p : Nat} {cs : Array Value} (h : Px w p cs) (hb : Below w.heap.size w w') : Px w' p cs := by unfold Px; rw [hb.block p h.lt]; exact h
theorem Px.alloc {w : World} {p : Nat} {cs : Array Value} (h : Px w p cs) (o : Obj) : Px (w.alloc o) p cs := h.behind (below_alloc w o)
theorem Px.drew {w : World} {p : Nat} {cs : Array Value} (h : Px w p cs) : Px w.drew p cs := h
theorem Px.far {w : World} {p c o : Nat} {cs : Array Value} {u : Value} (h : Px w p cs) (hne : p ≠ c) : Px (w.setCell ⟨c, o, none⟩ u) p cs := by unfold Px; rw [Below.heap_setCell _ _ _ _ (by exact hne)]; exact h
theorem Px.set {w : World} {p o : Nat} {cs : Array Value} (h : Px w p cs) (u : Value) : Px (w.setCell ⟨p, o, none⟩ u) p (cs.setIfInBounds o u) := heap_set_same h
theorem Px.c5 {w : World} {p : Nat} {c0 c1 c2 c3 c4 : Value} (h : Px w p #[c0, c1, c2, c3, c4]) : w.cell? ⟨p, 0, none⟩ = some c0 ∧ w.cell? ⟨p, 1, none⟩ = some c1 ∧ w.cell? ⟨p, 2, none⟩ = some c2 ∧ w.cell? ⟨p, 3, none⟩ = some c3 ∧ w.cell? ⟨p, 4, none⟩ = some c4 := by
  unfold Px at h
  refine ⟨?_, ?_, ?_, ?_, ?_⟩ <;> simp [World.cell?, h]
theorem Px.frz {w : World} {p : Nat} {cs : Array Value} (h : Px w p cs) : ∀ j, w.frozen? ⟨p, j, none⟩ = false := by
  intro j
  unfold Px at h
  simp [World.frozen?, h]
/-- a row lies in no pool's box -/
theorem row_px {w : World} {base p : Nat} {e : TypeId} {v : Value} {n : Nat} {xs : List Value} {cs : Array Value} (h : w.ownsRow base e 1 v n xs) (x : Px w p cs) (he : e ≠ 54) : v.ownBlock ≠ some p := by
  rcases h.2 with ⟨rfl, _⟩ | ⟨g, cap, cur, rfl, _, hh, _⟩
  · simp [Value.ownBlock]
  · intro hv
    simp [Value.ownBlock] at hv
    subst hv
    unfold Px at x
    rw [x] at hh
    simp only [Option.some.injEq, Obj.cells.injEq] at hh
    exact he hh.2.1.symm
theorem RefP.far {w : World} {p : Nat} {cs : Array Value} {r : Rp} {a1 : Option Addr} {c1 : Nat} {a2 : Option Addr} {c2 : Nat} {a3 : Option Addr} {c3 : Nat} {a4 : Option Addr} {c4 : Nat} (h : RefP w r a1 c1 a2 c2 a3 c3 a4 c4) (x : Px w p cs) (o : Nat) (u : Value) : RefP (w.setCell ⟨p, o, none⟩ u) r a1 c1 a2 c2 a3 c3 a4 c4 :=
  ⟨row_other h.vals (row_px h.vals x (by decide)), row_other h.used (row_px h.used x (by decide)), row_other h.gens (row_px h.gens x (by decide)), row_other h.freed (row_px h.freed x (by decide))⟩
theorem OwnP.far {w : World} {p base : Nat} {cs : Array Value} {r : Rp} {g1 c1 g2 c2 g3 c3 g4 c4 : Nat} (h : OwnP w base r g1 c1 g2 c2 g3 c3 g4 c4) (x : Px w p cs) (o : Nat) (u : Value) : OwnP (w.setCell ⟨p, o, none⟩ u) base r g1 c1 g2 c2 g3 c3 g4 c4 :=
  ⟨row_other h.vals (row_px h.vals x (by decide)), row_other h.used (row_px h.used x (by decide)), row_other h.gens (row_px h.gens x (by decide)), row_other h.freed (row_px h.freed x (by decide)), h.n13, h.n14, h.n34⟩
set_option maxHeartbeats 2000000 in
theorem copied_any (w : World) (r : Rp) (a1 : Option Addr) (c1 : Nat) (a2 : Option Addr) (c2 : Nat) (a3 : Option Addr) (c3 : Nat) (a4 : Option Addr) (c4 : Nat) (h : RefP w r a1 c1 a2 c2 a3 c3 a4 c4) (hf : r.Fit) :
    Calls Try.prog 57 #[.agg (pcells r a1 c1 a2 c2 a3 c3 a4 c4)] w fun e w' => ∃ g1 d1 g2 d2 g3 d3 g4 d4, e = .returned (.agg (pcells r (some ⟨g1, 0, none⟩) d1 (some ⟨g2, 0, none⟩) d2 (some ⟨g3, 0, none⟩) d3 (some ⟨g4, 0, none⟩) d4)) ∧ OwnP w' w.heap.size r g1 d1 g2 d2 g3 d3 g4 d4 ∧ Below w.heap.size w w' := by
  obtain ⟨i0, hi, hq0, hq1, hq2⟩ := info_parts rinfo_int
  obtain ⟨j0, hj, hr0, hr1, hr2⟩ := info_parts rinfo_bool
  have HR := Lib.hid h
  obtain ⟨b1, b2, b3, b4⟩ := hf
  clear h
  go_enter Try.func57, Try.ntmps57
  go_upto_region 1 with (fail)
  obtain ⟨W0, hW0⟩ : ∃ W0, W0 = (w.alloc (.cells (pcells r a1 c1 a2 c2 a3 c3 a4 c4) 54)).alloc (.cells pzero 54) := ⟨_, rfl⟩
  rw [← hW0]
  have X0 : Hid (Px W0 w.heap.size (pcells r a1 c1 a2 c2 a3 c3 a4 c4)) := Lib.hid (by rw [hW0]; exact (Px.new w _).alloc _)
  have Z0 : Hid (Px W0 (w.heap.size + 1) pzero) := Lib.hid (by rw [hW0]; exact Px.new1 w _ _)
  have B0 : Hid (Below w.heap.size w W0) := Lib.hid (by rw [hW0]; exact (below_alloc _ _).alloc (by simp) _)
  have s0 : w.heap.size + 1 < W0.heap.size := by rw [hW0]; simp
  clear hW0
  obtain ⟨q0, q1, q2, q3, q4⟩ := X0.out.c5
  have l0 := X0.out.lt
  go_wp2_with (at_builtin; go_loud (refine wpList_append_row rfl _ _ 38 rfl W0.heap.size 3 i0 (.int .i64 0) 1 8 Try.underlying38 hi hq0 hq1 hq2 rfl (by decide) (.slice (some ⟨W0.heap.size, 0, none⟩) 0 0) 0 [] rfl ?k10 0 (.slice a1 r.vals.length c1) r.vals.length (iv r.vals) rfl ?k11 ?k12 ?k13 ?k14 ?k15 ?_))
  case k10 => exact ownsRow_lit0 _ _ rfl
  case k11 => exact (row_below HR.out.vals B0.out).alloc _
  case k12 => exact iv_one _
  case k13 => unfold maxLen; omega
  case k14 => omega
  case k15 => simp
  intro v1 u1 hown hgrow hnn
  obtain ⟨g1, d1, rfl⟩ := ownsRow_block hown hnn
  have gb1 := (hown.lt g1 rfl).1
  have gl := (hown.lt g1 rfl).2
  have hbel : Below W0.heap.size W0 u1 := Below.grown (below_alloc W0 (.cells #[] 3)) hgrow (by simp) (fun k hk => by simp [Value.ownBlock] at hk; omega)
  have XX := Lib.hid (X0.out.behind hbel)
  obtain ⟨p0, p1, p2, p3, p4⟩ := XX.out.c5
  have pf := XX.out.frz
  have pl := XX.out.lt
  have ZZ := Lib.hid (Z0.out.behind hbel)
  have BB := Lib.hid (below_trans B0.out hbel B0.out.size)
  have O1 := Lib.hid hown
  clear hown hgrow hnn hbel q0 q1 q2 q3 q4 l0
  go_upto_region 2 with (fail)
  obtain ⟨W1, hW1⟩ : ∃ W1, W1 = u1.setCell ⟨w.heap.size, 1, none⟩ (.slice (some ⟨g1, 0, none⟩) r.vals.length d1) := ⟨_, rfl⟩
  rw [← hW1]
  have X1 : Hid (Px W1 w.heap.size #[.int .i64 r.room, .slice (some ⟨g1, 0, none⟩) r.vals.length d1, .slice a2 r.used.length c2, .slice a3 r.gens.length c3, .slice a4 r.freed.length c4]) := Lib.hid (by rw [hW1]; exact XX.out.set _)
  have Z1 : Hid (Px W1 (w.heap.size + 1) pzero) := Lib.hid (by rw [hW1]; exact ZZ.out.far (by omega))
  have B1 : Hid (Below w.heap.size w W1) := Lib.hid (by rw [hW1]; exact BB.out.setCell (Nat.le_refl _) _)
  have s1 : W1.heap.size = u1.heap.size := by rw [hW1]; simp
  have t1 : g1 < W1.heap.size := by omega
  have O1y : Hid (W1.ownsRow _ _ 1 (.slice (some ⟨g1, 0, none⟩) r.vals.length d1) _ _) := Lib.hid (by rw [hW1]; exact row_other O1.out (by simp [Value.ownBlock]; omega))
  clear O1
  have O1 := O1y
  clear O1y
  clear s1 hW1 XX ZZ BB p0 p1 p2 p3 p4 pf pl gl
  obtain ⟨q0, q1, q2, q3, q4⟩ := X1.out.c5
  have l0 := X1.out.lt
  go_wp2_with (at_builtin; go_loud (refine wpList_append_row rfl _ _ 52 rfl W1.heap.size 4 j0 (.bool false) 1 1 Try.underlying52 hj hr0 hr1 hr2 rfl (by decide) (.slice (some ⟨W1.heap.size, 0, none⟩) 0 0) 0 [] rfl ?k20 0 (.slice a2 r.used.length c2) r.used.length (bv r.used) rfl ?k21 ?k22 ?k23 ?k24 ?k25 ?_))
  case k20 => exact ownsRow_lit0 _ _ rfl
  case k21 => exact (row_below HR.out.used B1.out).alloc _
  case k22 => exact bv_one _
  case k23 => unfold maxLen; omega
  case k24 => omega
  case k25 => simp
  intro v2 u2 hown hgrow hnn
  obtain ⟨g2, d2, rfl⟩ := ownsRow_block hown hnn
  have gb2 := (hown.lt g2 rfl).1
  have gl := (hown.lt g2 rfl).2
  have hbel : Below W1.heap.size W1 u2 := Below.grown (below_alloc W1 (.cells #[] 4)) hgrow (by simp) (fun k hk => by simp [Value.ownBlock] at hk; omega)
  have XX := Lib.hid (X1.out.behind hbel)
  obtain ⟨p0, p1, p2, p3, p4⟩ := XX.out.c5
  have pf := XX.out.frz
  have pl := XX.out.lt
  have ZZ := Lib.hid (Z1.out.behind hbel)
  have BB := Lib.hid (below_trans B1.out hbel B1.out.size)
  have O2 := Lib.hid hown
  have O1xx := Lib.hid (row_below O1.out hbel)
  clear hown hgrow hnn hbel q0 q1 q2 q3 q4 l0
  go_upto_region 3 with (fail)
  obtain ⟨W2, hW2⟩ : ∃ W2, W2 = u2.setCell ⟨w.heap.size, 2, none⟩ (.slice (some ⟨g2, 0, none⟩) r.used.length d2) := ⟨_, rfl⟩
  rw [← hW2]
  have X2 : Hid (Px W2 w.heap.size #[.int .i64 r.room, .slice (some ⟨g1, 0, none⟩) r.vals.length d1, .slice (some ⟨g2, 0, none⟩) r.used.length d2, .slice a3 r.gens.length c3, .slice a4 r.freed.length c4]) := Lib.hid (by rw [hW2]; exact XX.out.set _)
  have Z2 : Hid (Px W2 (w.heap.size + 1) pzero) := Lib.hid (by rw [hW2]; exact ZZ.out.far (by omega))
  have B2 : Hid (Below w.heap.size w W2) := Lib.hid (by rw [hW2]; exact BB.out.setCell (Nat.le_refl _) _)
  have s2 : W2.heap.size = u2.heap.size := by rw [hW2]; simp
  have t2 : g2 < W2.heap.size := by omega
  have O1xxy : Hid (W2.ownsRow _ _ 1 (.slice (some ⟨g1, 0, none⟩) r.vals.length d1) _ _) := Lib.hid (by rw [hW2]; exact row_other O1xx.out (by simp [Value.ownBlock]; omega))
  clear O1xx
  have O1xx := O1xxy
  clear O1xxy
  have O2y : Hid (W2.ownsRow _ _ 1 (.slice (some ⟨g2, 0, none⟩) r.used.length d2) _ _) := Lib.hid (by rw [hW2]; exact row_other O2.out (by simp [Value.ownBlock]; omega))
  clear O2
  have O2 := O2y
  clear O2y
  clear s2 hW2 XX ZZ BB p0 p1 p2 p3 p4 pf pl gl
  obtain ⟨q0, q1, q2, q3, q4⟩ := X2.out.c5
  have l0 := X2.out.lt
  go_wp2_with (at_builtin; go_loud (refine wpList_append_row rfl _ _ 38 rfl W2.heap.size 3 i0 (.int .i64 0) 1 8 Try.underlying38 hi hq0 hq1 hq2 rfl (by decide) (.slice (some ⟨W2.heap.size, 0, none⟩) 0 0) 0 [] rfl ?k30 0 (.slice a3 r.gens.length c3) r.gens.length (iv r.gens) rfl ?k31 ?k32 ?k33 ?k34 ?k35 ?_))
  case k30 => exact ownsRow_lit0 _ _ rfl
  case k31 => exact (row_below HR.out.gens B2.out).alloc _
  case k32 => exact iv_one _
  case k33 => unfold maxLen; omega
  case k34 => omega
  case k35 => simp
  intro v3 u3 hown hgrow hnn
  obtain ⟨g3, d3, rfl⟩ := ownsRow_block hown hnn
  have gb3 := (hown.lt g3 rfl).1
  have gl := (hown.lt g3 rfl).2
  have hbel : Below W2.heap.size W2 u3 := Below.grown (below_alloc W2 (.cells #[] 3)) hgrow (by simp) (fun k hk => by simp [Value.ownBlock] at hk; omega)
  have XX := Lib.hid (X2.out.behind hbel)
  obtain ⟨p0, p1, p2, p3, p4⟩ := XX.out.c5
  have pf := XX.out.frz
  have pl := XX.out.lt
  have ZZ := Lib.hid (Z2.out.behind hbel)
  have BB := Lib.hid (below_trans B2.out hbel B2.out.size)
  have O3 := Lib.hid hown
  have O1xxx := Lib.hid (row_below O1xx.out hbel)
  have O2xxx := Lib.hid (row_below O2.out hbel)
  clear hown hgrow hnn hbel q0 q1 q2 q3 q4 l0
  go_upto_region 4 with (fail)
  obtain ⟨W3, hW3⟩ : ∃ W3, W3 = u3.setCell ⟨w.heap.size, 3, none⟩ (.slice (some ⟨g3, 0, none⟩) r.gens.length d3) := ⟨_, rfl⟩
  rw [← hW3]
  have X3 : Hid (Px W3 w.heap.size #[.int .i64 r.room, .slice (some ⟨g1, 0, none⟩) r.vals.length d1, .slice (some ⟨g2, 0, none⟩) r.used.length d2, .slice (some ⟨g3, 0, none⟩) r.gens.length d3, .slice a4 r.freed.length c4]) := Lib.hid (by rw [hW3]; exact XX.out.set _)
  have Z3 : Hid (Px W3 (w.heap.size + 1) pzero) := Lib.hid (by rw [hW3]; exact ZZ.out.far (by omega))
  have B3 : Hid (Below w.heap.size w W3) := Lib.hid (by rw [hW3]; exact BB.out.setCell (Nat.le_refl _) _)
  have s3 : W3.heap.size = u3.heap.size := by rw [hW3]; simp
  have t3 : g3 < W3.heap.size := by omega
  have O1xxxy : Hid (W3.ownsRow _ _ 1 (.slice (some ⟨g1, 0, none⟩) r.vals.length d1) _ _) := Lib.hid (by rw [hW3]; exact row_other O1xxx.out (by simp [Value.ownBlock]; omega))
  clear O1xxx
  have O1xxx := O1xxxy
  clear O1xxxy
  have O2xxxy : Hid (W3.ownsRow _ _ 1 (.slice (some ⟨g2, 0, none⟩) r.used.length d2) _ _) := Lib.hid (by rw [hW3]; exact row_other O2xxx.out (by simp [Value.ownBlock]; omega))
  clear O2xxx
  have O2xxx := O2xxxy
  clear O2xxxy
  have O3y : Hid (W3.ownsRow _ _ 1 (.slice (some ⟨g3, 0, none⟩) r.gens.length d3) _ _) := Lib.hid (by rw [hW3]; exact row_other O3.out (by simp [Value.ownBlock]; omega))
  clear O3
  have O3 := O3y
  clear O3y
  clear s3 hW3 XX ZZ BB p0 p1 p2 p3 p4 pf pl gl
  obtain ⟨q0, q1, q2, q3, q4⟩ := X3.out.c5
  have l0 := X3.out.lt
  go_wp2_with (at_builtin; go_loud (refine wpList_append_row rfl _ _ 38 rfl W3.heap.size 3 i0 (.int .i64 0) 1 8 Try.underlying38 hi hq0 hq1 hq2 rfl (by decide) (.slice (some ⟨W3.heap.size, 0, none⟩) 0 0) 0 [] rfl ?k40 0 (.slice a4 r.freed.length c4) r.freed.length (nv r.freed) rfl ?k41 ?k42 ?k43 ?k44 ?k45 ?_))
  case k40 => exact ownsRow_lit0 _ _ rfl
  case k41 => exact (row_below HR.out.freed B3.out).alloc _
  case k42 => exact nv_one _
  case k43 => unfold maxLen; omega
  case k44 => omega
  case k45 => simp
  intro v4 u4 hown hgrow hnn
  obtain ⟨g4, d4, rfl⟩ := ownsRow_block hown hnn
  have gb4 := (hown.lt g4 rfl).1
  have gl := (hown.lt g4 rfl).2
  have hbel : Below W3.heap.size W3 u4 := Below.grown (below_alloc W3 (.cells #[] 3)) hgrow (by simp) (fun k hk => by simp [Value.ownBlock] at hk; omega)
  have XX := Lib.hid (X3.out.behind hbel)
  obtain ⟨p0, p1, p2, p3, p4⟩ := XX.out.c5
  have pf := XX.out.frz
  have pl := XX.out.lt
  have ZZ := Lib.hid (Z3.out.behind hbel)
  have BB := Lib.hid (below_trans B3.out hbel B3.out.size)
  have O4 := Lib.hid hown
  have O1xxxx := Lib.hid (row_below O1xxx.out hbel)
  have O2xxxx := Lib.hid (row_below O2xxx.out hbel)
  have O3xxxx := Lib.hid (row_below O3.out hbel)
  clear hown hgrow hnn hbel q0 q1 q2 q3 q4 l0
  go_upto_region 5 with (fail)
  obtain ⟨W4, hW4⟩ : ∃ W4, W4 = u4.setCell ⟨w.heap.size, 4, none⟩ (.slice (some ⟨g4, 0, none⟩) r.freed.length d4) := ⟨_, rfl⟩
  rw [← hW4]
  have X4 : Hid (Px W4 w.heap.size #[.int .i64 r.room, .slice (some ⟨g1, 0, none⟩) r.vals.length d1, .slice (some ⟨g2, 0, none⟩) r.used.length d2, .slice (some ⟨g3, 0, none⟩) r.gens.length d3, .slice (some ⟨g4, 0, none⟩) r.freed.length d4]) := Lib.hid (by rw [hW4]; exact XX.out.set _)
  have Z4 : Hid (Px W4 (w.heap.size + 1) pzero) := Lib.hid (by rw [hW4]; exact ZZ.out.far (by omega))
  have B4 : Hid (Below w.heap.size w W4) := Lib.hid (by rw [hW4]; exact BB.out.setCell (Nat.le_refl _) _)
  have s4 : W4.heap.size = u4.heap.size := by rw [hW4]; simp
  have t4 : g4 < W4.heap.size := by omega
  have O1xxxxy : Hid (W4.ownsRow _ _ 1 (.slice (some ⟨g1, 0, none⟩) r.vals.length d1) _ _) := Lib.hid (by rw [hW4]; exact row_other O1xxxx.out (by simp [Value.ownBlock]; omega))
  clear O1xxxx
  have O1xxxx := O1xxxxy
  clear O1xxxxy
  have O2xxxxy : Hid (W4.ownsRow _ _ 1 (.slice (some ⟨g2, 0, none⟩) r.used.length d2) _ _) := Lib.hid (by rw [hW4]; exact row_other O2xxxx.out (by simp [Value.ownBlock]; omega))
  clear O2xxxx
  have O2xxxx := O2xxxxy
  clear O2xxxxy
  have O3xxxxy : Hid (W4.ownsRow _ _ 1 (.slice (some ⟨g3, 0, none⟩) r.gens.length d3) _ _) := Lib.hid (by rw [hW4]; exact row_other O3xxxx.out (by simp [Value.ownBlock]; omega))
  clear O3xxxx
  have O3xxxx := O3xxxxy
  clear O3xxxxy
  have O4y : Hid (W4.ownsRow _ _ 1 (.slice (some ⟨g4, 0, none⟩) r.freed.length d4) _ _) := Lib.hid (by rw [hW4]; exact row_other O4.out (by simp [Value.ownBlock]; omega))
  clear O4
  have O4 := O4y
  clear O4y
  clear s4 hW4 XX ZZ BB p0 p1 p2 p3 p4 pf pl gl
  have hO : OwnP W4 w.heap.size r g1 d1 g2 d2 g3 d3 g4 d4 := ⟨row_base O1xxxx.out (by omega), row_base O2xxxx.out (by omega), row_base O3xxxx.out (by omega), row_base O4.out (by omega), by omega, by omega, by omega⟩
  have HO := Lib.hid hO
  clear hO O1xxxx O2xxxx O3xxxx O4
  obtain ⟨q0, q1, q2, q3, q4⟩ := X4.out.c5
  obtain ⟨z0, z1, z2, z3, z4⟩ := Z4.out.c5
  have f1 := Z4.out.frz
  have l0 := X4.out.lt
  have l1 := Z4.out.lt
  go_wp2
  refine bodyPost_ret (v := .agg #[.int .i64 r.room, .slice (some ⟨g1, 0, none⟩) r.vals.length d1, .slice (some ⟨g2, 0, none⟩) r.used.length d2, .slice (some ⟨g3, 0, none⟩) r.gens.length d3, .slice (some ⟨g4, 0, none⟩) r.freed.length d4]) (by simp [results, Try.results57, go_sem, z0, z1, z2, z3, z4]) rfl ⟨g1, d1, g2, d2, g3, d3, g4, d4, rfl, ?_, ?_⟩
  · exact ((((HO.out.far Z4.out 0 _).far (Z4.out.set _) 1 _).far ((Z4.out.set _).set _) 2 _).far (((Z4.out.set _).set _).set _) 3 _).far ((((Z4.out.set _).set _).set _).set _) 4 _
  · repeat (first | exact B4.out | refine Below.setCell ?_ (by simp) _)
end Go.Proofs.Ytnbljnpfmeidfaa
