/- Contracts of the document's pool, doleref05: Free. Conditions: the rows are as long as one another. -/
import Derived.Test.YtnbljnpfmeidfaaRefF
import Derived.Maps.AppendAt
namespace Go.Proofs.Ytnbljnpfmeidfaa
open Go Go.RowKit Go.ChangeShapes Go.WideShapes
set_option linter.unusedVariables false

theorem row_grown {W w6 : World} {b2 : Nat} {e2 : TypeId} {gg n2 cc g : Nat} {xs : List Value} {o : Obj} (hr : W.ownsRow b2 e2 1 (.slice (some ⟨gg, 0, none⟩) n2 cc) n2 xs) (hne : gg ≠ g) (hg : (W.alloc o).grownBy w6 (some g)) : w6.ownsRow b2 e2 1 (.slice (some ⟨gg, 0, none⟩) n2 cc) n2 xs := by
  refine ⟨hr.1, ?_⟩
  rcases hr.2 with ⟨hv, _⟩ | ⟨x, cap, cur, hv, hb, hh, ht⟩
  · cases hv
  · cases hv
    have hl := (Array.getElem?_eq_some_iff.1 hh).1
    exact .inr ⟨gg, cc, cur, rfl, hb, by rw [hg.block gg (by simp; omega) (by simpa using hne), Below.heap_alloc _ _ _ hl]; exact hh, ht⟩
theorem new_ne {W : World} {b2 : Nat} {e2 : TypeId} {gg n2 cc g g0 : Nat} {xs : List Value} (hr : W.ownsRow b2 e2 1 (.slice (some ⟨gg, 0, none⟩) n2 cc) n2 xs) (hat : g = g0 ∨ W.heap.size ≤ g) (hne : gg ≠ g0) (e : g = gg) : False := by
  have hl := (hr.lt gg rfl).2
  rcases hat with h | h <;> omega
theorem Px.grown {W w6 : World} {b2 : Nat} {e2 : TypeId} {g n2 cc p : Nat} {xs : List Value} {cs : Array Value} {o : Obj} (h : Px W p cs) (hr : W.ownsRow b2 e2 1 (.slice (some ⟨g, 0, none⟩) n2 cc) n2 xs) (he : e2 ≠ 54) (hg : (W.alloc o).grownBy w6 (some g)) : Px w6 p cs := by
  have hne := row_px hr h he
  simp [Value.ownBlock] at hne
  have hl := h.lt
  unfold Px
  rw [hg.block p (by simp; omega) (by simp; omega), Below.heap_alloc _ _ _ hl]
  exact h
theorem Hx.grown {W w6 : World} {b2 : Nat} {e2 : TypeId} {g n2 cc p : Nat} {xs : List Value} {i gg : Int} {o : Obj} (h : Hx W p i gg) (hr : W.ownsRow b2 e2 1 (.slice (some ⟨g, 0, none⟩) n2 cc) n2 xs) (he : e2 ≠ 30) (hg : (W.alloc o).grownBy w6 (some g)) : Hx w6 p i gg := by
  have hne := row_hx hr h he
  simp [Value.ownBlock] at hne
  have hl := h.lt
  unfold Hx
  rw [hg.block p (by simp; omega) (by simp; omega), Below.heap_alloc _ _ _ hl]
  exact h
theorem OwnP.pushV {W w6 : World} {base : Nat} {r : Rp} {g1 c1 g2 c2 g3 c3 g4 c4 : Nat} {v' : Value} {x : Int} {o : Obj} (h : OwnP W base r g1 c1 g2 c2 g3 c3 g4 c4)
    (hown : w6.ownsRow base 3 1 v' (r.vals.length + 1) (iv r.vals ++ [.int .i64 x])) (hg : (W.alloc o).grownBy w6 (some g1)) (hat : v'.ownBlock = some g1 ∨ v'.ownBlock = some (W.alloc o).heap.size) (hnn : v' ≠ .slice none 0 0) :
    ∃ g c, v' = .slice (some ⟨g, 0, none⟩) (r.vals.length + 1) c ∧ OwnP w6 base { r with vals := r.vals ++ [x] } g c g2 c2 g3 c3 g4 c4 := by
  obtain ⟨g, c, rfl⟩ := ownsRow_block hown hnn
  have hk : ∀ {b2 : Nat} {e2 : TypeId} {gg n2 cc : Nat} {xs : List Value}, W.ownsRow b2 e2 1 (.slice (some ⟨gg, 0, none⟩) n2 cc) n2 xs → gg ≠ g1 → w6.ownsRow b2 e2 1 (.slice (some ⟨gg, 0, none⟩) n2 cc) n2 xs := fun hr hne => row_grown hr hne hg
  have hat : g = g1 ∨ W.heap.size ≤ g := by
    rcases hat with e | e
    · simp [Value.ownBlock] at e; exact .inl e
    · simp [Value.ownBlock] at e; exact .inr (by omega)
  have ne2 : g2 ≠ g1 := row_diff h.used h.vals (by decide)
  have ne3 : g3 ≠ g1 := fun e => h.n13 e.symm
  have ne4 : g4 ≠ g1 := fun e => h.n14 e.symm
  have e : iv r.vals ++ [.int .i64 x] = iv (r.vals ++ [x]) := by simp [iv]
  rw [e] at hown
  exact ⟨g, c, rfl, ⟨by simpa using hown, hk h.used (ne2), hk h.gens (ne3), hk h.freed (ne4), fun e => new_ne h.gens hat (by omega) e, fun e => new_ne h.freed hat (by omega) e, h.n34⟩⟩
theorem OwnP.pushU {W w6 : World} {base : Nat} {r : Rp} {g1 c1 g2 c2 g3 c3 g4 c4 : Nat} {v' : Value} {x : Bool} {o : Obj} (h : OwnP W base r g1 c1 g2 c2 g3 c3 g4 c4)
    (hown : w6.ownsRow base 4 1 v' (r.used.length + 1) (bv r.used ++ [.bool x])) (hg : (W.alloc o).grownBy w6 (some g2)) (hat : v'.ownBlock = some g2 ∨ v'.ownBlock = some (W.alloc o).heap.size) (hnn : v' ≠ .slice none 0 0) :
    ∃ g c, v' = .slice (some ⟨g, 0, none⟩) (r.used.length + 1) c ∧ OwnP w6 base { r with used := r.used ++ [x] } g1 c1 g c g3 c3 g4 c4 := by
  obtain ⟨g, c, rfl⟩ := ownsRow_block hown hnn
  have hk : ∀ {b2 : Nat} {e2 : TypeId} {gg n2 cc : Nat} {xs : List Value}, W.ownsRow b2 e2 1 (.slice (some ⟨gg, 0, none⟩) n2 cc) n2 xs → gg ≠ g2 → w6.ownsRow b2 e2 1 (.slice (some ⟨gg, 0, none⟩) n2 cc) n2 xs := fun hr hne => row_grown hr hne hg
  have hat : g = g2 ∨ W.heap.size ≤ g := by
    rcases hat with e | e
    · simp [Value.ownBlock] at e; exact .inl e
    · simp [Value.ownBlock] at e; exact .inr (by omega)
  have ne1 : g1 ≠ g2 := row_diff h.vals h.used (by decide)
  have ne3 : g3 ≠ g2 := row_diff h.gens h.used (by decide)
  have ne4 : g4 ≠ g2 := row_diff h.freed h.used (by decide)
  have e : bv r.used ++ [.bool x] = bv (r.used ++ [x]) := by simp [bv]
  rw [e] at hown
  exact ⟨g, c, rfl, ⟨hk h.vals (ne1), by simpa using hown, hk h.gens (ne3), hk h.freed (ne4), h.n13, h.n14, h.n34⟩⟩
theorem OwnP.pushG {W w6 : World} {base : Nat} {r : Rp} {g1 c1 g2 c2 g3 c3 g4 c4 : Nat} {v' : Value} {x : Int} {o : Obj} (h : OwnP W base r g1 c1 g2 c2 g3 c3 g4 c4)
    (hown : w6.ownsRow base 3 1 v' (r.gens.length + 1) (iv r.gens ++ [.int .i64 x])) (hg : (W.alloc o).grownBy w6 (some g3)) (hat : v'.ownBlock = some g3 ∨ v'.ownBlock = some (W.alloc o).heap.size) (hnn : v' ≠ .slice none 0 0) :
    ∃ g c, v' = .slice (some ⟨g, 0, none⟩) (r.gens.length + 1) c ∧ OwnP w6 base { r with gens := r.gens ++ [x] } g1 c1 g2 c2 g c g4 c4 := by
  obtain ⟨g, c, rfl⟩ := ownsRow_block hown hnn
  have hk : ∀ {b2 : Nat} {e2 : TypeId} {gg n2 cc : Nat} {xs : List Value}, W.ownsRow b2 e2 1 (.slice (some ⟨gg, 0, none⟩) n2 cc) n2 xs → gg ≠ g3 → w6.ownsRow b2 e2 1 (.slice (some ⟨gg, 0, none⟩) n2 cc) n2 xs := fun hr hne => row_grown hr hne hg
  have hat : g = g3 ∨ W.heap.size ≤ g := by
    rcases hat with e | e
    · simp [Value.ownBlock] at e; exact .inl e
    · simp [Value.ownBlock] at e; exact .inr (by omega)
  have ne1 : g1 ≠ g3 := h.n13
  have ne2 : g2 ≠ g3 := row_diff h.used h.gens (by decide)
  have ne4 : g4 ≠ g3 := fun e => h.n34 e.symm
  have e : iv r.gens ++ [.int .i64 x] = iv (r.gens ++ [x]) := by simp [iv]
  rw [e] at hown
  exact ⟨g, c, rfl, ⟨hk h.vals (ne1), hk h.used (ne2), by simpa using hown, hk h.freed (ne4), fun e => new_ne h.vals hat (by omega) e.symm, h.n14, fun e => new_ne h.freed hat (by omega) e⟩⟩
theorem OwnP.pushF {W w6 : World} {base : Nat} {r : Rp} {g1 c1 g2 c2 g3 c3 g4 c4 : Nat} {v' : Value} {x : Nat} {o : Obj} (h : OwnP W base r g1 c1 g2 c2 g3 c3 g4 c4)
    (hown : w6.ownsRow base 3 1 v' (r.freed.length + 1) (nv r.freed ++ [.int .i64 (x : Nat)])) (hg : (W.alloc o).grownBy w6 (some g4)) (hat : v'.ownBlock = some g4 ∨ v'.ownBlock = some (W.alloc o).heap.size) (hnn : v' ≠ .slice none 0 0) :
    ∃ g c, v' = .slice (some ⟨g, 0, none⟩) (r.freed.length + 1) c ∧ OwnP w6 base { r with freed := r.freed ++ [x] } g1 c1 g2 c2 g3 c3 g c := by
  obtain ⟨g, c, rfl⟩ := ownsRow_block hown hnn
  have hk : ∀ {b2 : Nat} {e2 : TypeId} {gg n2 cc : Nat} {xs : List Value}, W.ownsRow b2 e2 1 (.slice (some ⟨gg, 0, none⟩) n2 cc) n2 xs → gg ≠ g4 → w6.ownsRow b2 e2 1 (.slice (some ⟨gg, 0, none⟩) n2 cc) n2 xs := fun hr hne => row_grown hr hne hg
  have hat : g = g4 ∨ W.heap.size ≤ g := by
    rcases hat with e | e
    · simp [Value.ownBlock] at e; exact .inl e
    · simp [Value.ownBlock] at e; exact .inr (by omega)
  have ne1 : g1 ≠ g4 := h.n14
  have ne2 : g2 ≠ g4 := row_diff h.used h.freed (by decide)
  have ne3 : g3 ≠ g4 := h.n34
  have e : nv r.freed ++ [.int .i64 (x : Nat)] = nv (r.freed ++ [x]) := by simp [nv]
  rw [e] at hown
  exact ⟨g, c, rfl, ⟨hk h.vals (ne1), hk h.used (ne2), hk h.gens (ne3), by simpa using hown, h.n13, fun e => new_ne h.vals hat (by omega) e.symm, fun e => new_ne h.gens hat (by omega) e.symm⟩⟩
set_option maxHeartbeats 1000000 in
set_option maxRecDepth 100000 in
theorem rfree_no (i g : Int) (w : World) (r : Rp) (a1 : Option Addr) (c1 : Nat) (a2 : Option Addr) (c2 : Nat) (a3 : Option Addr) (c3 : Nat) (a4 : Option Addr) (c4 : Nat) (h : RefP w r a1 c1 a2 c2 a3 c3 a4 c4) (ho : r.Ok) (hn : ∀ k, ¬ NamesR r i g k) :
    Calls Try.prog 46 #[.agg (pcells r a1 c1 a2 c2 a3 c3 a4 c4), .agg #[.int .i64 i, .int .i64 g]] w fun e w' => e = .returned (.tuple #[.agg (pcells r a1 c1 a2 c2 a3 c3 a4 c4), .int .i64 0, .int .i64 2]) ∧ Below w.heap.size w w' := by
  have HR := Lib.hid h
  have HN := Lib.hid hn
  clear h hn
  obtain ⟨W0, hW0⟩ : ∃ W0, W0 = ((w.alloc (.cells (pcells r a1 c1 a2 c2 a3 c3 a4 c4) 54)).alloc (.cells #[.int .i64 i, .int .i64 g] 30)).alloc (.cells pzero 54) := ⟨_, rfl⟩
  have X0 : Hid (Px W0 w.heap.size (pcells r a1 c1 a2 c2 a3 c3 a4 c4)) := Lib.hid (by rw [hW0]; exact ((Px.new w _).alloc _).alloc _)
  have Y0 : Hid (Hx W0 (w.heap.size + 1) i g) := Lib.hid (by rw [hW0]; exact (Hx.new1 w _ i g).behind (below_alloc _ _))
  have Z0 : Hid (Px W0 (w.heap.size + 2) pzero) := Lib.hid (by
    rw [hW0]
    have := Px.new1 (w.alloc (.cells (pcells r a1 c1 a2 c2 a3 c3 a4 c4) 54)) (.cells #[.int .i64 i, .int .i64 g] 30) pzero
    rw [show (w.alloc (.cells (pcells r a1 c1 a2 c2 a3 c3 a4 c4) 54)).heap.size = w.heap.size + 1 by simp] at this
    exact this)
  have B0 : Hid (Below w.heap.size w W0) := Lib.hid (by rw [hW0]; exact ((below_alloc _ _).alloc (by simp) _).alloc (by simp; omega) _)
  have R0 := Lib.hid (HR.out.behind B0.out)
  go_enter Try.func46, Try.ntmps46
  go_wp2_with fail
  rw [← hW0]
  clear hW0
  refine (rnames_no _ _ _ _ _ _ _ _ _ _ _ _ R0.out ho HN.out).mono ?_
  rintro e w1 ⟨rfl, hb⟩
  have X1 := Lib.hid (X0.out.behind hb)
  have Y1 := Lib.hid (Y0.out.behind hb)
  have Z1 := Lib.hid (Z0.out.behind hb)
  have R1 := Lib.hid (R0.out.behind hb)
  have B1 := Lib.hid (below_trans B0.out hb B0.out.size)
  clear hb
  obtain ⟨q0, q1, q2, q3, q4⟩ := X1.out.c5
  obtain ⟨y0, y1⟩ := Y1.out.c2
  have f0 := X1.out.frz
  have l0 := X1.out.lt
  have l1 := Y1.out.lt
  obtain ⟨z0, z1, z2, z3, z4⟩ := Z1.out.c5
  have f1 := Z1.out.frz
  have l2 := Z1.out.lt
  go_wp2
  refine bodyPost_ret (v := .tuple #[.agg (pcells r a1 c1 a2 c2 a3 c3 a4 c4), .int .i64 0, .int .i64 2]) (by simp [results, Try.results46, go_sem, z0, z1, z2, z3, z4]) rfl ⟨rfl, ?_⟩
  repeat (first | exact B1.out | refine Below.setCell ?_ (by simp <;> omega) _)
def Rp.free (r : Rp) (k : Nat) (g : Int) : Rp := { r with vals := r.vals.set k 0, used := r.used.set k false, gens := r.gens.set k (g + 1), freed := r.freed ++ [k] }
set_option maxHeartbeats 4000000 in
set_option maxRecDepth 100000 in
theorem rfree_yes (k : Nat) (i g x : Int) (w : World) (r : Rp) (a1 : Option Addr) (c1 : Nat) (a2 : Option Addr) (c2 : Nat) (a3 : Option Addr) (c3 : Nat) (a4 : Option Addr) (c4 : Nat) (h : RefP w r a1 c1 a2 c2 a3 c3 a4 c4) (ho : r.Ok) (hn : NamesR r i g k) (hx : r.vals[k]? = some x) (hgb : 0 ≤ g ∧ g ≤ 1000000) (hfl : r.freed.length ≤ 4999) :
    Calls Try.prog 46 #[.agg (pcells r a1 c1 a2 c2 a3 c3 a4 c4), .agg #[.int .i64 i, .int .i64 g]] w fun e w' => ∃ g1 d1 g2 d2 g3 d3 g4 d4, e = .returned (.tuple #[.agg (pcells (r.free k g) (some ⟨g1, 0, none⟩) d1 (some ⟨g2, 0, none⟩) d2 (some ⟨g3, 0, none⟩) d3 (some ⟨g4, 0, none⟩) d4), .int .i64 x, .int .i64 0]) ∧ RefP w' (r.free k g) (some ⟨g1, 0, none⟩) d1 (some ⟨g2, 0, none⟩) d2 (some ⟨g3, 0, none⟩) d3 (some ⟨g4, 0, none⟩) d4 ∧ Below w.heap.size w w' := by
  obtain ⟨i0, hi0, hq0, hq1, hq2⟩ := info_parts rinfo_int
  have HR := Lib.hid h
  have HN := Lib.hid hn
  obtain ⟨hi, hu, hg⟩ := hn
  have hkl : k < r.vals.length := (List.getElem?_eq_some_iff.1 hx).1
  have HI := Lib.hid hi
  have HU := Lib.hid hu
  have HGk := Lib.hid hg
  have HXk := Lib.hid hx
  have b1 := ho.vals
  have b2 := ho.used
  have b3 := ho.gens
  have hku : k < r.used.length := by have := ho.lu; omega
  have hkg : k < r.gens.length := by have := ho.lg; omega
  obtain ⟨gb1, gb2⟩ := hgb
  clear h hi hu hg hx
  obtain ⟨W0, hW0⟩ : ∃ W0, W0 = ((w.alloc (.cells (pcells r a1 c1 a2 c2 a3 c3 a4 c4) 54)).alloc (.cells #[.int .i64 i, .int .i64 g] 30)).alloc (.cells pzero 54) := ⟨_, rfl⟩
  have X0 : Hid (Px W0 w.heap.size (pcells r a1 c1 a2 c2 a3 c3 a4 c4)) := Lib.hid (by rw [hW0]; exact ((Px.new w _).alloc _).alloc _)
  have Y0 : Hid (Hx W0 (w.heap.size + 1) i g) := Lib.hid (by rw [hW0]; exact (Hx.new1 w _ i g).behind (below_alloc _ _))
  have Z0 : Hid (Px W0 (w.heap.size + 2) pzero) := Lib.hid (by
    rw [hW0]
    have := Px.new1 (w.alloc (.cells (pcells r a1 c1 a2 c2 a3 c3 a4 c4) 54)) (.cells #[.int .i64 i, .int .i64 g] 30) pzero
    rw [show (w.alloc (.cells (pcells r a1 c1 a2 c2 a3 c3 a4 c4) 54)).heap.size = w.heap.size + 1 by simp] at this
    exact this)
  have B0 : Hid (Below w.heap.size w W0) := Lib.hid (by rw [hW0]; exact ((below_alloc _ _).alloc (by simp) _).alloc (by simp; omega) _)
  have R0 := Lib.hid (HR.out.behind B0.out)
  go_enter Try.func46, Try.ntmps46
  go_wp2_with fail
  rw [← hW0]
  clear hW0
  refine (rnames_yes k _ _ _ _ _ _ _ _ _ _ _ _ R0.out ho HN.out).mono ?_
  rintro e w1 ⟨rfl, hb⟩
  have X1 := Lib.hid (X0.out.behind hb)
  have Y1 := Lib.hid (Y0.out.behind hb)
  have Z1 := Lib.hid (Z0.out.behind hb)
  have R1 := Lib.hid (R0.out.behind hb)
  have B1 := Lib.hid (below_trans B0.out hb B0.out.size)
  clear hb
  obtain ⟨q0, q1, q2, q3, q4⟩ := X1.out.c5
  obtain ⟨y0, y1⟩ := Y1.out.c2
  have f0 := X1.out.frz
  have l0 := X1.out.lt
  have l1 := Y1.out.lt
  obtain ⟨z0, z1, z2, z3, z4⟩ := Z1.out.c5
  have f1 := Z1.out.frz
  have l2 := Z1.out.lt
  go_wp2_with fail
  refine (copied_any _ _ _ _ _ _ _ _ _ _ R1.out ho.toFit).mono ?_
  rintro e w2 ⟨g1, d1, g2, d2, g3, d3, g4, d4, rfl, hown, hb⟩
  have hge : ∀ q, q ≤ w1.heap.size → True := fun _ _ => trivial
  have X2 := Lib.hid (X1.out.behind hb)
  have Y2 := Lib.hid ((Y1.out.behind hb).behind (below_alloc w2 (.cells (pcells r (some ⟨g1, 0, none⟩) d1 (some ⟨g2, 0, none⟩) d2 (some ⟨g3, 0, none⟩) d3 (some ⟨g4, 0, none⟩) d4) 54)))
  have Z2 := Lib.hid ((Z1.out.behind hb).behind (below_alloc w2 (.cells (pcells r (some ⟨g1, 0, none⟩) d1 (some ⟨g2, 0, none⟩) d2 (some ⟨g3, 0, none⟩) d3 (some ⟨g4, 0, none⟩) d4) 54)))
  have B2 := Lib.hid (below_trans B1.out hb B1.out.size)
  have O2 := Lib.hid (hown.behind (below_alloc w2 (.cells (pcells r (some ⟨g1, 0, none⟩) d1 (some ⟨g2, 0, none⟩) d2 (some ⟨g3, 0, none⟩) d3 (some ⟨g4, 0, none⟩) d4) 54)))
  have Q2 := Lib.hid (Px.new w2 (pcells r (some ⟨g1, 0, none⟩) d1 (some ⟨g2, 0, none⟩) d2 (some ⟨g3, 0, none⟩) d3 (some ⟨g4, 0, none⟩) d4))
  have B3 := Lib.hid (B2.out.alloc B2.out.size (.cells (pcells r (some ⟨g1, 0, none⟩) d1 (some ⟨g2, 0, none⟩) d2 (some ⟨g3, 0, none⟩) d3 (some ⟨g4, 0, none⟩) d4) 54))
  have hs12 := hb.size
  have hb1 := B1.out.size
  have hl1 := Z1.out.lt
  clear hb hown hge q0 q1 q2 q3 q4 y0 y1 f0 l0 l1 z0 z1 z2 z3 z4 f1 l2
  go_upto_region 4 with (fail)
  obtain ⟨w3, hw3⟩ : ∃ w3, w3 = w2.alloc (.cells (pcells r (some ⟨g1, 0, none⟩) d1 (some ⟨g2, 0, none⟩) d2 (some ⟨g3, 0, none⟩) d3 (some ⟨g4, 0, none⟩) d4) 54) := ⟨_, rfl⟩
  rw [← hw3] at Y2 Z2 O2 Q2 B3 ⊢
  obtain ⟨p3, hp3⟩ : ∃ p3, p3 = w2.heap.size := ⟨_, rfl⟩
  have hp3w : w.heap.size ≤ p3 := by rw [hp3]; exact B2.out.size
  have hzp : w.heap.size + 2 < p3 := by omega
  rw [← hp3] at Q2 ⊢
  have Y3 := Y2; have Q3 := Q2
  clear hw3 hp3
  obtain ⟨q0, q1, q2, q3, q4⟩ := Q3.out.c5
  obtain ⟨y0, y1⟩ := Y3.out.c2
  have f0 := Q3.out.frz
  have l0 := Q3.out.lt
  have l1 := Y3.out.lt
  have hc1 := icell O2.out.vals rfl k _ HXk.out
  have hf1 := O2.out.vals.frozenAt k
  have hl1' := (O2.out.vals.lt g1 rfl).2
  have hc2 := bcellx O2.out.used rfl k _ HU.out
  have hf2 := O2.out.used.frozenAt k
  have hl2 := (O2.out.used.lt g2 rfl).2
  have n12 := row_diff O2.out.vals O2.out.used (by decide)
  have hgp1 : g1 ≠ p3 := by have := row_px O2.out.vals Q3.out (by decide); simpa [Value.ownBlock] using this
  have hgp2 : g2 ≠ p3 := by have := row_px O2.out.used Q3.out (by decide); simpa [Value.ownBlock] using this
  have hgp3 : g3 ≠ p3 := by have := row_px O2.out.gens Q3.out (by decide); simpa [Value.ownBlock] using this
  have hgz1 : g1 ≠ w.heap.size + 2 := by have := row_px O2.out.vals Z2.out (by decide); simpa [Value.ownBlock] using this
  have hgz2 : g2 ≠ w.heap.size + 2 := by have := row_px O2.out.used Z2.out (by decide); simpa [Value.ownBlock] using this
  have hgz3 : g3 ≠ w.heap.size + 2 := by have := row_px O2.out.gens Z2.out (by decide); simpa [Value.ownBlock] using this
  have hgy1 : g1 ≠ w.heap.size + 1 := by have := row_hx O2.out.vals Y3.out (by decide); simpa [Value.ownBlock] using this
  have hgy2 : g2 ≠ w.heap.size + 1 := by have := row_hx O2.out.used Y3.out (by decide); simpa [Value.ownBlock] using this
  have hgy3 : g3 ≠ w.heap.size + 1 := by have := row_hx O2.out.gens Y3.out (by decide); simpa [Value.ownBlock] using this
  have hgb1 := (O2.out.vals.lt g1 rfl).1
  have hgb2 := (O2.out.used.lt g2 rfl).1
  have hgb3 := (O2.out.gens.lt g3 rfl).1
  have hgb4 := (O2.out.freed.lt g4 rfl).1
  have hi := HI.out
  subst hi
  go_upto_region 7 with (fail)
  obtain ⟨w4, hw4⟩ : ∃ w4, w4 = ((w3.setCell ⟨g2, k, none⟩ (.bool false)).setCell ⟨g1, k, none⟩ (.int .i64 0)).drew := ⟨_, rfl⟩
  have Q4 : Hid (Px w4 p3 (pcells r (some ⟨g1, 0, none⟩) d1 (some ⟨g2, 0, none⟩) d2 (some ⟨g3, 0, none⟩) d3 (some ⟨g4, 0, none⟩) d4)) := Lib.hid (by rw [hw4]; exact (Q3.out.far (fun e => hgp2 e.symm)).far (fun e => hgp1 e.symm))
  have Z4 : Hid (Px w4 (w.heap.size + 2) pzero) := Lib.hid (by rw [hw4]; exact (Z2.out.far (fun e => hgz2 e.symm)).far (fun e => hgz1 e.symm))
  have Y4 : Hid (Hx w4 (w.heap.size + 1) k g) := Lib.hid (by rw [hw4]; exact (Y3.out.far (fun e => hgy2 e.symm)).far (fun e => hgy1 e.symm))
  have O4 : Hid (OwnP w4 w1.heap.size { r with vals := r.vals.set k 0, used := r.used.set k false } g1 d1 g2 d2 g3 d3 g4 d4) := Lib.hid (by
    have := (O2.out.setU k false).setV k 0
    rw [hw4]; exact ⟨this.vals, this.used, this.gens, this.freed, this.n13, this.n14, this.n34⟩)
  have B4 : Hid (Below w.heap.size w w4) := Lib.hid (by rw [hw4]; exact below_drew ((B3.out.setCell (by show w.heap.size ≤ g2; omega) _).setCell (by show w.heap.size ≤ g1; omega) _))
  clear hc1 hf1 hl1' hc2 hf2 hl2 q0 q1 q2 q3 q4 y0 y1 f0 l0 l1
  refine wp_still_tail 12 (by kernel_rfl) (by kernel_rfl) w4 hw4 ?_
  clear hw4
  obtain ⟨q0, q1, q2, q3, q4⟩ := Q4.out.c5
  obtain ⟨y0, y1⟩ := Y4.out.c2
  have f0 := Q4.out.frz
  have l0 := Q4.out.lt
  have l1 := Y4.out.lt
  have hc3 := icell O4.out.gens rfl k _ HGk.out
  have hf3 := O4.out.gens.frozenAt k
  have hl3 := (O4.out.gens.lt g3 rfl).2
  simp only [List.take_succ_cons, List.take_zero, List.drop_succ_cons, List.drop_zero]
  repeat still_step
  refine wpStill_nil ?_
  go_upto_region 8 with (fail)
  obtain ⟨w5, hw5⟩ : ∃ w5, w5 = w4.setCell ⟨g3, k, none⟩ (.int .i64 (g + 1)) := ⟨_, rfl⟩
  have Q5 : Hid (Px w5 p3 (pcells r (some ⟨g1, 0, none⟩) d1 (some ⟨g2, 0, none⟩) d2 (some ⟨g3, 0, none⟩) d3 (some ⟨g4, 0, none⟩) d4)) := Lib.hid (by rw [hw5]; exact Q4.out.far (fun e => hgp3 e.symm))
  have Z5 : Hid (Px w5 (w.heap.size + 2) pzero) := Lib.hid (by rw [hw5]; exact Z4.out.far (fun e => hgz3 e.symm))
  have Y5 : Hid (Hx w5 (w.heap.size + 1) k g) := Lib.hid (by rw [hw5]; exact Y4.out.far (fun e => hgy3 e.symm))
  have O5 : Hid (OwnP w5 w1.heap.size { r with vals := r.vals.set k 0, used := r.used.set k false, gens := r.gens.set k (g + 1) } g1 d1 g2 d2 g3 d3 g4 d4) := Lib.hid (by rw [hw5]; exact O4.out.setG k (g + 1))
  have B5 : Hid (Below w.heap.size w w5) := Lib.hid (by rw [hw5]; exact B4.out.setCell (by show w.heap.size ≤ g3; omega) _)
  rw [← hw5]
  clear hw5 hc3 hf3 hl3 q0 q1 q2 q3 q4 y0 y1 f0 l0 l1
  obtain ⟨q0, q1, q2, q3, q4⟩ := Q5.out.c5
  obtain ⟨y0, y1⟩ := Y5.out.c2
  have l0 := Q5.out.lt
  have l1 := Y5.out.lt
  have B5s := B5.out.size
  have h15 : w1.heap.size ≤ w5.heap.size := by have := (O5.out.vals.lt g1 rfl).2; omega
  go_wp2_with (at_builtin; go_loud (refine wpList_append_own_at _ rfl _ _ 38 rfl w1.heap.size 3 i0 (.int .i64 0) 1 8 Try.underlying38 hi0 hq0 hq1 hq2 rfl (by decide) (.slice (some ⟨g4, 0, none⟩) r.freed.length d4) r.freed.length (nv r.freed) rfl (O5.out.freed.alloc _) ⟨w5.heap.size, 0, none⟩ 1 1 [.int .i64 (k : Nat)] rfl rfl ?k0 ?k1 ?k2 ?k3 ?k4 ?_))
  case k1 => first | rfl | (intro u hu; simp at hu; subst hu; rfl)
  case k2 => unfold maxLen; omega
  case k3 => omega
  case k4 => first | omega | (simp; omega)
  intro v6 w6 hown hgrow hnil hat
  have hnn : v6 ≠ .slice none 0 0 := by rintro rfl; simp at hnil
  obtain ⟨g5, d5, rfl, ho5⟩ := O5.out.pushF hown hgrow (by simpa [Value.ownBlock] using hat) hnn
  have Q6 := Lib.hid (Q5.out.grown O5.out.freed (by decide) hgrow)
  have Z6 := Lib.hid (Z5.out.grown O5.out.freed (by decide) hgrow)
  have O6 := Lib.hid ho5
  have B6 := Lib.hid ((B5.out.alloc B5s (.cells #[.int .i64 (k : Nat)] 3)).grown hgrow (by simp; omega) (fun kk hk' => by simp [Value.ownBlock] at hk'; omega))
  clear hown hgrow hnil hat hnn ho5 q0 q1 q2 q3 q4 y0 y1 l0 l1
  obtain ⟨q0, q1, q2, q3, q4⟩ := Q6.out.c5
  have f0 := Q6.out.frz
  have l0 := Q6.out.lt
  go_upto_region 9 with (fail)
  obtain ⟨w7, hw7⟩ : ∃ w7, w7 = w6.setCell ⟨p3, 4, none⟩ (.slice (some ⟨g5, 0, none⟩) (r.freed.length + 1) d5) := ⟨_, rfl⟩
  rw [← hw7]
  have Q7 : Hid (Px w7 p3 #[.int .i64 r.room, .slice (some ⟨g1, 0, none⟩) r.vals.length d1, .slice (some ⟨g2, 0, none⟩) r.used.length d2, .slice (some ⟨g3, 0, none⟩) r.gens.length d3, .slice (some ⟨g5, 0, none⟩) (r.freed.length + 1) d5]) := Lib.hid (by rw [hw7]; exact Q6.out.set _)
  have Z7 : Hid (Px w7 (w.heap.size + 2) pzero) := Lib.hid (by rw [hw7]; exact Z6.out.far (by omega))
  have R7 : Hid (RefP w7 (r.free k g) (some ⟨g1, 0, none⟩) d1 (some ⟨g2, 0, none⟩) d2 (some ⟨g3, 0, none⟩) d3 (some ⟨g5, 0, none⟩) d5) := Lib.hid (by rw [hw7]; exact O6.out.ref.far Q6.out 4 _)
  have B7 : Hid (Below w.heap.size w w7) := Lib.hid (by rw [hw7]; exact B6.out.setCell hp3w _)
  clear hw7 q0 q1 q2 q3 q4 f0 l0
  obtain ⟨q0, q1, q2, q3, q4⟩ := Q7.out.c5
  obtain ⟨z0, z1, z2, z3, z4⟩ := Z7.out.c5
  have f1 := Z7.out.frz
  have l0 := Q7.out.lt
  have l2 := Z7.out.lt
  go_wp2
  refine bodyPost_ret (v := .tuple #[.agg #[.int .i64 r.room, .slice (some ⟨g1, 0, none⟩) r.vals.length d1, .slice (some ⟨g2, 0, none⟩) r.used.length d2, .slice (some ⟨g3, 0, none⟩) r.gens.length d3, .slice (some ⟨g5, 0, none⟩) (r.freed.length + 1) d5], .int .i64 x, .int .i64 0]) (by simp [results, Try.results46, go_sem, z0, z1, z2, z3, z4]) rfl ⟨g1, d1, g2, d2, g3, d3, g5, d5, ?_, ?_, ?_⟩
  · unfold pcells Rp.free; simp
  · exact ((((R7.out.far Z7.out 0 _).far (Z7.out.set _) 1 _).far ((Z7.out.set _).set _) 2 _).far (((Z7.out.set _).set _).set _) 3 _).far ((((Z7.out.set _).set _).set _).set _) 4 _
  · repeat (first | exact B7.out | refine Below.setCell ?_ (by simp <;> omega) _)
end Go.Proofs.Ytnbljnpfmeidfaa
