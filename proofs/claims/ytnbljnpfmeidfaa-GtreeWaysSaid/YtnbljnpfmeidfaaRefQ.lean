/- Contracts of the document's pool, doleref05: Put. Conditions: the rows are as long as one another. -/
import Derived.Test.YtnbljnpfmeidfaaRefG
namespace Go.Proofs.Ytnbljnpfmeidfaa
open Go Go.RowKit Go.ChangeShapes Go.WideShapes
set_option linter.unusedVariables false

theorem Hx.set0 {w : World} {k : Nat} {i g : Int} (h : Hx w k i g) (x : Int) : Hx (w.setCell ⟨k, 0, none⟩ (.int .i64 x)) k x g := by
  have := heap_set_same (i := 0) (u := .int .i64 x) h
  exact this
theorem Hx.set1 {w : World} {k : Nat} {i g : Int} (h : Hx w k i g) (x : Int) : Hx (w.setCell ⟨k, 1, none⟩ (.int .i64 x)) k i x := by
  have := heap_set_same (i := 1) (u := .int .i64 x) h
  exact this
theorem Hx.drew {w : World} {k : Nat} {i g : Int} (h : Hx w k i g) : Hx w.drew k i g := h
theorem RefP.farH {w : World} {p : Nat} {i g : Int} {r : Rp} {a1 : Option Addr} {c1 : Nat} {a2 : Option Addr} {c2 : Nat} {a3 : Option Addr} {c3 : Nat} {a4 : Option Addr} {c4 : Nat} (h : RefP w r a1 c1 a2 c2 a3 c3 a4 c4) (x : Hx w p i g) (o : Nat) (u : Value) : RefP (w.setCell ⟨p, o, none⟩ u) r a1 c1 a2 c2 a3 c3 a4 c4 :=
  ⟨row_other h.vals (row_hx h.vals x (by decide)), row_other h.used (row_hx h.used x (by decide)), row_other h.gens (row_hx h.gens x (by decide)), row_other h.freed (row_hx h.freed x (by decide))⟩
theorem RefP.drew {w : World} {r : Rp} {a1 : Option Addr} {c1 : Nat} {a2 : Option Addr} {c2 : Nat} {a3 : Option Addr} {c3 : Nat} {a4 : Option Addr} {c4 : Nat} (h : RefP w r a1 c1 a2 c2 a3 c3 a4 c4) : RefP w.drew r a1 c1 a2 c2 a3 c3 a4 c4 := ⟨h.vals, h.used, h.gens, h.freed⟩
theorem row_shrink {w : World} {base : Nat} {e : TypeId} {g n c : Nat} {xs : List Value} (h : w.ownsRow base e 1 (.slice (some ⟨g, 0, none⟩) n c) n xs) (m : Nat) (hm : m ≤ n) : w.ownsRow base e 1 (.slice (some ⟨g, 0, none⟩) m c) m (xs.take m) := by
  have hl := h.1
  refine ⟨by simp; omega, ?_⟩
  rcases h.2 with ⟨hv, _⟩ | ⟨x, cap, cur, hv, hb, hh, h1, h2, h3, h4⟩
  · cases hv
  · cases hv
    refine .inr ⟨g, c, cur, rfl, hb, hh, by omega, h2, h3, ?_⟩
    rw [← h4, List.take_take]
    congr 1
    omega
theorem row_cap {w : World} {base : Nat} {e : TypeId} {g n c : Nat} {xs : List Value} (h : w.ownsRow base e 1 (.slice (some ⟨g, 0, none⟩) n c) n xs) : n ≤ c ∧ c ≤ maxLen := by
  rcases h.2 with ⟨hv, _⟩ | ⟨x, cap, cur, hv, hb, hh, h1, h2, h3, h4⟩
  · cases hv
  · cases hv; exact ⟨h1, h2⟩
theorem rput_full (x : Int) (w : World) (r : Rp) (a1 : Option Addr) (c1 : Nat) (a2 : Option Addr) (c2 : Nat) (a3 : Option Addr) (c3 : Nat) (a4 : Option Addr) (c4 : Nat) (hf : r.freed.length = 0) (hr : r.room ≤ r.vals.length) :
    Calls Try.prog 42 #[.agg (pcells r a1 c1 a2 c2 a3 c3 a4 c4), .int .i64 x] w fun e w' => e = .returned (.tuple #[.agg (pcells r a1 c1 a2 c2 a3 c3 a4 c4), .agg #[.int .i64 0, .int .i64 0], .int .i64 3]) ∧ Below w.heap.size w w' := by
  have h0 : ((r.freed.length : Int) == 0) = true := beq_iff_eq.2 (by omega)
  have h1 : decide (r.room ≤ (r.vals.length : Int)) = true := decide_eq_true hr
  clear hf hr
  go_enter Try.func42, Try.ntmps42
  go_wp2
  refine bodyPost_ret (v := .tuple #[.agg (pcells r a1 c1 a2 c2 a3 c3 a4 c4), .agg #[.int .i64 0, .int .i64 0], .int .i64 3]) (by simp [results, Try.results42, go_sem]) rfl ⟨rfl, ?_⟩
  exact ((below_alloc _ _).alloc (by simp) _).alloc (by simp; omega) _
def Rp.again (r : Rp) (k : Nat) (x : Int) (fr : List Nat) : Rp := { r with vals := r.vals.set k x, used := r.used.set k true, freed := fr }
set_option maxHeartbeats 4000000 in
set_option maxRecDepth 100000 in
theorem rput_again (x : Int) (k : Nat) (fr : List Nat) (gn : Int) (w : World) (r : Rp) (a1 : Option Addr) (c1 : Nat) (a2 : Option Addr) (c2 : Nat) (a3 : Option Addr) (c3 : Nat) (a4 : Option Addr) (c4 : Nat) (h : RefP w r a1 c1 a2 c2 a3 c3 a4 c4) (ho : r.Ok) (hfr : r.freed = fr ++ [k]) (hgn : r.gens[k]? = some gn) :
    Calls Try.prog 42 #[.agg (pcells r a1 c1 a2 c2 a3 c3 a4 c4), .int .i64 x] w fun e w' => ∃ g1 d1 g2 d2 g3 d3 g4 d4, e = .returned (.tuple #[.agg (pcells (r.again k x fr) (some ⟨g1, 0, none⟩) d1 (some ⟨g2, 0, none⟩) d2 (some ⟨g3, 0, none⟩) d3 (some ⟨g4, 0, none⟩) d4), .agg #[.int .i64 k, .int .i64 gn], .int .i64 0]) ∧ RefP w' (r.again k x fr) (some ⟨g1, 0, none⟩) d1 (some ⟨g2, 0, none⟩) d2 (some ⟨g3, 0, none⟩) d3 (some ⟨g4, 0, none⟩) d4 ∧ Below w.heap.size w w' := by
  have HR := Lib.hid h
  have hkl : k < r.vals.length := ho.lf k (by rw [hfr]; simp)
  obtain ⟨m, hm⟩ : ∃ m, m = fr.length := ⟨_, rfl⟩
  have hlen : r.freed.length = m + 1 := by rw [hfr, hm]; simp
  have HM := Lib.hid hm
  have HL := Lib.hid hlen
  have HFR := Lib.hid hfr
  have HK4 : Hid (r.freed[m]? = some k) := Lib.hid (by rw [hfr, hm]; simp)
  have HGN := Lib.hid hgn
  obtain ⟨u, hu⟩ : ∃ u, r.used[k]? = some u := ⟨_, List.getElem?_eq_getElem (by rw [ho.lu]; exact hkl)⟩
  obtain ⟨v, hv⟩ : ∃ v, r.vals[k]? = some v := ⟨_, List.getElem?_eq_getElem hkl⟩
  have HU := Lib.hid hu
  have HV := Lib.hid hv
  have hku : k < r.used.length := by have := ho.lu; omega
  have hkg : k < r.gens.length := by have := ho.lg; omega
  have b1 := ho.vals
  have b2 := ho.used
  have b3 := ho.gens
  have b4 : m + 1 ≤ 5000 := by have := ho.freed; omega
  have h0 : ((r.freed.length : Int) == 0) = false := beq_eq_false_iff_ne.2 (by omega)
  clear h hfr hlen hm hgn hu hv
  obtain ⟨W0, hW0⟩ : ∃ W0, W0 = ((w.alloc (.cells (pcells r a1 c1 a2 c2 a3 c3 a4 c4) 54)).alloc (.cells pzero 54)).alloc (.cells #[.int .i64 0, .int .i64 0] 30) := ⟨_, rfl⟩
  have X1 : Hid (Px W0 w.heap.size (pcells r a1 c1 a2 c2 a3 c3 a4 c4)) := Lib.hid (by rw [hW0]; exact ((Px.new w _).alloc _).alloc _)
  have Z1 : Hid (Px W0 (w.heap.size + 1) pzero) := Lib.hid (by rw [hW0]; exact (Px.new1 w _ _).alloc _)
  have Y1 : Hid (Hx W0 (w.heap.size + 2) 0 0) := Lib.hid (by
    rw [hW0]
    have := Hx.new1 (w.alloc (.cells (pcells r a1 c1 a2 c2 a3 c3 a4 c4) 54)) (.cells pzero 54) 0 0
    rw [show (w.alloc (.cells (pcells r a1 c1 a2 c2 a3 c3 a4 c4) 54)).heap.size = w.heap.size + 1 by simp] at this
    exact this)
  have B1 : Hid (Below w.heap.size w W0) := Lib.hid (by rw [hW0]; exact ((below_alloc _ _).alloc (by simp) _).alloc (by simp; omega) _)
  have R1 := Lib.hid (HR.out.behind B1.out)
  go_enter Try.func42, Try.ntmps42
  go_wp2_with fail
  rw [← hW0]
  clear hW0
  refine (copied_any _ _ _ _ _ _ _ _ _ _ R1.out ho.toFit).mono ?_
  rintro e w2 ⟨g1, d1, g2, d2, g3, d3, g4, d4, rfl, hown, hb⟩
  have Y2 := Lib.hid ((Y1.out.behind hb).behind (below_alloc w2 (.cells (pcells r (some ⟨g1, 0, none⟩) d1 (some ⟨g2, 0, none⟩) d2 (some ⟨g3, 0, none⟩) d3 (some ⟨g4, 0, none⟩) d4) 54)))
  have Z2 := Lib.hid ((Z1.out.behind hb).behind (below_alloc w2 (.cells (pcells r (some ⟨g1, 0, none⟩) d1 (some ⟨g2, 0, none⟩) d2 (some ⟨g3, 0, none⟩) d3 (some ⟨g4, 0, none⟩) d4) 54)))
  have B2 := Lib.hid (below_trans B1.out hb B1.out.size)
  have O2 := Lib.hid (hown.behind (below_alloc w2 (.cells (pcells r (some ⟨g1, 0, none⟩) d1 (some ⟨g2, 0, none⟩) d2 (some ⟨g3, 0, none⟩) d3 (some ⟨g4, 0, none⟩) d4) 54)))
  have Q2 := Lib.hid (Px.new w2 (pcells r (some ⟨g1, 0, none⟩) d1 (some ⟨g2, 0, none⟩) d2 (some ⟨g3, 0, none⟩) d3 (some ⟨g4, 0, none⟩) d4))
  have B3 := Lib.hid (B2.out.alloc B2.out.size (.cells (pcells r (some ⟨g1, 0, none⟩) d1 (some ⟨g2, 0, none⟩) d2 (some ⟨g3, 0, none⟩) d3 (some ⟨g4, 0, none⟩) d4) 54))
  have hs12 := hb.size
  have hb1 := B1.out.size
  have hy1 := Y1.out.lt
  clear hb hown
  go_upto_region 5 with (fail)
  obtain ⟨w3, hw3⟩ : ∃ w3, w3 = w2.alloc (.cells (pcells r (some ⟨g1, 0, none⟩) d1 (some ⟨g2, 0, none⟩) d2 (some ⟨g3, 0, none⟩) d3 (some ⟨g4, 0, none⟩) d4) 54) := ⟨_, rfl⟩
  rw [← hw3] at Y2 Z2 O2 Q2 B3 ⊢
  obtain ⟨p3, hp3⟩ : ∃ p3, p3 = w2.heap.size := ⟨_, rfl⟩
  have hp3w : w.heap.size ≤ p3 := by rw [hp3]; exact B2.out.size
  have hzp : w.heap.size + 2 < p3 := by omega
  rw [← hp3] at Q2 ⊢
  clear hw3 hp3
  clear h0
  have hlen := HL.out
  obtain ⟨q0, q1, q2, q3, q4⟩ := Q2.out.c5
  have f0 := Q2.out.frz
  have l0 := Q2.out.lt
  have hc4 := ncell O2.out.freed rfl m k HK4.out
  have hl4 := (O2.out.freed.lt g4 rfl).2
  obtain ⟨hcap, hcm⟩ := row_cap O2.out.freed
  unfold maxLen at hcm
  have hcap' : m + 1 ≤ d4 := by omega
  clear hcap
  go_upto_region 12 with (fail)
  obtain ⟨w4, hw4⟩ : ∃ w4, w4 = w3.setCell ⟨p3, 4, none⟩ (.slice (some ⟨g4, 0, none⟩) m d4) := ⟨_, rfl⟩
  rw [← hw4]
  have hmf : fr.length = m := HM.out.symm
  have Q4 : Hid (Px w4 p3 #[.int .i64 r.room, .slice (some ⟨g1, 0, none⟩) r.vals.length d1, .slice (some ⟨g2, 0, none⟩) r.used.length d2, .slice (some ⟨g3, 0, none⟩) r.gens.length d3, .slice (some ⟨g4, 0, none⟩) m d4]) := Lib.hid (by rw [hw4]; exact Q2.out.set _)
  have Z4 : Hid (Px w4 (w.heap.size + 1) pzero) := Lib.hid (by rw [hw4]; exact Z2.out.far (by omega))
  have Y4 : Hid (Hx w4 (w.heap.size + 2) 0 0) := Lib.hid (by rw [hw4]; exact Y2.out.far (by omega))
  have O4 : Hid (OwnP w4 W0.heap.size { r with freed := fr } g1 d1 g2 d2 g3 d3 g4 d4) := Lib.hid (by
    have hs := row_shrink O2.out.freed m (by omega)
    have e : (nv r.freed).take m = nv fr := by rw [HFR.out, HM.out]; simp [nv]
    rw [e] at hs
    have hO := OwnP.far (r := { r with freed := fr }) ⟨O2.out.vals, O2.out.used, O2.out.gens, by rw [hmf]; exact hs, O2.out.n13, O2.out.n14, O2.out.n34⟩ Q2.out 4 (.slice (some ⟨g4, 0, none⟩) m d4)
    rw [hw4]; exact hO)
  have B4 : Hid (Below w.heap.size w w4) := Lib.hid (by rw [hw4]; exact B3.out.setCell hp3w _)
  have HE5 : Hid (pcells (r.again k x fr) (some ⟨g1, 0, none⟩) d1 (some ⟨g2, 0, none⟩) d2 (some ⟨g3, 0, none⟩) d3 (some ⟨g4, 0, none⟩) d4 = #[.int .i64 r.room, .slice (some ⟨g1, 0, none⟩) r.vals.length d1, .slice (some ⟨g2, 0, none⟩) r.used.length d2, .slice (some ⟨g3, 0, none⟩) r.gens.length d3, .slice (some ⟨g4, 0, none⟩) m d4]) := Lib.hid (by unfold pcells Rp.again; rw [HM.out]; simp)
  clear hw4 hlen hmf hc4 hl4 hcap' hcm q0 q1 q2 q3 q4 f0 l0
  have n12 := row_diff O4.out.vals O4.out.used (by decide)
  have n32 := row_diff O4.out.gens O4.out.used (by decide)
  have hgp1 : g1 ≠ p3 := by have := row_px O4.out.vals Q4.out (by decide); simpa [Value.ownBlock] using this
  have hgp2 : g2 ≠ p3 := by have := row_px O4.out.used Q4.out (by decide); simpa [Value.ownBlock] using this
  have hgz1 : g1 ≠ w.heap.size + 1 := by have := row_px O4.out.vals Z4.out (by decide); simpa [Value.ownBlock] using this
  have hgz2 : g2 ≠ w.heap.size + 1 := by have := row_px O4.out.used Z4.out (by decide); simpa [Value.ownBlock] using this
  have hgy1 : g1 ≠ w.heap.size + 2 := by have := row_hx O4.out.vals Y4.out (by decide); simpa [Value.ownBlock] using this
  have hgy2 : g2 ≠ w.heap.size + 2 := by have := row_hx O4.out.used Y4.out (by decide); simpa [Value.ownBlock] using this
  have hgb1 := (O4.out.vals.lt g1 rfl).1
  have hgb2 := (O4.out.used.lt g2 rfl).1
  have hc1 := icell O4.out.vals rfl k _ HV.out
  have hf1 := O4.out.vals.frozenAt k
  have hl1' := (O4.out.vals.lt g1 rfl).2
  have hc2 := bcellx O4.out.used rfl k _ HU.out
  have hf2 := O4.out.used.frozenAt k
  have hl2' := (O4.out.used.lt g2 rfl).2
  obtain ⟨q0, q1, q2, q3, q4⟩ := Q4.out.c5
  have f0 := Q4.out.frz
  have l0 := Q4.out.lt
  go_upto_region 14 with (fail)
  obtain ⟨w5, hw5⟩ : ∃ w5, w5 = (w4.setCell ⟨g1, k, none⟩ (.int .i64 x)).setCell ⟨g2, k, none⟩ (.bool true) := ⟨_, rfl⟩
  rw [← hw5]
  have Q5 : Hid (Px w5 p3 (#[.int .i64 r.room, .slice (some ⟨g1, 0, none⟩) r.vals.length d1, .slice (some ⟨g2, 0, none⟩) r.used.length d2, .slice (some ⟨g3, 0, none⟩) r.gens.length d3, .slice (some ⟨g4, 0, none⟩) m d4])) := Lib.hid (by rw [hw5]; exact (Q4.out.far (fun e => hgp1 e.symm)).far (fun e => hgp2 e.symm))
  have Z5 : Hid (Px w5 (w.heap.size + 1) pzero) := Lib.hid (by rw [hw5]; exact (Z4.out.far (fun e => hgz1 e.symm)).far (fun e => hgz2 e.symm))
  have Y5 : Hid (Hx w5 (w.heap.size + 2) 0 0) := Lib.hid (by rw [hw5]; exact (Y4.out.far (fun e => hgy1 e.symm)).far (fun e => hgy2 e.symm))
  have O5 : Hid (OwnP w5 W0.heap.size (r.again k x fr) g1 d1 g2 d2 g3 d3 g4 d4) := Lib.hid (by
    have := (O4.out.setV k x).setU k true
    rw [hw5]; exact ⟨this.vals, this.used, this.gens, this.freed, this.n13, this.n14, this.n34⟩)
  have B5 : Hid (Below w.heap.size w w5) := Lib.hid (by rw [hw5]; exact (B4.out.setCell (by show w.heap.size ≤ g1; omega) _).setCell (by show w.heap.size ≤ g2; omega) _)
  clear hw5 hc1 hf1 hl1' hc2 hf2 hl2' q0 q1 q2 q3 q4 f0 l0
  obtain ⟨q0, q1, q2, q3, q4⟩ := Q5.out.c5
  have l0 := Q5.out.lt
  have hc3 := icell O5.out.gens rfl k gn HGN.out
  have hl3 := (O5.out.gens.lt g3 rfl).2
  have hgp3 : g3 ≠ p3 := by have := row_px O5.out.gens Q5.out (by decide); simpa [Value.ownBlock] using this
  have hgz3 : g3 ≠ w.heap.size + 1 := by have := row_px O5.out.gens Z5.out (by decide); simpa [Value.ownBlock] using this
  have hgy3 : g3 ≠ w.heap.size + 2 := by have := row_hx O5.out.gens Y5.out (by decide); simpa [Value.ownBlock] using this
  obtain ⟨z0, z1, z2, z3, z4⟩ := Z5.out.c5
  obtain ⟨y0, y1⟩ := Y5.out.c2
  have f1 := Z5.out.frz
  have f2 := Y5.out.frz
  have l1 := Z5.out.lt
  have l2 := Y5.out.lt
  go_region
  obtain ⟨w8, hw8⟩ : ∃ w8, w8 = (((((((w5.setCell ⟨w.heap.size + 1, 0, none⟩ (.int .i64 r.room)).setCell ⟨w.heap.size + 1, 1, none⟩ (.slice (some ⟨g1, 0, none⟩) r.vals.length d1)).setCell ⟨w.heap.size + 1, 2, none⟩ (.slice (some ⟨g2, 0, none⟩) r.used.length d2)).setCell ⟨w.heap.size + 1, 3, none⟩ (.slice (some ⟨g3, 0, none⟩) r.gens.length d3)).setCell ⟨w.heap.size + 1, 4, none⟩ (.slice (some ⟨g4, 0, none⟩) m d4)).setCell ⟨w.heap.size + 1 + 1, 0, none⟩ (.int .i64 k)).setCell ⟨w.heap.size + 1 + 1, 1, none⟩ (.int .i64 gn)).drew := ⟨_, rfl⟩
  rw [← hw8]
  have ya := ((((Y5.out.far (c := w.heap.size + 1) (o := 0) (u := (.int .i64 r.room)) (by omega)).far (c := w.heap.size + 1) (o := 1) (u := (.slice (some ⟨g1, 0, none⟩) r.vals.length d1)) (by omega)).far (c := w.heap.size + 1) (o := 2) (u := (.slice (some ⟨g2, 0, none⟩) r.used.length d2)) (by omega)).far (c := w.heap.size + 1) (o := 3) (u := (.slice (some ⟨g3, 0, none⟩) r.gens.length d3)) (by omega)).far (c := w.heap.size + 1) (o := 4) (u := (.slice (some ⟨g4, 0, none⟩) m d4)) (by omega)
  have R8 : Hid (RefP w8 (r.again k x fr) (some ⟨g1, 0, none⟩) d1 (some ⟨g2, 0, none⟩) d2 (some ⟨g3, 0, none⟩) d3 (some ⟨g4, 0, none⟩) d4) := Lib.hid (by
    have r1 := (((((O5.out.ref.far Z5.out 0 (.int .i64 r.room)).far (Z5.out.set _) 1 (.slice (some ⟨g1, 0, none⟩) r.vals.length d1)).far ((Z5.out.set _).set _) 2 (.slice (some ⟨g2, 0, none⟩) r.used.length d2)).far (((Z5.out.set _).set _).set _) 3 (.slice (some ⟨g3, 0, none⟩) r.gens.length d3)).far ((((Z5.out.set _).set _).set _).set _) 4 (.slice (some ⟨g4, 0, none⟩) m d4))
    rw [hw8]; exact ((r1.farH ya 0 (.int .i64 k)).farH (ya.set0 k) 1 (.int .i64 gn)).drew)
  have Z8 : Hid (Px w8 (w.heap.size + 1) #[.int .i64 r.room, .slice (some ⟨g1, 0, none⟩) r.vals.length d1, .slice (some ⟨g2, 0, none⟩) r.used.length d2, .slice (some ⟨g3, 0, none⟩) r.gens.length d3, .slice (some ⟨g4, 0, none⟩) m d4]) := Lib.hid (by rw [hw8]; exact (((((((Z5.out.set _).set _).set _).set _).set _).far (by omega)).far (by omega)).drew)
  have Y8 : Hid (Hx w8 (w.heap.size + 2) k gn) := Lib.hid (by rw [hw8]; exact ((ya.set0 k).set1 gn).drew)
  have B8 : Hid (Below w.heap.size w w8) := Lib.hid (by rw [hw8]; exact below_drew (((((((B5.out.setCell (by simp) _).setCell (by simp) _).setCell (by simp) _).setCell (by simp) _).setCell (by simp) _).setCell (by simp <;> omega) _).setCell (by simp <;> omega) _))
  clear hw8 ya z0 z1 z2 z3 z4 y0 y1 f1 f2 l0 l1 l2 q0 q1 q2 q3 q4 hc3 hl3
  obtain ⟨z0, z1, z2, z3, z4⟩ := Z8.out.c5
  obtain ⟨y0, y1⟩ := Y8.out.c2
  go_wp2
  refine bodyPost_ret (v := .tuple #[.agg #[.int .i64 r.room, .slice (some ⟨g1, 0, none⟩) r.vals.length d1, .slice (some ⟨g2, 0, none⟩) r.used.length d2, .slice (some ⟨g3, 0, none⟩) r.gens.length d3, .slice (some ⟨g4, 0, none⟩) m d4], .agg #[.int .i64 k, .int .i64 gn], .int .i64 0]) (by simp [results, Try.results42, go_sem, z0, z1, z2, z3, z4, y0, y1]) rfl ⟨g1, d1, g2, d2, g3, d3, g4, d4, ?_, ?_, ?_⟩
  · rw [HE5.out]
  · exact R8.out
  · exact B8.out
end Go.Proofs.Ytnbljnpfmeidfaa
