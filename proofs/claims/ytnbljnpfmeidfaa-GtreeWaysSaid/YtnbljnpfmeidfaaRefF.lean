/- Contracts of the document's pool, doleref05: Set, Free. Conditions: the rows are as long as one another. -/
import Derived.Test.YtnbljnpfmeidfaaRefS
import Derived.StillTailTactics
namespace Go.Proofs.Ytnbljnpfmeidfaa
open Go Go.RowKit Go.ChangeShapes Go.WideShapes
set_option linter.unusedVariables false

set_option maxHeartbeats 2000000 in
theorem rset_yes (k : Nat) (i g x : Int) (w : World) (r : Rp) (a1 : Option Addr) (c1 : Nat) (a2 : Option Addr) (c2 : Nat) (a3 : Option Addr) (c3 : Nat) (a4 : Option Addr) (c4 : Nat) (h : RefP w r a1 c1 a2 c2 a3 c3 a4 c4) (ho : r.Ok) (hn : NamesR r i g k) :
    Calls Try.prog 49 #[.agg (pcells r a1 c1 a2 c2 a3 c3 a4 c4), .agg #[.int .i64 i, .int .i64 g], .int .i64 x] w fun e w' => ∃ g1 d1 g2 d2 g3 d3 g4 d4, e = .returned (.tuple #[.agg (pcells { r with vals := r.vals.set k x } (some ⟨g1, 0, none⟩) d1 (some ⟨g2, 0, none⟩) d2 (some ⟨g3, 0, none⟩) d3 (some ⟨g4, 0, none⟩) d4), .int .i64 0]) ∧ RefP w' { r with vals := r.vals.set k x } (some ⟨g1, 0, none⟩) d1 (some ⟨g2, 0, none⟩) d2 (some ⟨g3, 0, none⟩) d3 (some ⟨g4, 0, none⟩) d4 ∧ Below w.heap.size w w' := by
  have HR := Lib.hid h
  have HN := Lib.hid hn
  obtain ⟨hi, hu, hg⟩ := hn
  have hkl : k < r.vals.length := by have := (List.getElem?_eq_some_iff.1 hu).1; have := ho.lu; omega
  have HI := Lib.hid hi
  have b1 := ho.vals
  clear h hi hu hg
  obtain ⟨W0, hW0⟩ : ∃ W0, W0 = ((w.alloc (.cells (pcells r a1 c1 a2 c2 a3 c3 a4 c4) 54)).alloc (.cells #[.int .i64 i, .int .i64 g] 30)).alloc (.cells pzero 54) := ⟨_, rfl⟩
  have X0 : Hid (Px W0 w.heap.size (pcells r a1 c1 a2 c2 a3 c3 a4 c4)) := Lib.hid (by rw [hW0]; exact ((Px.new w _).alloc _).alloc _)
  have Y0 : Hid (Hx W0 (w.heap.size + 1) i g) := Lib.hid (by rw [hW0]; exact (Hx.new1 w _ i g).behind (below_alloc _ _))
  have Z0 : Hid (Px W0 (w.heap.size + 2) pzero) := Lib.hid (by
    rw [hW0]
    have := Px.new1 (w.alloc (.cells (pcells r a1 c1 a2 c2 a3 c3 a4 c4) 54)) (.cells #[.int .i64 i, .int .i64 g] 30) pzero
    rw [show (w.alloc (.cells (pcells r a1 c1 a2 c2 a3 c3 a4 c4) 54)).heap.size = w.heap.size + 1 by simp] at this
    exact this)
  have B0 : Hid (Below w.heap.size w W0) := Lib.hid (by rw [hW0]; exact ((below_alloc _ _).alloc (by simp) _).alloc (by simp; omega) _)
  have R0 := Lib.hid (HR.out.behind B0.out)
  go_enter Try.func49, Try.ntmps49
  go_wp2_with fail
  rw [← hW0]
  clear hW0
  refine (rnames_yes k _ _ _ _ _ _ _ _ _ _ _ _ R0.out ho HN.out).mono ?_
  rintro e w1 ⟨rfl, hb⟩
  have X1 := Lib.hid (X0.out.behind hb)
  have Y1 := Lib.hid (Y0.out.behind hb)
  have Z1 := Lib.hid (Z0.out.behind hb)
  have R1 := Lib.hid (R0.out.behind hb)
  have B1 := Lib.hid (below_trans B0.out hb B0.out.size)
  clear hb
  obtain ⟨q0, q1, q2, q3, q4⟩ := X1.out.c5
  obtain ⟨y0, y1⟩ := Y1.out.c2
  have f0 := X1.out.frz
  have l0 := X1.out.lt
  have l1 := Y1.out.lt
  obtain ⟨z0, z1, z2, z3, z4⟩ := Z1.out.c5
  have f1 := Z1.out.frz
  have l2 := Z1.out.lt
  go_wp2_with fail
  refine (copied_any _ _ _ _ _ _ _ _ _ _ R1.out ho.toFit).mono ?_
  rintro e w2 ⟨g1, d1, g2, d2, g3, d3, g4, d4, rfl, hown, hb⟩
  have hge : ∀ q, q ≤ w1.heap.size → True := fun _ _ => trivial
  have X2 := Lib.hid (X1.out.behind hb)
  have Y2 := Lib.hid ((Y1.out.behind hb).behind (below_alloc w2 (.cells (pcells r (some ⟨g1, 0, none⟩) d1 (some ⟨g2, 0, none⟩) d2 (some ⟨g3, 0, none⟩) d3 (some ⟨g4, 0, none⟩) d4) 54)))
  have Z2 := Lib.hid ((Z1.out.behind hb).behind (below_alloc w2 (.cells (pcells r (some ⟨g1, 0, none⟩) d1 (some ⟨g2, 0, none⟩) d2 (some ⟨g3, 0, none⟩) d3 (some ⟨g4, 0, none⟩) d4) 54)))
  have B2 := Lib.hid (below_trans B1.out hb B1.out.size)
  have O2 := Lib.hid (hown.behind (below_alloc w2 (.cells (pcells r (some ⟨g1, 0, none⟩) d1 (some ⟨g2, 0, none⟩) d2 (some ⟨g3, 0, none⟩) d3 (some ⟨g4, 0, none⟩) d4) 54)))
  have Q2 := Lib.hid (Px.new w2 (pcells r (some ⟨g1, 0, none⟩) d1 (some ⟨g2, 0, none⟩) d2 (some ⟨g3, 0, none⟩) d3 (some ⟨g4, 0, none⟩) d4))
  have B3 := Lib.hid (B2.out.alloc B2.out.size (.cells (pcells r (some ⟨g1, 0, none⟩) d1 (some ⟨g2, 0, none⟩) d2 (some ⟨g3, 0, none⟩) d3 (some ⟨g4, 0, none⟩) d4) 54))
  have hs12 := hb.size
  have hb1 := B1.out.size
  have hl1 := Z1.out.lt
  clear hb hown hge q0 q1 q2 q3 q4 y0 y1 f0 l0 l1 z0 z1 z2 z3 z4 f1 l2
  go_upto_region 4 with (fail)
  obtain ⟨w3, hw3⟩ : ∃ w3, w3 = w2.alloc (.cells (pcells r (some ⟨g1, 0, none⟩) d1 (some ⟨g2, 0, none⟩) d2 (some ⟨g3, 0, none⟩) d3 (some ⟨g4, 0, none⟩) d4) 54) := ⟨_, rfl⟩
  rw [← hw3] at Y2 Z2 O2 Q2 B3 ⊢
  obtain ⟨p3, hp3⟩ : ∃ p3, p3 = w2.heap.size := ⟨_, rfl⟩
  have hp3w : w.heap.size ≤ p3 := by rw [hp3]; exact B2.out.size
  have hzp : w.heap.size + 2 < p3 := by omega
  rw [← hp3] at Q2 ⊢
  have Y3 := Y2; have Q3 := Q2
  clear hw3 hp3
  obtain ⟨q0, q1, q2, q3, q4⟩ := Q3.out.c5
  obtain ⟨y0, y1⟩ := Y3.out.c2
  have f0 := Q3.out.frz
  have l0 := Q3.out.lt
  have l1 := Y3.out.lt
  obtain ⟨v, hv⟩ : ∃ v, r.vals[k]? = some v := ⟨_, List.getElem?_eq_getElem hkl⟩
  have hc := icell O2.out.vals rfl k v hv
  have hcf := O2.out.vals.frozenAt k
  have hgl := (O2.out.vals.lt g1 rfl).2
  have hgb := (O2.out.vals.lt g1 rfl).1
  have hi := HI.out
  subst hi
  clear hv
  go_upto_region 5 with (fail)
  obtain ⟨w4, hw4⟩ : ∃ w4, w4 = w3.setCell ⟨g1, k, none⟩ (.int .i64 x) := ⟨_, rfl⟩
  have hgp : g1 ≠ p3 := by have := row_px O2.out.vals Q3.out (by decide); simpa [Value.ownBlock] using this
  have hgz : g1 ≠ w.heap.size + 2 := by have := row_px O2.out.vals Z2.out (by decide); simpa [Value.ownBlock] using this
  have Q4 : Hid (Px w4 p3 (pcells r (some ⟨g1, 0, none⟩) d1 (some ⟨g2, 0, none⟩) d2 (some ⟨g3, 0, none⟩) d3 (some ⟨g4, 0, none⟩) d4)) := Lib.hid (by rw [hw4]; exact Q3.out.far (fun e => hgp e.symm))
  have Z4 : Hid (Px w4 (w.heap.size + 2) pzero) := Lib.hid (by rw [hw4]; exact Z2.out.far (fun e => hgz e.symm))
  have O4 : Hid (OwnP w4 w1.heap.size { r with vals := r.vals.set k x } g1 d1 g2 d2 g3 d3 g4 d4) := Lib.hid (by rw [hw4]; exact O2.out.setV k x)
  have B4 : Hid (Below w.heap.size w w4) := Lib.hid (by rw [hw4]; exact B3.out.setCell (by show w.heap.size ≤ g1; omega) _)
  rw [← hw4]
  clear hw4 hc hcf hgl q0 q1 q2 q3 q4 y0 y1 f0 l0 l1
  obtain ⟨q0, q1, q2, q3, q4⟩ := Q4.out.c5
  obtain ⟨z0, z1, z2, z3, z4⟩ := Z4.out.c5
  have f1 := Z4.out.frz
  have l0 := Q4.out.lt
  have l2 := Z4.out.lt
  go_wp2
  refine bodyPost_ret (v := .tuple #[.agg (pcells r (some ⟨g1, 0, none⟩) d1 (some ⟨g2, 0, none⟩) d2 (some ⟨g3, 0, none⟩) d3 (some ⟨g4, 0, none⟩) d4), .int .i64 0]) (by simp [results, Try.results49, go_sem, z0, z1, z2, z3, z4]) rfl ⟨g1, d1, g2, d2, g3, d3, g4, d4, ?_, ?_, ?_⟩
  · unfold pcells; simp
  · exact ((((O4.out.ref.far Z4.out 0 _).far (Z4.out.set _) 1 _).far ((Z4.out.set _).set _) 2 _).far (((Z4.out.set _).set _).set _) 3 _).far ((((Z4.out.set _).set _).set _).set _) 4 _
  · repeat (first | exact B4.out | refine Below.setCell ?_ (by simp <;> omega) _)
end Go.Proofs.Ytnbljnpfmeidfaa
