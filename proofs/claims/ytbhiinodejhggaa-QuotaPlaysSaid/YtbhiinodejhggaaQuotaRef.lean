/- Contracts of the document's answer, package doleref12. Conditions: the band is told by value, its local times in a row of their own. -/
import Derived.Test.YtbhiinodejhggaaServes
import Derived.Test.YtbhiinodejhggaaRowUtil
import Derived.Deep.Cut
import Derived.Deep.DeepCutAuto
namespace Go.Proofs.Ytbhiinodejhggaa
open Go Go.RowKit Go.ChangeShapes Go.WideShapes
set_option linter.unusedVariables false

theorem info_int64 : (Try.prog.info? 2).map (fun i => (i.zero, i.size, i.bytes)) = some (some (.int .i64 0), 1, 8) := by kernel_rfl
/-- the document's band as a value: the row of its local times lies in block g -/
abbrev refV (b : Bd) (g cap : Nat) : Value := .agg #[.int .i64 b.q, .int .i64 b.s, .int .i64 b.pool, .int .i64 b.spent, .slice (some ⟨g, 0, none⟩) b.l.length cap]
structure RefB (w : World) (b : Bd) (g cap : Nat) : Prop where
  row : w.ownsRow 0 2 1 (.slice (some ⟨g, 0, none⟩) b.l.length cap) b.l.length (b.l.map (Value.int .i64))
  lo : 1 ≤ b.l.length
  hi : b.l.length ≤ 64
theorem RefB.behind {w w' : World} {b : Bd} {g cap : Nat} (h : RefB w b g cap) (hb : Below w.heap.size w w') : RefB w' b g cap := ⟨row_below h.row hb, h.lo, h.hi⟩
theorem RefB.cell {w : World} {b : Bd} {g cap : Nat} (h : RefB w b g cap) (k : Nat) (o : Int) (hk : b.l[k]? = some o) : w.cell? ⟨g, k, none⟩ = some (.int .i64 o) := by
  have hl := (List.getElem?_eq_some_iff.1 hk).1
  rw [h.row.cellAt k (by omega), List.getElem?_map, hk]; rfl
theorem RefB.lt {w : World} {b : Bd} {g cap : Nat} (h : RefB w b g cap) : g < w.heap.size := (h.row.lt g rfl).2

theorem rthere_neg (k : Int) (w : World) (b : Bd) (g cap : Nat) (hk : k < 0) :
    Calls Try.prog 32 #[refV b g cap, .int .i64 k] w fun e w' => e = .returned (.bool false) ∧ Below w.heap.size w w' := by
  have h0 : decide (0 ≤ k) = false := decide_eq_false (by omega)
  go_enter Try.func32, Try.ntmps32
  go_wp2
  go_ret
  exact ⟨rfl, (Below.refl _ _).alloc (Nat.le_refl _) _⟩
theorem rthere_far (k : Int) (w : World) (b : Bd) (g cap : Nat) (hk : (b.l.length : Int) ≤ k) :
    Calls Try.prog 32 #[refV b g cap, .int .i64 k] w fun e w' => e = .returned (.bool false) ∧ Below w.heap.size w w' := by
  have h0 : decide (0 ≤ k) = true := decide_eq_true (by omega)
  have h1 : decide (k < (b.l.length : Int)) = false := decide_eq_false (by omega)
  go_enter Try.func32, Try.ntmps32
  go_wp2
  go_ret
  exact ⟨rfl, (Below.refl _ _).alloc (Nat.le_refl _) _⟩
theorem rthere_not (k : Int) (w : World) (b : Bd) (g cap : Nat) (hk : NotP b k) :
    Calls Try.prog 32 #[refV b g cap, .int .i64 k] w fun e w' => e = .returned (.bool false) ∧ Below w.heap.size w w' := by
  rcases hk with hk | hk
  · exact rthere_neg k w b g cap hk
  · exact rthere_far k w b g cap hk
theorem rthere_in (k : Nat) (w : World) (b : Bd) (g cap : Nat) (hk : k < b.l.length) :
    Calls Try.prog 32 #[refV b g cap, .int .i64 k] w fun e w' => e = .returned (.bool true) ∧ Below w.heap.size w w' := by
  go_enter Try.func32, Try.ntmps32
  go_wp2
  go_ret
  exact ⟨rfl, (Below.refl _ _).alloc (Nat.le_refl _) _⟩
theorem rlocal_not (k : Int) (w : World) (b : Bd) (g cap : Nat) (hk : NotP b k) :
    Calls Try.prog 36 #[refV b g cap, .int .i64 k] w fun e w' => e = .returned (.int .i64 0) ∧ Below w.heap.size w w' := by
  go_enter Try.func36, Try.ntmps36
  go_wp2_with fail
  refine (rthere_not _ _ _ _ _ hk).mono ?_
  rintro e w1 ⟨rfl, hb⟩
  go_wp2
  go_ret
  exact ⟨rfl, below_trans ((Below.refl _ _).alloc (Nat.le_refl _) _) hb (by simp)⟩
theorem rlocal_in (k : Nat) (o : Int) (w : World) (b : Bd) (g cap : Nat) (h : RefB w b g cap) (hk : b.l[k]? = some o) :
    Calls Try.prog 36 #[refV b g cap, .int .i64 k] w fun e w' => e = .returned (.int .i64 o) ∧ Below w.heap.size w w' := by
  have hc := h.cell k o hk
  have hkl := (List.getElem?_eq_some_iff.1 hk).1
  have hi := h.hi
  have hg := h.lt
  have HC := Lib.hid hc
  have HR := Lib.hid h
  clear h hk hc
  go_enter Try.func36, Try.ntmps36
  go_wp2_with fail
  refine (rthere_in _ _ _ _ _ hkl).mono ?_
  rintro e w1 ⟨rfl, hb⟩
  have hx : w1.heap[w.heap.size]? = some (.cells #[.int .i64 b.q, .int .i64 b.s, .int .i64 b.pool, .int .i64 b.spent, .slice (some ⟨g, 0, none⟩) b.l.length cap] 46 (0, 0)) := by
    rw [hb.block w.heap.size (by simp)]; exact heap_alloc_new w _
  have x4 : w1.cell? ⟨w.heap.size, 4, none⟩ = some (.slice (some ⟨g, 0, none⟩) b.l.length cap) := by simp [World.cell?, hx]
  have hsz := hb.size
  simp only [World.size_alloc] at hsz
  have hc : w1.cell? ⟨g, k, none⟩ = some (.int .i64 o) := by
    rw [hb.cell (p := ⟨g, k, none⟩) (by simp; omega), ← HC.out]
    exact ((Below.refl w.heap.size w).alloc (Nat.le_refl _) _).cell (p := ⟨g, k, none⟩) hg
  have hsz1 : w.heap.size < w1.heap.size := by omega
  have hsz2 : g < w1.heap.size := by omega
  have HB := Lib.hid (below_trans ((Below.refl w.heap.size w).alloc (Nat.le_refl _) (.cells #[.int .i64 b.q, .int .i64 b.s, .int .i64 b.pool, .int .i64 b.spent, .slice (some ⟨g, 0, none⟩) b.l.length cap] 46)) hb (by simp))
  clear hb hx hsz
  go_wp2
  go_ret
  exact ⟨rfl, HB.out⟩
set_option maxHeartbeats 1000000 in
theorem rwith_any (k : Nat) (m : Int) (w : World) (b : Bd) (g cap : Nat) (h : RefB w b g cap) (hk : k < b.l.length) :
    Calls Try.prog 33 #[refV b g cap, .int .i64 k, .int .i64 m] w fun e w' => ∃ g' cap', e = .returned (refV { b with l := b.l.set k m } g' cap') ∧ RefB w' { b with l := b.l.set k m } g' cap' ∧ Below w.heap.size w w' := by
  obtain ⟨i0, hi, hq0, hq1, hq2⟩ := info_parts info_int64
  have hhi := h.hi
  have hg := h.lt
  have HR := Lib.hid h
  clear h
  go_enter Try.func33, Try.ntmps33
  go_wp2_with (at_builtin; go_loud (refine wpList_append_row rfl _ _ 40 rfl (w.heap.size + 2) 2 i0 (.int .i64 0) 1 8 Try.underlying40 hi hq0 hq1 hq2 rfl (by decide) (.slice (some ⟨w.heap.size + 2, 0, none⟩) 0 0) 0 [] rfl ?c0 0 (.slice (some ⟨g, 0, none⟩) b.l.length cap) b.l.length (b.l.map (Value.int .i64)) rfl ?c1 ?c2 ?c3 ?c4 ?c5 ?_))
  case c0 => exact ownsRow_lit0 _ _ (by simp)
  case c1 => exact ((HR.out.row.alloc _).alloc _).alloc _
  case c2 => intro u hu; obtain ⟨x, _, rfl⟩ := List.mem_map.1 hu; rfl
  case c3 => unfold maxLen; omega
  case c4 => omega
  case c5 => simp
  intro v' w1 hown hgrow hnn
  obtain ⟨g1, c1, rfl⟩ := ownsRow_block hown hnn
  have hb1 := (hown.lt g1 rfl).1
  have hb2 := (hown.lt g1 rfl).2
  have hbel : Below w.heap.size w w1 := Below.grown ((((Below.refl w.heap.size w).alloc (Nat.le_refl _) _).alloc (by simp) _).alloc (by simp; omega) _) hgrow (by simp; omega) (fun k hk => by simp [Value.ownBlock] at hk; omega)
  have hx0 : w1.heap[w.heap.size]? = some (.cells #[.int .i64 b.q, .int .i64 b.s, .int .i64 b.pool, .int .i64 b.spent, .slice (some ⟨g, 0, none⟩) b.l.length cap] 46 (0, 0)) := by
    rw [hgrow.block w.heap.size (by simp; omega) (by simp [Value.ownBlock]), Below.heap_alloc _ _ _ (by simp; omega), Below.heap_alloc _ _ _ (by simp)]; exact heap_alloc_new w _
  have hx1 : w1.heap[w.heap.size + 1]? = some (.cells #[.int .i64 0, .int .i64 0, .int .i64 0, .int .i64 0, .slice none 0 0] 46 (0, 0)) := by
    rw [hgrow.block (w.heap.size + 1) (by simp) (by simp [Value.ownBlock]), Below.heap_alloc _ _ _ (by simp)]
    have := heap_alloc_new (w.alloc (.cells #[.int .i64 b.q, .int .i64 b.s, .int .i64 b.pool, .int .i64 b.spent, .slice (some ⟨g, 0, none⟩) b.l.length cap] 46)) (.cells #[.int .i64 0, .int .i64 0, .int .i64 0, .int .i64 0, .slice none 0 0] 46)
    simpa using this
  have d4 : w1.cell? ⟨w.heap.size, 4, none⟩ = some (.slice (some ⟨g, 0, none⟩) b.l.length cap) := by simp [World.cell?, hx0]
  have f4 : w1.frozen? ⟨w.heap.size, 4, none⟩ = false := by simp [World.frozen?, hx0]
  have HO := Lib.hid hown; have HBel := Lib.hid hbel; have HX0 := Lib.hid hx0; have HX1 := Lib.hid hx1
  clear hown hgrow hnn hbel hx0 hx1
  go_upto_region 2 with (fail)
  clear d4 f4
  obtain ⟨w2, hw2⟩ : ∃ w2, w2 = w1.setCell ⟨w.heap.size, 4, none⟩ (.slice (some ⟨g1, 0, none⟩) b.l.length c1) := ⟨_, rfl⟩
  rw [← hw2]
  have hs2 : w2.heap.size = w1.heap.size := by rw [hw2]; simp
  have hx0 : w2.heap[w.heap.size]? = some (.cells #[.int .i64 b.q, .int .i64 b.s, .int .i64 b.pool, .int .i64 b.spent, .slice (some ⟨g1, 0, none⟩) b.l.length c1] 46 (0, 0)) := by rw [hw2, heap_set_same HX0.out]; rfl
  have hx1 : w2.heap[w.heap.size + 1]? = some (.cells #[.int .i64 0, .int .i64 0, .int .i64 0, .int .i64 0, .slice none 0 0] 46 (0, 0)) := by rw [hw2, Below.heap_setCell _ _ _ _ (by exact fun e => by simp at e)]; exact HX1.out
  have ho2 : w2.ownsRow (w.heap.size + 2) 2 1 (.slice (some ⟨g1, 0, none⟩) b.l.length c1) b.l.length (b.l.map (Value.int .i64)) := by
    rw [hw2]
    exact row_other HO.out (by simp [Value.ownBlock]; omega)
  have HB2 : Hid (Below w.heap.size w w2) := Lib.hid (by rw [hw2]; exact HBel.out.setCell (Nat.le_refl _) _)
  have q0 : w2.cell? ⟨w.heap.size, 0, none⟩ = some (.int .i64 b.q) := by simp [World.cell?, hx0]
  have q1 : w2.cell? ⟨w.heap.size, 1, none⟩ = some (.int .i64 b.s) := by simp [World.cell?, hx0]
  have q2 : w2.cell? ⟨w.heap.size, 2, none⟩ = some (.int .i64 b.pool) := by simp [World.cell?, hx0]
  have q3 : w2.cell? ⟨w.heap.size, 3, none⟩ = some (.int .i64 b.spent) := by simp [World.cell?, hx0]
  have q4 : w2.cell? ⟨w.heap.size, 4, none⟩ = some (.slice (some ⟨g1, 0, none⟩) b.l.length c1) := by simp [World.cell?, hx0]
  have r0 : w2.cell? ⟨w.heap.size + 1, 0, none⟩ = some (.int .i64 0) := by simp [World.cell?, hx1]
  have r1 : w2.cell? ⟨w.heap.size + 1, 1, none⟩ = some (.int .i64 0) := by simp [World.cell?, hx1]
  have r2 : w2.cell? ⟨w.heap.size + 1, 2, none⟩ = some (.int .i64 0) := by simp [World.cell?, hx1]
  have r3 : w2.cell? ⟨w.heap.size + 1, 3, none⟩ = some (.int .i64 0) := by simp [World.cell?, hx1]
  have r4 : w2.cell? ⟨w.heap.size + 1, 4, none⟩ = some (.slice none 0 0) := by simp [World.cell?, hx1]
  have rf : ∀ j, w2.frozen? ⟨w.heap.size + 1, j, none⟩ = false := by intro j; simp [World.frozen?, hx1]
  have hgk : w2.cell? ⟨g1, k, none⟩ = some (.int .i64 b.l[k]) := by
    rw [ho2.cellAt k (by omega), List.getElem?_map, List.getElem?_eq_getElem hk]; rfl
  have hgf := ho2.frozenAt k
  have hsz1 : w.heap.size + 1 < w2.heap.size := by omega
  have hsz2 : g1 < w2.heap.size := by omega
  have hn1 : g1 ≠ w.heap.size := by omega
  have hn2 : g1 ≠ w.heap.size + 1 := by omega
  have HO2 := Lib.hid (ho2.stored k (.int .i64 m)).1
  clear hw2 hs2 hx0 hx1 ho2
  go_wp2
  refine bodyPost_ret (v := refV { b with l := b.l.set k m } g1 c1) (by simp [results, Try.results33, go_sem, r0, r1, r2, r3, r4]) rfl ⟨g1, c1, rfl, ?_, ?_⟩
  · have h0 := HO2.out
    rw [← List.map_set] at h0
    have hne : (Value.slice (some ⟨g1, 0, none⟩) b.l.length c1).ownBlock ≠ some (w.heap.size + 1) := by simp [Value.ownBlock]; omega
    have h1 := row_base (row_other (o := 4) (u := .slice (some ⟨g1, 0, none⟩) b.l.length c1) (row_other (o := 3) (u := .int .i64 b.spent) (row_other (o := 2) (u := .int .i64 b.pool) (row_other (o := 1) (u := .int .i64 b.s) (row_other (o := 0) (u := .int .i64 b.q) h0 hne) hne) hne) hne) hne) (Nat.zero_le _)
    exact ⟨by simpa using h1, by rw [List.length_set]; omega, by simpa using hhi⟩
  · exact ((((((HB2.out.setCell (by show w.heap.size ≤ g1; omega) _).setCell (by simp) _).setCell (by simp) _).setCell (by simp) _).setCell (by simp) _).setCell (by simp) _)
end Go.Proofs.Ytbhiinodejhggaa
