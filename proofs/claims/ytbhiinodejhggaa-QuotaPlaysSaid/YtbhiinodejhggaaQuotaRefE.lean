/- Contracts of the document's answer, package doleref12: Ensure. Conditions: the band is told by value, its local times in a row of their own. -/
import Derived.Test.YtbhiinodejhggaaQuotaRef
import Derived.StillTailTactics
namespace Go.Proofs.Ytbhiinodejhggaa
open Go Go.RowKit Go.ChangeShapes Go.WideShapes
set_option linter.unusedVariables false

theorem wp_still_tail {P : Program} {id : Nat} {Q : Exit → Act → World → Prop} {a : Act} {w : World} {l : List Oper} (n : Nat) (hm : P.follows .mixedOrders = true) (hB : Region.lexTailB .any l.toArray n = true) (w2 : World) (hw : w2 = w.drew)
    (h : wpStill P l.toArray w2 (fun a' => wpList P l.toArray Q (l.drop n) a' w2) (l.take n) a) : (Code.region id l.toArray true).wp P Q a w := by
  subst hw
  exact wp_region_still_tail n hm hB h
theorem below_drew {B : Nat} {a w : World} (h : Below B a w) : Below B a w.drew := ⟨h.os, h.tape, h.output, h.size, h.block⟩
/-- a box of a band -/
def Bx (w : World) (p : Nat) (cs : Array Value) : Prop := w.heap[p]? = some (.cells cs 46 (0, 0))
abbrev bcells (b : Bd) (g cap : Nat) : Array Value := #[.int .i64 b.q, .int .i64 b.s, .int .i64 b.pool, .int .i64 b.spent, .slice (some ⟨g, 0, none⟩) b.l.length cap]
abbrev zcells : Array Value := #[.int .i64 0, .int .i64 0, .int .i64 0, .int .i64 0, .slice none 0 0]
theorem Bx.new (w : World) (cs : Array Value) : Bx (w.alloc (.cells cs 46)) w.heap.size cs := heap_alloc_new w _
theorem Bx.new1 (w : World) (o : Obj) (cs : Array Value) : Bx ((w.alloc o).alloc (.cells cs 46)) (w.heap.size + 1) cs := by
  have := heap_alloc_new (w.alloc o) (.cells cs 46)
  rw [show (w.alloc o).heap.size = w.heap.size + 1 by simp] at this
  exact this
theorem Bx.lt {w : World} {p : Nat} {cs : Array Value} (h : Bx w p cs) : p < w.heap.size := (Array.getElem?_eq_some_iff.1 h).1
theorem Bx.alloc {w : World} {p : Nat} {cs : Array Value} (h : Bx w p cs) (o : Obj) : Bx (w.alloc o) p cs := by unfold Bx; rw [Below.heap_alloc w o p h.lt]; exact h
theorem Bx.behind {w w' : World} {p : Nat} {cs : Array Value} (h : Bx w p cs) (hb : Below w.heap.size w w') : Bx w' p cs := by unfold Bx; rw [hb.block p h.lt]; exact h
theorem Bx.far {w : World} {p c o : Nat} {cs : Array Value} {u : Value} (h : Bx w p cs) (hne : p ≠ c) : Bx (w.setCell ⟨c, o, none⟩ u) p cs := by unfold Bx; rw [Below.heap_setCell _ _ _ _ (by exact hne)]; exact h
theorem Bx.set {w : World} {p o : Nat} {cs : Array Value} (h : Bx w p cs) (u : Value) : Bx (w.setCell ⟨p, o, none⟩ u) p (cs.setIfInBounds o u) := heap_set_same h
theorem Bx.c5 {w : World} {p : Nat} {c0 c1 c2 c3 c4 : Value} (h : Bx w p #[c0, c1, c2, c3, c4]) : w.cell? ⟨p, 0, none⟩ = some c0 ∧ w.cell? ⟨p, 1, none⟩ = some c1 ∧ w.cell? ⟨p, 2, none⟩ = some c2 ∧ w.cell? ⟨p, 3, none⟩ = some c3 ∧ w.cell? ⟨p, 4, none⟩ = some c4 := by
  unfold Bx at h
  refine ⟨?_, ?_, ?_, ?_, ?_⟩ <;> simp [World.cell?, h]
theorem Bx.frz {w : World} {p : Nat} {cs : Array Value} (h : Bx w p cs) : ∀ j, w.frozen? ⟨p, j, none⟩ = false := by
  intro j
  unfold Bx at h
  simp [World.frozen?, h]
theorem RefB.ne {w : World} {b : Bd} {g cap p : Nat} {cs : Array Value} (h : RefB w b g cap) (x : Bx w p cs) : g ≠ p := by
  rintro rfl
  rcases h.row.2 with ⟨hv, _⟩ | ⟨g', cap', cur, hv, _, hh, _⟩
  · cases hv
  · cases hv
    unfold Bx at x
    rw [x] at hh
    simp only [Option.some.injEq, Obj.cells.injEq] at hh
    exact absurd hh.2.1 (by decide)
theorem RefB.drew {w : World} {b : Bd} {g cap : Nat} (h : RefB w b g cap) : RefB w.drew b g cap := ⟨h.row, h.lo, h.hi⟩
theorem Bx.drew {w : World} {p : Nat} {cs : Array Value} (h : Bx w p cs) : Bx w.drew p cs := h
theorem RefB.far {w : World} {b : Bd} {g cap p : Nat} {cs : Array Value} (h : RefB w b g cap) (x : Bx w p cs) (o : Nat) (u : Value) : RefB (w.setCell ⟨p, o, none⟩ u) b g cap :=
  ⟨row_other h.row (by have := h.ne x; simp [Value.ownBlock]; exact this), h.lo, h.hi⟩
theorem rensure_not (k : Int) (w : World) (b : Bd) (g cap : Nat) (h : RefB w b g cap) (hk : NotP b k) :
    Calls Try.prog 24 #[refV b g cap, .int .i64 k] w fun e w' => e = .returned (.tuple #[refV b g cap, .bool false]) ∧ Below w.heap.size w w' := by
  go_enter Try.func24, Try.ntmps24
  go_wp2_with fail
  refine (rthere_not _ _ _ _ _ hk).mono ?_
  rintro e w1 ⟨rfl, hb⟩
  have HB := Lib.hid (below_trans (((Below.refl w.heap.size w).alloc (Nat.le_refl _) _).alloc (by simp) _) hb (by simp; omega))
  have X0 := Lib.hid (((Bx.new w (bcells b g cap)).alloc (.cells zcells 46)).behind hb)
  have X1 := Lib.hid ((Bx.new1 w (.cells (bcells b g cap) 46) zcells).behind hb)
  clear hb
  obtain ⟨q0, q1, q2, q3, q4⟩ := X0.out.c5
  obtain ⟨z0, z1, z2, z3, z4⟩ := X1.out.c5
  have f0 := X0.out.frz
  have f1 := X1.out.frz
  have l0 := X0.out.lt
  have l1 := X1.out.lt
  go_wp2
  refine bodyPost_ret (v := .tuple #[refV b g cap, .bool false]) (by simp [results, Try.results24, go_sem, z0, z1, z2, z3, z4]) rfl ⟨rfl, ?_⟩
  repeat (first | exact HB.out | refine Below.setCell ?_ (by simp) _)
theorem rensure_free (k : Nat) (w : World) (b : Bd) (g cap : Nat) (h : RefB w b g cap) (hkl : k < b.l.length) (hq : b.q = 0) :
    Calls Try.prog 24 #[refV b g cap, .int .i64 k] w fun e w' => e = .returned (.tuple #[refV b g cap, .bool true]) ∧ Below w.heap.size w w' := by
  have hqb : (b.q == 0) = true := beq_iff_eq.2 hq
  have HR := Lib.hid h
  clear hq h
  go_enter Try.func24, Try.ntmps24
  go_wp2_with fail
  refine (rthere_in _ _ _ _ _ hkl).mono ?_
  rintro e w1 ⟨rfl, hb⟩
  have HB := Lib.hid (below_trans (((Below.refl w.heap.size w).alloc (Nat.le_refl _) _).alloc (by simp) _) hb (by simp; omega))
  have X0 := Lib.hid (((Bx.new w (bcells b g cap)).alloc (.cells zcells 46)).behind hb)
  have X1 := Lib.hid ((Bx.new1 w (.cells (bcells b g cap) 46) zcells).behind hb)
  have HR1 := Lib.hid (HR.out.behind HB.out)
  clear hb
  obtain ⟨q0, q1, q2, q3, q4⟩ := X0.out.c5
  obtain ⟨z0, z1, z2, z3, z4⟩ := X1.out.c5
  have f0 := X0.out.frz
  have f1 := X1.out.frz
  have l0 := X0.out.lt
  have l1 := X1.out.lt
  go_wp2
  refine bodyPost_ret (v := .tuple #[refV b g cap, .bool true]) (by simp [results, Try.results24, go_sem, z0, z1, z2, z3, z4]) rfl ⟨rfl, ?_⟩
  repeat (first | exact HB.out | refine Below.setCell ?_ (by simp) _ | apply below_drewN)
set_option maxHeartbeats 1000000 in
theorem rensure_has (k : Nat) (o : Int) (w : World) (b : Bd) (g cap : Nat) (h : RefB w b g cap) (hk : b.l[k]? = some o) (hq : 0 < b.q) (ho : 0 < o) :
    Calls Try.prog 24 #[refV b g cap, .int .i64 k] w fun e w' => e = .returned (.tuple #[refV b g cap, .bool true]) ∧ Below w.heap.size w w' := by
  have hqb : (b.q == 0) = false := beq_eq_false_iff_ne.2 (by omega)
  have hkl := (List.getElem?_eq_some_iff.1 hk).1
  have hhi := h.hi
  have HR := Lib.hid h
  have HK := Lib.hid hk
  clear h hk
  go_enter Try.func24, Try.ntmps24
  go_wp2_with fail
  refine (rthere_in _ _ _ _ _ hkl).mono ?_
  rintro e w1 ⟨rfl, hb⟩
  have HB := Lib.hid (below_trans (((Below.refl w.heap.size w).alloc (Nat.le_refl _) _).alloc (by simp) _) hb (by simp; omega))
  have X0 := Lib.hid (((Bx.new w (bcells b g cap)).alloc (.cells zcells 46)).behind hb)
  have X1 := Lib.hid ((Bx.new1 w (.cells (bcells b g cap) 46) zcells).behind hb)
  have HR1 := Lib.hid (HR.out.behind HB.out)
  clear hb
  obtain ⟨q0, q1, q2, q3, q4⟩ := X0.out.c5
  obtain ⟨z0, z1, z2, z3, z4⟩ := X1.out.c5
  have f0 := X0.out.frz
  have f1 := X1.out.frz
  have l0 := X0.out.lt
  have l1 := X1.out.lt
  have hg := HR.out.lt
  have hgk := HR1.out.cell k o HK.out
  have hz2 := HR1.out.lt
  go_wp2
  go_region
  all_goals
    go_wp2
    refine bodyPost_ret (v := .tuple #[refV b g cap, .bool true]) (by simp [results, Try.results24, go_sem, z0, z1, z2, z3, z4]) rfl ⟨rfl, ?_⟩
    repeat (first | exact HB.out | refine Below.setCell ?_ (by simp) _ | apply below_drewN)
theorem take_lt {b : Bd} {o : Int} (h : b.pool < b.s - o) : b.take o = b.pool := by unfold Bd.take; omega
theorem take_ge {b : Bd} {o : Int} (h : ¬ b.pool < b.s - o) : b.take o = b.s - o := by unfold Bd.take; omega
set_option maxHeartbeats 4000000 in
theorem rensure_take (k : Nat) (o : Int) (w : World) (b : Bd) (g cap : Nat) (h : RefB w b g cap) (hs : b.Small) (hk : b.l[k]? = some o) (hq : 0 < b.q) (ho : o ≤ 0) :
    Calls Try.prog 24 #[refV b g cap, .int .i64 k] w fun e w' => ∃ g' cap', e = .returned (.tuple #[refV (b.taken k o) g' cap', .bool (decide (0 < o + b.take o))]) ∧ RefB w' (b.taken k o) g' cap' ∧ Below w.heap.size w w' := by
  have hqb : (b.q == 0) = false := beq_eq_false_iff_ne.2 (by omega)
  have hkl := (List.getElem?_eq_some_iff.1 hk).1
  have hhi := h.hi
  obtain ⟨o1, o2⟩ := hs.loc hk
  obtain ⟨s1, s2⟩ := hs.s
  obtain ⟨p1, p2⟩ := hs.pool
  have HR := Lib.hid h
  have HK := Lib.hid hk
  clear h hk
  by_cases hm : b.pool < b.s - o
  · have HT := Lib.hid (take_lt hm)
    go_enter Try.func24, Try.ntmps24
    go_wp2_with fail
    refine (rthere_in _ _ _ _ _ hkl).mono ?_
    rintro e w1 ⟨rfl, hb⟩
    have HB := Lib.hid (below_trans (((Below.refl w.heap.size w).alloc (Nat.le_refl _) _).alloc (by simp) _) hb (by simp; omega))
    have X0 := Lib.hid (((Bx.new w (bcells b g cap)).alloc (.cells zcells 46)).behind hb)
    have X1 := Lib.hid ((Bx.new1 w (.cells (bcells b g cap) 46) zcells).behind hb)
    have HR1 := Lib.hid (HR.out.behind HB.out)
    clear hb
    obtain ⟨q0, q1, q2, q3, q4⟩ := X0.out.c5
    obtain ⟨z0, z1, z2, z3, z4⟩ := X1.out.c5
    have f0 := X0.out.frz
    have f1 := X1.out.frz
    have l0 := X0.out.lt
    have l1 := X1.out.lt
    have hg := HR.out.lt
    have hgk := HR1.out.cell k o HK.out
    have hz2 := HR1.out.lt
    go_wp2
    go_quiet (fail)
    go_wp2
    have HB2 := Lib.hid (below_drewN HB.out (nq + 1))
    obtain ⟨w2, hw2⟩ : ∃ w2, w2 = (w1.drewN nq).drew := ⟨_, rfl⟩
    have X2 : Hid (Bx w2 w.heap.size (bcells b g cap)) := Lib.hid (by rw [hw2]; exact X0.out)
    have X3 : Hid (Bx w2 (w.heap.size + 1) zcells) := Lib.hid (by rw [hw2]; exact X1.out)
    have HR2 : Hid (RefB w2 b g cap) := Lib.hid (by rw [hw2]; exact ⟨HR1.out.row, HR1.out.lo, HR1.out.hi⟩)
    have HB2 : Hid (Below w.heap.size w w2) := Lib.hid (by rw [hw2]; exact below_drewN HB.out (nq + 1))
    clear q0 q1 q2 q3 q4 z0 z1 z2 z3 z4 f0 f1 l0 l1 hgk hz2
    obtain ⟨q0, q1, q2, q3, q4⟩ := X2.out.c5
    have f0 := X2.out.frz
    have l0 := X2.out.lt
    have l1 := X3.out.lt
    have hgk := HR2.out.cell k o HK.out
    have hz2 := HR2.out.lt
    refine wp_still_tail 9 (by kernel_rfl) (by kernel_rfl) w2 hw2 ?_
    clear hw2
    simp only [List.take_succ_cons, List.take_zero, List.drop_succ_cons, List.drop_zero]
    repeat still_step
    refine wpStill_nil ?_
    go_wp2_with fail
    refine (rwith_any k _ _ _ _ _ HR2.out hkl).mono ?_
    rintro e w3 ⟨g', cap', rfl, hr3, hb3⟩
    have X4 := Lib.hid (X2.out.behind hb3)
    have X5 := Lib.hid (X3.out.behind hb3)
    have HR4 := Lib.hid hr3
    have HB4 := Lib.hid (below_trans HB2.out hb3 HB2.out.size)
    clear hb3 hr3 q0 q1 q2 q3 q4 f0 l0 l1 hgk hz2
    obtain ⟨q0, q1, q2, q3, q4⟩ := X4.out.c5
    have f0 := X4.out.frz
    have l0 := X4.out.lt
    go_upto_region 10 with (fail)
    obtain ⟨w4, hw4⟩ : ∃ w4, w4 = (((((w3.setCell ⟨w.heap.size, 0, none⟩ (.int .i64 b.q)).setCell ⟨w.heap.size, 1, none⟩ (.int .i64 b.s)).setCell ⟨w.heap.size, 2, none⟩ (.int .i64 b.pool)).setCell ⟨w.heap.size, 3, none⟩ (.int .i64 b.spent)).setCell ⟨w.heap.size, 4, none⟩ (.slice (some ⟨g', 0, none⟩) b.l.length cap')) := ⟨_, rfl⟩
    rw [← hw4]
    have X6 : Hid (Bx w4 w.heap.size #[.int .i64 b.q, .int .i64 b.s, .int .i64 b.pool, .int .i64 b.spent, .slice (some ⟨g', 0, none⟩) b.l.length cap']) := Lib.hid (by rw [hw4]; exact ((((X4.out.set _).set _).set _).set _).set _)
    have X7 : Hid (Bx w4 (w.heap.size + 1) zcells) := Lib.hid (by rw [hw4]; exact ((((X5.out.far (by omega)).far (by omega)).far (by omega)).far (by omega)).far (by omega))
    have HR6 := Lib.hid (((((HR4.out.far X4.out 0 (.int .i64 b.q)).far ((X4.out.set _)) 1 (.int .i64 b.s)).far ((X4.out.set _).set _) 2 (.int .i64 b.pool)).far (((X4.out.set _).set _).set _) 3 (.int .i64 b.spent)).far ((((X4.out.set _).set _).set _).set _) 4 (.slice (some ⟨g', 0, none⟩) b.l.length cap'))
    rw [← hw4] at HR6
    have HB6 : Hid (Below w.heap.size w w4) := Lib.hid (by rw [hw4]; exact ((((HB4.out.setCell (Nat.le_refl _) _).setCell (Nat.le_refl _) _).setCell (Nat.le_refl _) _).setCell (Nat.le_refl _) _).setCell (Nat.le_refl _) _)
    clear hw4 q0 q1 q2 q3 q4 f0 l0
    obtain ⟨q0, q1, q2, q3, q4⟩ := X6.out.c5
    have f0 := X6.out.frz
    have l0 := X6.out.lt
    go_upto_region 11 with (fail)
    clear q0 q1 q2 q3 q4 f0 l0
    obtain ⟨w5, hw5⟩ : ∃ w5, w5 = w4.setCell ⟨w.heap.size, 2, none⟩ (.int .i64 0) := ⟨_, rfl⟩
    rw [← hw5]
    obtain ⟨b5, hb5⟩ : ∃ b5 : Bd, b5 = ⟨b.q, b.s, 0, b.spent, b.l.set k (o + b.pool)⟩ := ⟨_, rfl⟩
    have X2x : Hid (Bx w5 w.heap.size #[.int .i64 b.q, .int .i64 b.s, .int .i64 0, .int .i64 b.spent, .slice (some ⟨g', 0, none⟩) b.l.length cap']) := Lib.hid (by rw [hw5]; exact X6.out.set _)
    have X3x : Hid (Bx w5 (w.heap.size + 1) zcells) := Lib.hid (by rw [hw5]; exact X7.out.far (by omega))
    have HR2x : Hid (RefB w5 b5 g' cap') := Lib.hid (by
      have := HR6.out.far X6.out 2 (.int .i64 0)
      rw [hw5, hb5]; exact ⟨this.row, this.lo, this.hi⟩)
    have HB2x : Hid (Below w.heap.size w w5) := Lib.hid (by rw [hw5]; exact HB6.out.setCell (Nat.le_refl _) _)
    have HKx : Hid (b5.l[k]? = some (o + b.pool)) := Lib.hid (by rw [hb5]; exact List.getElem?_set_self hkl)
    have HE : Hid (b.taken k o = b5) := Lib.hid (by rw [hb5]; unfold Bd.taken; first | (rw [HT.out]; done) | (rw [HT.out]; simp))
    have HLx : Hid (b5.l.length = b.l.length) := Lib.hid (by rw [hb5]; simp)
    have HV : Hid (refV b5 g' cap' = .agg #[.int .i64 b.q, .int .i64 b.s, .int .i64 0, .int .i64 b.spent, .slice (some ⟨g', 0, none⟩) b.l.length cap']) := Lib.hid (by rw [hb5]; unfold refV; simp)
    clear hw5 hb5
    have hg2 : g' < w5.heap.size := HR2x.out.lt
    have hgn2 : g' ≠ w.heap.size := HR2x.out.ne X2x.out
    have hgn3 : g' ≠ w.heap.size + 1 := HR2x.out.ne X3x.out
    have hgk2 := HR2x.out.cell k (o + b.pool) HKx.out
    obtain ⟨q0, q1, q2, q3, q4⟩ := X2x.out.c5
    obtain ⟨z0, z1, z2, z3, z4⟩ := X3x.out.c5
    have f1 := X3x.out.frz
    have l0 := X2x.out.lt
    have l1 := X3x.out.lt
    go_region
    all_goals
      go_wp2
      refine bodyPost_ret (v := .tuple #[.agg #[.int .i64 b.q, .int .i64 b.s, .int .i64 0, .int .i64 b.spent, .slice (some ⟨g', 0, none⟩) b.l.length cap'], .bool (decide (0 < o + b.pool))]) (by simp [results, Try.results24, go_sem, z0, z1, z2, z3, z4]) rfl ⟨g', cap', ?_, ?_, ?_⟩
      · rw [HT.out, HE.out, HV.out]
      · rw [HE.out]
        exact (((((HR2x.out.drew.far X3x.out.drew 0 _).far (X3x.out.drew.set _) 1 _).far ((X3x.out.drew.set _).set _) 2 _).far (((X3x.out.drew.set _).set _).set _) 3 _).far ((((X3x.out.drew.set _).set _).set _).set _) 4 _)
      · repeat (first | exact HB2x.out | refine Below.setCell ?_ (by simp) _ | apply below_drew)
  · have HT := Lib.hid (take_ge hm)
    go_enter Try.func24, Try.ntmps24
    go_wp2_with fail
    refine (rthere_in _ _ _ _ _ hkl).mono ?_
    rintro e w1 ⟨rfl, hb⟩
    have HB := Lib.hid (below_trans (((Below.refl w.heap.size w).alloc (Nat.le_refl _) _).alloc (by simp) _) hb (by simp; omega))
    have X0 := Lib.hid (((Bx.new w (bcells b g cap)).alloc (.cells zcells 46)).behind hb)
    have X1 := Lib.hid ((Bx.new1 w (.cells (bcells b g cap) 46) zcells).behind hb)
    have HR1 := Lib.hid (HR.out.behind HB.out)
    clear hb
    obtain ⟨q0, q1, q2, q3, q4⟩ := X0.out.c5
    obtain ⟨z0, z1, z2, z3, z4⟩ := X1.out.c5
    have f0 := X0.out.frz
    have f1 := X1.out.frz
    have l0 := X0.out.lt
    have l1 := X1.out.lt
    have hg := HR.out.lt
    have hgk := HR1.out.cell k o HK.out
    have hz2 := HR1.out.lt
    go_wp2
    go_quiet (fail)
    go_wp2
    have HB2 := Lib.hid (below_drewN HB.out (nq + 1))
    obtain ⟨w2, hw2⟩ : ∃ w2, w2 = (w1.drewN nq).drew := ⟨_, rfl⟩
    have X2 : Hid (Bx w2 w.heap.size (bcells b g cap)) := Lib.hid (by rw [hw2]; exact X0.out)
    have X3 : Hid (Bx w2 (w.heap.size + 1) zcells) := Lib.hid (by rw [hw2]; exact X1.out)
    have HR2 : Hid (RefB w2 b g cap) := Lib.hid (by rw [hw2]; exact ⟨HR1.out.row, HR1.out.lo, HR1.out.hi⟩)
    have HB2 : Hid (Below w.heap.size w w2) := Lib.hid (by rw [hw2]; exact below_drewN HB.out (nq + 1))
    clear q0 q1 q2 q3 q4 z0 z1 z2 z3 z4 f0 f1 l0 l1 hgk hz2
    obtain ⟨q0, q1, q2, q3, q4⟩ := X2.out.c5
    have f0 := X2.out.frz
    have l0 := X2.out.lt
    have l1 := X3.out.lt
    have hgk := HR2.out.cell k o HK.out
    have hz2 := HR2.out.lt
    refine wp_still_tail 9 (by kernel_rfl) (by kernel_rfl) w2 hw2 ?_
    clear hw2
    simp only [List.take_succ_cons, List.take_zero, List.drop_succ_cons, List.drop_zero]
    repeat still_step
    refine wpStill_nil ?_
    go_wp2_with fail
    refine (rwith_any k _ _ _ _ _ HR2.out hkl).mono ?_
    rintro e w3 ⟨g', cap', rfl, hr3, hb3⟩
    have X4 := Lib.hid (X2.out.behind hb3)
    have X5 := Lib.hid (X3.out.behind hb3)
    have HR4 := Lib.hid hr3
    have HB4 := Lib.hid (below_trans HB2.out hb3 HB2.out.size)
    clear hb3 hr3 q0 q1 q2 q3 q4 f0 l0 l1 hgk hz2
    obtain ⟨q0, q1, q2, q3, q4⟩ := X4.out.c5
    have f0 := X4.out.frz
    have l0 := X4.out.lt
    go_upto_region 10 with (fail)
    obtain ⟨w4, hw4⟩ : ∃ w4, w4 = (((((w3.setCell ⟨w.heap.size, 0, none⟩ (.int .i64 b.q)).setCell ⟨w.heap.size, 1, none⟩ (.int .i64 b.s)).setCell ⟨w.heap.size, 2, none⟩ (.int .i64 b.pool)).setCell ⟨w.heap.size, 3, none⟩ (.int .i64 b.spent)).setCell ⟨w.heap.size, 4, none⟩ (.slice (some ⟨g', 0, none⟩) b.l.length cap')) := ⟨_, rfl⟩
    rw [← hw4]
    have X6 : Hid (Bx w4 w.heap.size #[.int .i64 b.q, .int .i64 b.s, .int .i64 b.pool, .int .i64 b.spent, .slice (some ⟨g', 0, none⟩) b.l.length cap']) := Lib.hid (by rw [hw4]; exact ((((X4.out.set _).set _).set _).set _).set _)
    have X7 : Hid (Bx w4 (w.heap.size + 1) zcells) := Lib.hid (by rw [hw4]; exact ((((X5.out.far (by omega)).far (by omega)).far (by omega)).far (by omega)).far (by omega))
    have HR6 := Lib.hid (((((HR4.out.far X4.out 0 (.int .i64 b.q)).far ((X4.out.set _)) 1 (.int .i64 b.s)).far ((X4.out.set _).set _) 2 (.int .i64 b.pool)).far (((X4.out.set _).set _).set _) 3 (.int .i64 b.spent)).far ((((X4.out.set _).set _).set _).set _) 4 (.slice (some ⟨g', 0, none⟩) b.l.length cap'))
    rw [← hw4] at HR6
    have HB6 : Hid (Below w.heap.size w w4) := Lib.hid (by rw [hw4]; exact ((((HB4.out.setCell (Nat.le_refl _) _).setCell (Nat.le_refl _) _).setCell (Nat.le_refl _) _).setCell (Nat.le_refl _) _).setCell (Nat.le_refl _) _)
    clear hw4 q0 q1 q2 q3 q4 f0 l0
    obtain ⟨q0, q1, q2, q3, q4⟩ := X6.out.c5
    have f0 := X6.out.frz
    have l0 := X6.out.lt
    go_upto_region 11 with (fail)
    clear q0 q1 q2 q3 q4 f0 l0
    obtain ⟨w5, hw5⟩ : ∃ w5, w5 = w4.setCell ⟨w.heap.size, 2, none⟩ (.int .i64 (b.pool - (b.s - o))) := ⟨_, rfl⟩
    rw [← hw5]
    obtain ⟨b5, hb5⟩ : ∃ b5 : Bd, b5 = ⟨b.q, b.s, (b.pool - (b.s - o)), b.spent, b.l.set k (o + (b.s - o))⟩ := ⟨_, rfl⟩
    have X2x : Hid (Bx w5 w.heap.size #[.int .i64 b.q, .int .i64 b.s, .int .i64 (b.pool - (b.s - o)), .int .i64 b.spent, .slice (some ⟨g', 0, none⟩) b.l.length cap']) := Lib.hid (by rw [hw5]; exact X6.out.set _)
    have X3x : Hid (Bx w5 (w.heap.size + 1) zcells) := Lib.hid (by rw [hw5]; exact X7.out.far (by omega))
    have HR2x : Hid (RefB w5 b5 g' cap') := Lib.hid (by
      have := HR6.out.far X6.out 2 (.int .i64 (b.pool - (b.s - o)))
      rw [hw5, hb5]; exact ⟨this.row, this.lo, this.hi⟩)
    have HB2x : Hid (Below w.heap.size w w5) := Lib.hid (by rw [hw5]; exact HB6.out.setCell (Nat.le_refl _) _)
    have HKx : Hid (b5.l[k]? = some (o + (b.s - o))) := Lib.hid (by rw [hb5]; exact List.getElem?_set_self hkl)
    have HE : Hid (b.taken k o = b5) := Lib.hid (by rw [hb5]; unfold Bd.taken; first | (rw [HT.out]; done) | (rw [HT.out]; simp))
    have HLx : Hid (b5.l.length = b.l.length) := Lib.hid (by rw [hb5]; simp)
    have HV : Hid (refV b5 g' cap' = .agg #[.int .i64 b.q, .int .i64 b.s, .int .i64 (b.pool - (b.s - o)), .int .i64 b.spent, .slice (some ⟨g', 0, none⟩) b.l.length cap']) := Lib.hid (by rw [hb5]; unfold refV; simp)
    clear hw5 hb5
    have hg2 : g' < w5.heap.size := HR2x.out.lt
    have hgn2 : g' ≠ w.heap.size := HR2x.out.ne X2x.out
    have hgn3 : g' ≠ w.heap.size + 1 := HR2x.out.ne X3x.out
    have hgk2 := HR2x.out.cell k (o + (b.s - o)) HKx.out
    obtain ⟨q0, q1, q2, q3, q4⟩ := X2x.out.c5
    obtain ⟨z0, z1, z2, z3, z4⟩ := X3x.out.c5
    have f1 := X3x.out.frz
    have l0 := X2x.out.lt
    have l1 := X3x.out.lt
    go_region
    all_goals
      go_wp2
      refine bodyPost_ret (v := .tuple #[.agg #[.int .i64 b.q, .int .i64 b.s, .int .i64 (b.pool - (b.s - o)), .int .i64 b.spent, .slice (some ⟨g', 0, none⟩) b.l.length cap'], .bool (decide (0 < o + (b.s - o)))]) (by simp [results, Try.results24, go_sem, z0, z1, z2, z3, z4]) rfl ⟨g', cap', ?_, ?_, ?_⟩
      · rw [HT.out, HE.out, HV.out]
      · rw [HE.out]
        exact (((((HR2x.out.drew.far X3x.out.drew 0 _).far (X3x.out.drew.set _) 1 _).far ((X3x.out.drew.set _).set _) 2 _).far (((X3x.out.drew.set _).set _).set _) 3 _).far ((((X3x.out.drew.set _).set _).set _).set _) 4 _)
      · repeat (first | exact HB2x.out | refine Below.setCell ?_ (by simp) _ | apply below_drew)
end Go.Proofs.Ytbhiinodejhggaa
