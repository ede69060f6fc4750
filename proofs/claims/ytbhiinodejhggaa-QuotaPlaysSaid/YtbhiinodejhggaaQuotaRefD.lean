/- Contracts of the document's answer, package doleref12: Return, Refill, Charge. Conditions: the band is told by value, its local times in a row of their own. -/
import Derived.Test.YtbhiinodejhggaaQuotaRefC
import Derived.Test.YtbhiinodejhggaaSat
namespace Go.Proofs.Ytbhiinodejhggaa
open Go Go.RowKit Go.ChangeShapes Go.WideShapes
set_option linter.unusedVariables false

theorem refadd_yes (a b : Int) (w : World) (ha : -9223372036854775808 ≤ a ∧ a ≤ 9223372036854775807) (hb : -9223372036854775808 ≤ b ∧ b ≤ 9223372036854775807) (h : -9223372036854775808 ≤ a + b ∧ a + b ≤ 9223372036854775807) :
    Calls Try.prog 40 #[.int .i64 a, .int .i64 b] w fun e w' => e = .returned (.tuple #[.int .i64 (a + b), .bool true]) ∧ w = w' := by
  rcases Int.lt_trichotomy b 0 with hs | rfl | hs
  · have ht : ¬ a < -9223372036854775808 - b := by omega
    go_enter Try.func40, Try.ntmps40
    go_wp2
    go_ret2
    exact ⟨rfl, rfl⟩
  · go_enter Try.func40, Try.ntmps40
    go_wp2
    go_ret2
    exact ⟨by simp, rfl⟩
  · have ht : ¬ 9223372036854775807 - b < a := by omega
    go_enter Try.func40, Try.ntmps40
    go_wp2
    go_ret2
    exact ⟨rfl, rfl⟩
theorem refsat_yes (a b : Int) (w : World) (ha : -9223372036854775808 ≤ a ∧ a ≤ 9223372036854775807) (hb : -9223372036854775808 ≤ b ∧ b ≤ 9223372036854775807) (h : -9223372036854775808 ≤ a + b ∧ a + b ≤ 9223372036854775807) :
    Calls Try.prog 35 #[.int .i64 a, .int .i64 b] w fun e w' => e = .returned (.int .i64 (a + b)) ∧ w = w' := by
  go_enter Try.func35, Try.ntmps35
  go_wp2_with (go_at_call 40; refine (refadd_yes _ _ _ ha hb h).mono ?_; rintro e w' ⟨rfl, rfl⟩)
  go_ret
  exact ⟨rfl, rfl⟩

theorem rreturn_free (k : Int) (w : World) (b : Bd) (g cap : Nat) (hq : b.q = 0) :
    Calls Try.prog 27 #[refV b g cap, .int .i64 k] w fun e w' => e = .returned (refV b g cap) ∧ Below w.heap.size w w' := by
  have hqb : (b.q == 0) = true := beq_iff_eq.2 hq
  clear hq
  go_enter Try.func27, Try.ntmps27
  go_wp2
  refine bodyPost_ret (v := refV b g cap) (by simp [results, Try.results27, go_sem]) rfl ⟨rfl, ?_⟩
  exact (below_alloc _ _).alloc (by simp) _
theorem rreturn_not (k : Int) (w : World) (b : Bd) (g cap : Nat) (h : RefB w b g cap) (hq : 0 < b.q) (hk : NotP b k) :
    Calls Try.prog 27 #[refV b g cap, .int .i64 k] w fun e w' => e = .returned (refV b g cap) ∧ Below w.heap.size w w' := by
  have hqb : (b.q == 0) = false := beq_eq_false_iff_ne.2 (by omega)
  have HR := Lib.hid h
  clear h
  go_enter Try.func27, Try.ntmps27
  go_wp2_with fail
  refine (rthere_not _ _ _ _ _ hk).mono ?_
  rintro e w1 ⟨rfl, hb⟩
  have HB := Lib.hid (below_trans (((Below.refl w.heap.size w).alloc (Nat.le_refl _) _).alloc (by simp) _) hb (by simp; omega))
  have X0 := Lib.hid (((Bx.new w (bcells b g cap)).alloc (.cells zcells 46)).behind hb)
  have X1 := Lib.hid ((Bx.new1 w (.cells (bcells b g cap) 46) zcells).behind hb)
  have HR1 := Lib.hid (HR.out.behind HB.out)
  clear hb
  obtain ⟨q0, q1, q2, q3, q4⟩ := X0.out.c5
  obtain ⟨z0, z1, z2, z3, z4⟩ := X1.out.c5
  have f0 := X0.out.frz
  have f1 := X1.out.frz
  have l0 := X0.out.lt
  have l1 := X1.out.lt
  go_wp2
  refine bodyPost_ret (v := refV b g cap) (by simp [results, Try.results27, go_sem, z0, z1, z2, z3, z4]) rfl ⟨rfl, ?_⟩
  repeat (first | exact HB.out | refine Below.setCell ?_ (by simp) _ | apply below_drewN)
theorem rreturn_neg (k : Nat) (o : Int) (w : World) (b : Bd) (g cap : Nat) (h : RefB w b g cap) (hq : 0 < b.q) (hk : b.l[k]? = some o) (ho : o ≤ 0) :
    Calls Try.prog 27 #[refV b g cap, .int .i64 k] w fun e w' => e = .returned (refV b g cap) ∧ Below w.heap.size w w' := by
  have hqb : (b.q == 0) = false := beq_eq_false_iff_ne.2 (by omega)
  have hkl := (List.getElem?_eq_some_iff.1 hk).1
  have hhi := h.hi
  have HR := Lib.hid h
  have HK := Lib.hid hk
  clear h hk
  go_enter Try.func27, Try.ntmps27
  go_wp2_with fail
  refine (rthere_in _ _ _ _ _ hkl).mono ?_
  rintro e w1 ⟨rfl, hb⟩
  have HB := Lib.hid (below_trans (((Below.refl w.heap.size w).alloc (Nat.le_refl _) _).alloc (by simp) _) hb (by simp; omega))
  have X0 := Lib.hid (((Bx.new w (bcells b g cap)).alloc (.cells zcells 46)).behind hb)
  have X1 := Lib.hid ((Bx.new1 w (.cells (bcells b g cap) 46) zcells).behind hb)
  have HR1 := Lib.hid (HR.out.behind HB.out)
  clear hb
  obtain ⟨q0, q1, q2, q3, q4⟩ := X0.out.c5
  obtain ⟨z0, z1, z2, z3, z4⟩ := X1.out.c5
  have f0 := X0.out.frz
  have f1 := X1.out.frz
  have l0 := X0.out.lt
  have l1 := X1.out.lt
  have hgk := HR1.out.cell k o HK.out
  have hz2 := HR1.out.lt
  go_wp2
  refine bodyPost_ret (v := refV b g cap) (by simp [results, Try.results27, go_sem, z0, z1, z2, z3, z4]) rfl ⟨rfl, ?_⟩
  repeat (first | exact HB.out | refine Below.setCell ?_ (by simp) _ | apply below_drewN)
set_option maxHeartbeats 2000000 in
theorem rreturn_pos (k : Nat) (o : Int) (w : World) (b : Bd) (g cap : Nat) (h : RefB w b g cap) (hs : b.Small) (hq : 0 < b.q) (hk : b.l[k]? = some o) (ho : 0 < o) :
    Calls Try.prog 27 #[refV b g cap, .int .i64 k] w fun e w' => ∃ g' cap', e = .returned (refV { b with pool := b.pool + o, l := b.l.set k 0 } g' cap') ∧ RefB w' { b with pool := b.pool + o, l := b.l.set k 0 } g' cap' ∧ Below w.heap.size w w' := by
  have hqb : (b.q == 0) = false := beq_eq_false_iff_ne.2 (by omega)
  have hkl := (List.getElem?_eq_some_iff.1 hk).1
  have hhi := h.hi
  obtain ⟨o1, o2⟩ := hs.loc hk
  obtain ⟨p1, p2⟩ := hs.pool
  have HR := Lib.hid h
  have HK := Lib.hid hk
  clear h hk
  go_enter Try.func27, Try.ntmps27
  go_wp2_with fail
  refine (rthere_in _ _ _ _ _ hkl).mono ?_
  rintro e w1 ⟨rfl, hb⟩
  have HB := Lib.hid (below_trans (((Below.refl w.heap.size w).alloc (Nat.le_refl _) _).alloc (by simp) _) hb (by simp; omega))
  have X0 := Lib.hid (((Bx.new w (bcells b g cap)).alloc (.cells zcells 46)).behind hb)
  have X1 := Lib.hid ((Bx.new1 w (.cells (bcells b g cap) 46) zcells).behind hb)
  have HR1 := Lib.hid (HR.out.behind HB.out)
  clear hb
  obtain ⟨q0, q1, q2, q3, q4⟩ := X0.out.c5
  obtain ⟨z0, z1, z2, z3, z4⟩ := X1.out.c5
  have f0 := X0.out.frz
  have f1 := X1.out.frz
  have l0 := X0.out.lt
  have l1 := X1.out.lt
  have hgk := HR1.out.cell k o HK.out
  have hz2 := HR1.out.lt
  go_wp2
  obtain ⟨w2, hw2⟩ : ∃ w2, w2 = w1.drew := ⟨_, rfl⟩
  have X2 : Hid (Bx w2 w.heap.size (bcells b g cap)) := Lib.hid (by rw [hw2]; exact X0.out)
  have X3 : Hid (Bx w2 (w.heap.size + 1) zcells) := Lib.hid (by rw [hw2]; exact X1.out)
  have HR2 : Hid (RefB w2 b g cap) := Lib.hid (by rw [hw2]; exact HR1.out.drew)
  have HB2 : Hid (Below w.heap.size w w2) := Lib.hid (by rw [hw2]; exact below_drew HB.out)
  clear q0 q1 q2 q3 q4 z0 z1 z2 z3 z4 f0 f1 l0 l1 hgk hz2
  refine wp_still_tail 9 (by kernel_rfl) (by kernel_rfl) w2 hw2 ?_
  clear hw2
  obtain ⟨q0, q1, q2, q3, q4⟩ := X2.out.c5
  have f0 := X2.out.frz
  have l0 := X2.out.lt
  have hgk := HR2.out.cell k o HK.out
  have hz2 := HR2.out.lt
  simp only [List.take_succ_cons, List.take_zero, List.drop_succ_cons, List.drop_zero]
  repeat still_step
  refine wpStill_nil ?_
  go_wp2_with fail
  have HR3 : Hid (RefB (w2.setCell ⟨w.heap.size, 2, none⟩ (.int .i64 (b.pool + o))) { b with pool := b.pool + o } g cap) := Lib.hid ⟨(HR2.out.far X2.out 2 _).row, HR2.out.lo, HR2.out.hi⟩
  refine (rwith_any k 0 _ { b with pool := b.pool + o } g cap HR3.out hkl).mono ?_
  rintro e w3 ⟨g', cap', rfl, hr3, hb3⟩
  have X4 := Lib.hid ((X3.out.far (c := w.heap.size) (o := 2) (u := .int .i64 (b.pool + o)) (by omega)).behind hb3)
  have HR4 := Lib.hid hr3
  have HB4 := Lib.hid (below_trans (HB2.out.setCell (p := ⟨w.heap.size, 2, none⟩) (Nat.le_refl _) (.int .i64 (b.pool + o))) hb3 (by simpa using HB2.out.size))
  clear hb3 hr3 q0 q1 q2 q3 q4 f0 l0 hgk hz2
  obtain ⟨z0, z1, z2, z3, z4⟩ := X4.out.c5
  have f1 := X4.out.frz
  have l1 := X4.out.lt
  go_wp2
  refine bodyPost_ret (v := refV { b with pool := b.pool + o, l := b.l.set k 0 } g' cap') (by simp [results, Try.results27, go_sem, z0, z1, z2, z3, z4]) rfl ⟨g', cap', rfl, ?_, ?_⟩
  · exact ((((HR4.out.far X4.out 0 _).far (X4.out.set _) 1 _).far ((X4.out.set _).set _) 2 _).far (((X4.out.set _).set _).set _) 3 _).far ((((X4.out.set _).set _).set _).set _) 4 _
  · repeat (first | exact HB4.out | refine Below.setCell ?_ (by simp) _)
end Go.Proofs.Ytbhiinodejhggaa
