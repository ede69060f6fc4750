/- Contracts of the document's answer, package doleref12: Charge. Conditions: the band is told by value, its local times in a row of their own. -/
import Derived.Test.YtbhiinodejhggaaQuotaRefG
namespace Go.Proofs.Ytbhiinodejhggaa
open Go Go.RowKit Go.ChangeShapes Go.WideShapes
set_option linter.unusedVariables false

theorem rcharge_not (k ns : Int) (w : World) (b : Bd) (g cap : Nat) (h : RefB w b g cap) (hk : NotP b k) :
    Calls Try.prog 26 #[refV b g cap, .int .i64 k, .int .i64 ns] w fun e w' => e = .returned (.tuple #[refV b g cap, .bool false, .int .i64 1]) ∧ Below w.heap.size w w' := by
  have HR := Lib.hid h
  clear h
  go_enter Try.func26, Try.ntmps26
  go_wp2_with fail
  refine (rthere_not _ _ _ _ _ hk).mono ?_
  rintro e w1 ⟨rfl, hb⟩
  have HB := Lib.hid (below_trans (((Below.refl w.heap.size w).alloc (Nat.le_refl _) _).alloc (by simp) _) hb (by simp; omega))
  have X0 := Lib.hid (((Bx.new w (bcells b g cap)).alloc (.cells zcells 46)).behind hb)
  have X1 := Lib.hid ((Bx.new1 w (.cells (bcells b g cap) 46) zcells).behind hb)
  have HR1 := Lib.hid (HR.out.behind HB.out)
  clear hb
  obtain ⟨q0, q1, q2, q3, q4⟩ := X0.out.c5
  obtain ⟨z0, z1, z2, z3, z4⟩ := X1.out.c5
  have f0 := X0.out.frz
  have f1 := X1.out.frz
  have l0 := X0.out.lt
  have l1 := X1.out.lt
  go_wp2
  refine bodyPost_ret (v := .tuple #[refV b g cap, .bool false, .int .i64 1]) (by simp [results, Try.results26, go_sem, z0, z1, z2, z3, z4]) rfl ⟨rfl, ?_⟩
  repeat (first | exact HB.out | refine Below.setCell ?_ (by simp) _ | apply below_drewN)
set_option maxHeartbeats 1000000 in
theorem rcharge_tick (k : Nat) (ns : Int) (w : World) (b : Bd) (g cap : Nat) (h : RefB w b g cap) (hk : k < b.l.length) (hn : ns < 0 ∨ 1000000000 < ns) :
    Calls Try.prog 26 #[refV b g cap, .int .i64 k, .int .i64 ns] w fun e w' => e = .returned (.tuple #[refV b g cap, .bool false, .int .i64 8]) ∧ Below w.heap.size w w' := by
  have HR := Lib.hid h
  clear h
  rcases hn with hn | hn
  all_goals
    go_enter Try.func26, Try.ntmps26
    go_wp2_with fail
    refine (rthere_in _ _ _ _ _ hk).mono ?_
    rintro e w1 ⟨rfl, hb⟩
    have HB := Lib.hid (below_trans (((Below.refl w.heap.size w).alloc (Nat.le_refl _) _).alloc (by simp) _) hb (by simp; omega))
    have X0 := Lib.hid (((Bx.new w (bcells b g cap)).alloc (.cells zcells 46)).behind hb)
    have X1 := Lib.hid ((Bx.new1 w (.cells (bcells b g cap) 46) zcells).behind hb)
    have HR1 := Lib.hid (HR.out.behind HB.out)
    clear hb
    obtain ⟨q0, q1, q2, q3, q4⟩ := X0.out.c5
    obtain ⟨z0, z1, z2, z3, z4⟩ := X1.out.c5
    have f0 := X0.out.frz
    have f1 := X1.out.frz
    have l0 := X0.out.lt
    have l1 := X1.out.lt
    go_wp2
    refine bodyPost_ret (v := .tuple #[refV b g cap, .bool false, .int .i64 8]) (by simp [results, Try.results26, go_sem, z0, z1, z2, z3, z4]) rfl ⟨rfl, ?_⟩
    repeat (first | exact HB.out | refine Below.setCell ?_ (by simp) _ | apply below_drewN)
set_option maxHeartbeats 4000000 in
theorem rcharge_in (k : Nat) (o ns : Int) (w : World) (b : Bd) (g cap : Nat) (h : RefB w b g cap) (hs : b.Small) (hk : b.l[k]? = some o) (h0 : 0 ≤ ns) (h1 : ns ≤ 1000000000) (hs2 : (b.charged k o ns).Small) :
    Calls Try.prog 26 #[refV b g cap, .int .i64 k, .int .i64 ns] w fun e w' => ∃ g' cap', e = .returned (.tuple #[refV ((b.charged k o ns).ens k (b.left o ns)) g' cap', .bool ((b.charged k o ns).may (b.left o ns)), .int .i64 0]) ∧ RefB w' ((b.charged k o ns).ens k (b.left o ns)) g' cap' ∧ Below w.heap.size w w' := by
  have hkl := (List.getElem?_eq_some_iff.1 hk).1
  have hhi := h.hi
  obtain ⟨o1, o2⟩ := hs.loc hk
  obtain ⟨p1, p2⟩ := hs.spent
  obtain ⟨qq1, qq2⟩ := hs.q
  have HR := Lib.hid h
  have HK := Lib.hid hk
  have HK5 := Lib.hid (Bd.charged_loc ns hk)
  have HS5 := Lib.hid hs2
  obtain ⟨b5, hb5⟩ : ∃ b5, b5 = b.charged k o ns := ⟨_, rfl⟩
  obtain ⟨o5, ho5⟩ : ∃ o5, o5 = b.left o ns := ⟨_, rfl⟩
  rw [← hb5] at HS5 HK5
  rw [← ho5] at HK5
  have E5 : Hid (b5 = b.charged k o ns) := Lib.hid hb5
  have O5 : Hid (o5 = b.left o ns) := Lib.hid ho5
  by_cases hq : b.q = 0
  · have hqb : (b.q == 0) = true := beq_iff_eq.2 hq
    have hq0 : ¬ 0 < b.q := by omega
    have HV : Hid (b5 = { b with spent := b.spent + ns }) := Lib.hid (by rw [hb5]; unfold Bd.charged; rw [if_pos hq])
    clear h hk hs hs2 hb5 ho5 hq
    go_enter Try.func26, Try.ntmps26
    go_wp2_with fail
    refine (rthere_in _ _ _ _ _ hkl).mono ?_
    rintro e w1 ⟨rfl, hb⟩
    have HB := Lib.hid (below_trans (((Below.refl w.heap.size w).alloc (Nat.le_refl _) _).alloc (by simp) _) hb (by simp; omega))
    have X0 := Lib.hid (((Bx.new w (bcells b g cap)).alloc (.cells zcells 46)).behind hb)
    have X1 := Lib.hid ((Bx.new1 w (.cells (bcells b g cap) 46) zcells).behind hb)
    have HR1 := Lib.hid (HR.out.behind HB.out)
    clear hb
    obtain ⟨q0, q1, q2, q3, q4⟩ := X0.out.c5
    obtain ⟨z0, z1, z2, z3, z4⟩ := X1.out.c5
    have f0 := X0.out.frz
    have f1 := X1.out.frz
    have l0 := X0.out.lt
    have l1 := X1.out.lt
    clear z0 z1 z2 z3 z4 f1 l1
    go_wp2_with fail
    refine (refsat_yes _ _ _ (by omega) (by omega) (by omega)).mono ?_
    rintro e w2 ⟨rfl, rfl⟩
    go_upto_region 8 with (fail)
    clear q0 q1 q2 q3 q4 f0 l0
    obtain ⟨w5, hw5⟩ : ∃ w5, w5 = w1.setCell ⟨w.heap.size, 3, none⟩ (.int .i64 (b.spent + ns)) := ⟨_, rfl⟩
    rw [← hw5]
    have X5 : Hid (Bx w5 w.heap.size (bcells b5 g cap)) := Lib.hid (by rw [hw5, HV.out]; exact X0.out.set _)
    have Z5 : Hid (Bx w5 (w.heap.size + 1) zcells) := Lib.hid (by rw [hw5]; exact X1.out.far (by omega))
    have HR5 : Hid (RefB w5 b5 g cap) := Lib.hid (by
      have := HR1.out.far X0.out 3 (.int .i64 (b.spent + ns))
      rw [hw5, HV.out]; exact ⟨this.row, this.lo, this.hi⟩)
    have HB5 : Hid (Below w.heap.size w w5) := Lib.hid (by rw [hw5]; exact HB.out.setCell (Nat.le_refl _) _)
    obtain ⟨g5, hg5⟩ : ∃ g5, g5 = g := ⟨_, rfl⟩
    obtain ⟨c5, hc5⟩ : ∃ c5, c5 = cap := ⟨_, rfl⟩
    rw [← hg5, ← hc5] at X5 HR5
    clear hw5 hg5 hc5
    have HBx : Hid (Bx w5 w.heap.size (bcells b5 g5 c5)) := X5
    obtain ⟨q0, q1, q2, q3, q4⟩ := X5.out.c5
    have f0 := X5.out.frz
    have l0 := X5.out.lt
    go_wp2_with fail
    refine (rensure_any k o5 w5 b5 g5 c5 HR5.out HS5.out HK5.out).mono ?_
    rintro e w6 ⟨g6, c6, rfl, hr6, hb6⟩
    obtain ⟨b6, hb6'⟩ : ∃ b6, b6 = b5.ens k o5 := ⟨_, rfl⟩
    obtain ⟨m6, hm6'⟩ : ∃ m6, m6 = b5.may o5 := ⟨_, rfl⟩
    rw [← hb6'] at hr6
    rw [← hb6', ← hm6']
    have H6 := Lib.hid hb6'; have M6 := Lib.hid hm6'
    have HR6 := Lib.hid hr6
    have HB6 := Lib.hid (below_trans HB5.out hb6 HB5.out.size)
    have Z7 := Lib.hid (Z5.out.behind hb6)
    clear hb6 hr6 hb6' hm6' q0 q1 q2 q3 q4 f0 l0
    obtain ⟨z0, z1, z2, z3, z4⟩ := Z7.out.c5
    have f1 := Z7.out.frz
    have l1 := Z7.out.lt
    go_wp2
    obtain ⟨w8, hw8⟩ : ∃ w8, w8 = ((((((w6.setCell ⟨w.heap.size + 1, 0, none⟩ (.int .i64 b6.q)).setCell ⟨w.heap.size + 1, 1, none⟩ (.int .i64 b6.s)).setCell ⟨w.heap.size + 1, 2, none⟩ (.int .i64 b6.pool)).setCell ⟨w.heap.size + 1, 3, none⟩ (.int .i64 b6.spent)).setCell ⟨w.heap.size + 1, 4, none⟩ (.slice (some ⟨g6, 0, none⟩) b6.l.length c6)).alloc (.cells (bcells b6 g6 c6) 46)) := ⟨_, rfl⟩
    rw [← hw8]
    have Z8 : Hid (Bx w8 (w.heap.size + 1) (bcells b6 g6 c6)) := Lib.hid (by rw [hw8]; exact (((((Z7.out.set _).set _).set _).set _).set _).alloc _)
    have HR8 : Hid (RefB w8 b6 g6 c6) := Lib.hid (by rw [hw8]; exact (((((HR6.out.far Z7.out 0 _).far (Z7.out.set _) 1 _).far ((Z7.out.set _).set _) 2 _).far (((Z7.out.set _).set _).set _) 3 _).far ((((Z7.out.set _).set _).set _).set _) 4 _).behind (below_alloc _ _))
    have HB8 : Hid (Below w.heap.size w w8) := Lib.hid (by rw [hw8]; exact (((((HB6.out.setCell (by simp) _).setCell (by simp) _).setCell (by simp) _).setCell (by simp) _).setCell (by simp) _).alloc (by simpa using HB6.out.size) _)
    clear hw8 z0 z1 z2 z3 z4 f1 l1
    obtain ⟨z0, z1, z2, z3, z4⟩ := Z8.out.c5
    refine bodyPost_ret (v := .tuple #[refV b6 g6 c6, .bool m6, .int .i64 0]) (by simp [results, Try.results26, go_sem, z0, z1, z2, z3, z4]) rfl ⟨g6, c6, ?_, ?_, ?_⟩
    · rw [H6.out, M6.out, E5.out, O5.out]
    · rw [← O5.out, ← E5.out, ← H6.out]; exact HR8.out
    · exact HB8.out
  · have hqb : (b.q == 0) = false := beq_eq_false_iff_ne.2 hq
    have hq0 : 0 < b.q := by omega
    have HV : Hid (b5 = { b with spent := b.spent + ns, l := b.l.set k (o - ns) }) := Lib.hid (by rw [hb5]; unfold Bd.charged; rw [if_neg hq])
    clear h hk hs hs2 hb5 ho5 hq
    go_enter Try.func26, Try.ntmps26
    go_wp2_with fail
    refine (rthere_in _ _ _ _ _ hkl).mono ?_
    rintro e w1 ⟨rfl, hb⟩
    have HB := Lib.hid (below_trans (((Below.refl w.heap.size w).alloc (Nat.le_refl _) _).alloc (by simp) _) hb (by simp; omega))
    have X0 := Lib.hid (((Bx.new w (bcells b g cap)).alloc (.cells zcells 46)).behind hb)
    have X1 := Lib.hid ((Bx.new1 w (.cells (bcells b g cap) 46) zcells).behind hb)
    have HR1 := Lib.hid (HR.out.behind HB.out)
    clear hb
    obtain ⟨q0, q1, q2, q3, q4⟩ := X0.out.c5
    obtain ⟨z0, z1, z2, z3, z4⟩ := X1.out.c5
    have f0 := X0.out.frz
    have f1 := X1.out.frz
    have l0 := X0.out.lt
    have l1 := X1.out.lt
    clear z0 z1 z2 z3 z4 f1 l1
    go_wp2_with fail
    refine (refsat_yes _ _ _ (by omega) (by omega) (by omega)).mono ?_
    rintro e w2 ⟨rfl, rfl⟩
    go_upto_region 7 with (fail)
    clear q0 q1 q2 q3 q4 f0 l0
    obtain ⟨w2, hw2⟩ : ∃ w2, w2 = (w1.setCell ⟨w.heap.size, 3, none⟩ (.int .i64 (b.spent + ns))).drew := ⟨_, rfl⟩
    have X2 : Hid (Bx w2 w.heap.size (bcells { b with spent := b.spent + ns } g cap)) := Lib.hid (by rw [hw2]; exact X0.out.set _)
    have Z2 : Hid (Bx w2 (w.heap.size + 1) zcells) := Lib.hid (by rw [hw2]; exact X1.out.far (by omega))
    have HR2 : Hid (RefB w2 { b with spent := b.spent + ns } g cap) := Lib.hid (by
      have := HR1.out.far X0.out 3 (.int .i64 (b.spent + ns))
      rw [hw2]; exact ⟨this.row, this.lo, this.hi⟩)
    have HB2 : Hid (Below w.heap.size w w2) := Lib.hid (by rw [hw2]; exact below_drew (HB.out.setCell (Nat.le_refl _) _))
    have hgk := HR2.out.cell k o HK.out
    have hz2 := HR2.out.lt
    obtain ⟨q0, q1, q2, q3, q4⟩ := X2.out.c5
    have f0 := X2.out.frz
    have l0 := X2.out.lt
    refine wp_still_tail 9 (by kernel_rfl) (by kernel_rfl) w2 hw2 ?_
    clear hw2
    simp only [List.take_succ_cons, List.take_zero, List.drop_succ_cons, List.drop_zero]
    repeat still_step
    refine wpStill_nil ?_
    go_wp2_with fail
    refine (rwith_any k (o - ns) w2 { b with spent := b.spent + ns } g cap HR2.out hkl).mono ?_
    rintro e w3 ⟨g5, c5, rfl, hr3, hb3⟩
    have X4 := Lib.hid (X2.out.behind hb3)
    have Z4 := Lib.hid (Z2.out.behind hb3)
    have HR4 := Lib.hid hr3
    have HB4 := Lib.hid (below_trans HB2.out hb3 HB2.out.size)
    clear hb3 hr3 q0 q1 q2 q3 q4 f0 l0 hgk hz2
    obtain ⟨q0, q1, q2, q3, q4⟩ := X4.out.c5
    have f0 := X4.out.frz
    have l0 := X4.out.lt
    go_upto_region 8 with (fail)
    obtain ⟨w5, hw5⟩ : ∃ w5, w5 = (((((w3.setCell ⟨w.heap.size, 0, none⟩ (.int .i64 b.q)).setCell ⟨w.heap.size, 1, none⟩ (.int .i64 b.s)).setCell ⟨w.heap.size, 2, none⟩ (.int .i64 b.pool)).setCell ⟨w.heap.size, 3, none⟩ (.int .i64 (b.spent + ns))).setCell ⟨w.heap.size, 4, none⟩ (.slice (some ⟨g5, 0, none⟩) b.l.length c5)) := ⟨_, rfl⟩
    rw [← hw5]
    have X5 : Hid (Bx w5 w.heap.size (bcells b5 g5 c5)) := Lib.hid (by
      have e : bcells b5 g5 c5 = #[.int .i64 b.q, .int .i64 b.s, .int .i64 b.pool, .int .i64 (b.spent + ns), .slice (some ⟨g5, 0, none⟩) b.l.length c5] := by rw [HV.out]; unfold bcells; simp
      rw [hw5, e]; exact ((((X4.out.set _).set _).set _).set _).set _)
    have Z5 : Hid (Bx w5 (w.heap.size + 1) zcells) := Lib.hid (by rw [hw5]; exact ((((Z4.out.far (by omega)).far (by omega)).far (by omega)).far (by omega)).far (by omega))
    have HR5 : Hid (RefB w5 b5 g5 c5) := Lib.hid (by rw [hw5, HV.out]; exact ((((HR4.out.far X4.out 0 _).far (X4.out.set _) 1 _).far ((X4.out.set _).set _) 2 _).far (((X4.out.set _).set _).set _) 3 _).far ((((X4.out.set _).set _).set _).set _) 4 _)
    have HB5 : Hid (Below w.heap.size w w5) := Lib.hid (by rw [hw5]; exact ((((HB4.out.setCell (Nat.le_refl _) _).setCell (Nat.le_refl _) _).setCell (Nat.le_refl _) _).setCell (Nat.le_refl _) _).setCell (Nat.le_refl _) _)
    clear hw5 q0 q1 q2 q3 q4 f0 l0
    have HBx : Hid (Bx w5 w.heap.size (bcells b5 g5 c5)) := X5
    obtain ⟨q0, q1, q2, q3, q4⟩ := X5.out.c5
    have f0 := X5.out.frz
    have l0 := X5.out.lt
    go_wp2_with fail
    refine (rensure_any k o5 w5 b5 g5 c5 HR5.out HS5.out HK5.out).mono ?_
    rintro e w6 ⟨g6, c6, rfl, hr6, hb6⟩
    obtain ⟨b6, hb6'⟩ : ∃ b6, b6 = b5.ens k o5 := ⟨_, rfl⟩
    obtain ⟨m6, hm6'⟩ : ∃ m6, m6 = b5.may o5 := ⟨_, rfl⟩
    rw [← hb6'] at hr6
    rw [← hb6', ← hm6']
    have H6 := Lib.hid hb6'; have M6 := Lib.hid hm6'
    have HR6 := Lib.hid hr6
    have HB6 := Lib.hid (below_trans HB5.out hb6 HB5.out.size)
    have Z7 := Lib.hid (Z5.out.behind hb6)
    clear hb6 hr6 hb6' hm6' q0 q1 q2 q3 q4 f0 l0
    obtain ⟨z0, z1, z2, z3, z4⟩ := Z7.out.c5
    have f1 := Z7.out.frz
    have l1 := Z7.out.lt
    go_wp2
    obtain ⟨w8, hw8⟩ : ∃ w8, w8 = ((((((w6.setCell ⟨w.heap.size + 1, 0, none⟩ (.int .i64 b6.q)).setCell ⟨w.heap.size + 1, 1, none⟩ (.int .i64 b6.s)).setCell ⟨w.heap.size + 1, 2, none⟩ (.int .i64 b6.pool)).setCell ⟨w.heap.size + 1, 3, none⟩ (.int .i64 b6.spent)).setCell ⟨w.heap.size + 1, 4, none⟩ (.slice (some ⟨g6, 0, none⟩) b6.l.length c6)).alloc (.cells (bcells b6 g6 c6) 46)) := ⟨_, rfl⟩
    rw [← hw8]
    have Z8 : Hid (Bx w8 (w.heap.size + 1) (bcells b6 g6 c6)) := Lib.hid (by rw [hw8]; exact (((((Z7.out.set _).set _).set _).set _).set _).alloc _)
    have HR8 : Hid (RefB w8 b6 g6 c6) := Lib.hid (by rw [hw8]; exact (((((HR6.out.far Z7.out 0 _).far (Z7.out.set _) 1 _).far ((Z7.out.set _).set _) 2 _).far (((Z7.out.set _).set _).set _) 3 _).far ((((Z7.out.set _).set _).set _).set _) 4 _).behind (below_alloc _ _))
    have HB8 : Hid (Below w.heap.size w w8) := Lib.hid (by rw [hw8]; exact (((((HB6.out.setCell (by simp) _).setCell (by simp) _).setCell (by simp) _).setCell (by simp) _).setCell (by simp) _).alloc (by simpa using HB6.out.size) _)
    clear hw8 z0 z1 z2 z3 z4 f1 l1
    obtain ⟨z0, z1, z2, z3, z4⟩ := Z8.out.c5
    refine bodyPost_ret (v := .tuple #[refV b6 g6 c6, .bool m6, .int .i64 0]) (by simp [results, Try.results26, go_sem, z0, z1, z2, z3, z4]) rfl ⟨g6, c6, ?_, ?_, ?_⟩
    · rw [H6.out, M6.out, E5.out, O5.out]
    · rw [← O5.out, ← E5.out, ← H6.out]; exact HR8.out
    · exact HB8.out
end Go.Proofs.Ytbhiinodejhggaa
