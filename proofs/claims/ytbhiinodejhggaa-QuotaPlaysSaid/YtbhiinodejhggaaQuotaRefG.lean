/- Contracts of the document's answer, package doleref12: Refill, Charge. Conditions: the band is told by value, its local times in a row of their own. -/
import Derived.Test.YtbhiinodejhggaaQuotaRefD
namespace Go.Proofs.Ytbhiinodejhggaa
open Go Go.RowKit Go.ChangeShapes Go.WideShapes
set_option linter.unusedVariables false

theorem refillL_same (l : List Int) (k : Nat) (o : Int) (h : l[k]? = some o) (ho : ¬ 0 < o) : refillL l (k + 1) = refillL l k := by
  obtain ⟨hk, rfl⟩ := List.getElem?_eq_some_iff.1 h
  rw [← refillL_step l k hk, show min l[k] 0 = l[k] by omega]
  apply List.ext_getElem?
  intro j
  have hg := refillL_get l k hk
  by_cases e : k = j
  · subst e
    rw [List.getElem?_set_self (by rw [refillL_length]; exact hk), hg]
  · rw [List.getElem?_set_ne e]
theorem refillL_zero (l : List Int) (k : Nat) (o : Int) (h : l[k]? = some o) (ho : 0 < o) : (refillL l k).set k 0 = refillL l (k + 1) := by
  obtain ⟨hk, rfl⟩ := List.getElem?_eq_some_iff.1 h
  rw [← refillL_step l k hk, show min l[k] 0 = 0 by omega]
set_option maxHeartbeats 2000000 in
theorem rrefill_any (w : World) (b : Bd) (g cap : Nat) (h : RefB w b g cap) :
    Calls Try.prog 28 #[refV b g cap] w fun e w' => ∃ g' cap', e = .returned (refV b.refill g' cap') ∧ RefB w' b.refill g' cap' ∧ Below w.heap.size w w' := by
  have hhi := h.hi
  have hlo := h.lo
  obtain ⟨n, hn⟩ : ∃ n, n = b.l.length := ⟨_, rfl⟩
  have HN := Lib.hid hn
  obtain ⟨b0, hb0⟩ : ∃ b0 : Nat → Bd, b0 = fun j => ⟨b.q, b.s, b.q, 0, refillL b.l j⟩ := ⟨_, rfl⟩
  have HL : Hid (∀ j, (b0 j).l.length = n) := Lib.hid (fun j => by rw [hb0, hn]; exact refillL_length _ _)
  have HQ : Hid (∀ j, (b0 j).l = refillL b.l j) := Lib.hid (fun j => by rw [hb0])
  have HE : Hid (b0 n = b.refill) := Lib.hid (by rw [hb0, hn]; unfold Bd.refill; rw [← refillL_all])
  have HV : Hid (∀ j g' cap', refV (b0 j) g' cap' = .agg #[.int .i64 b.q, .int .i64 b.s, .int .i64 b.q, .int .i64 0, .slice (some ⟨g', 0, none⟩) n cap']) := Lib.hid (fun j g' cap' => by unfold refV; rw [HL.out, hb0])
  have HS : Hid (∀ j, { b0 j with l := (b0 j).l.set j 0 } = (⟨b.q, b.s, b.q, 0, (refillL b.l j).set j 0⟩ : Bd)) := Lib.hid (fun j => by rw [hb0])
  have HB0 : Hid (∀ j, b0 j = ⟨b.q, b.s, b.q, 0, refillL b.l j⟩) := Lib.hid (fun j => by rw [hb0])
  have W0R : Hid (RefB ((w.alloc (.cells #[.int .i64 b.q, .int .i64 b.s, .int .i64 b.q, .int .i64 0, .slice (some ⟨g, 0, none⟩) b.l.length cap] 46)).alloc (.cells zcells 46)) (b0 0) g cap) := Lib.hid (by
    have := h.behind ((below_alloc w (.cells #[.int .i64 b.q, .int .i64 b.s, .int .i64 b.q, .int .i64 0, .slice (some ⟨g, 0, none⟩) b.l.length cap] 46)).alloc (by simp) (.cells zcells 46))
    refine ⟨?_, by rw [HL.out]; omega, by rw [HL.out]; omega⟩
    rw [HL.out, HQ.out, hn]
    simpa [refillL] using this.row)
  clear h hb0
  rw [← hn] at hhi hlo W0R
  clear hn
  go_enter Try.func28, Try.ntmps28
  go_wp2_with fail
  rw [← HN.out]
  go_loopw [3] (fun i wr => ∃ (j g1 c1 : Nat), j ≤ n ∧ i = .int .i64 j ∧ Bx wr w.heap.size #[.int .i64 b.q, .int .i64 b.s, .int .i64 b.q, .int .i64 0, .slice (some ⟨g1, 0, none⟩) n c1] ∧ Bx wr (w.heap.size + 1) zcells ∧ RefB wr (b0 j) g1 c1 ∧ Below w.heap.size w wr) (fun i _ => n - (intOf i).toNat)
  case atStart => exact ⟨0, g, cap, by omega, rfl, (Bx.new w _).alloc _, Bx.new1 w _ _, W0R.out, (below_alloc _ _).alloc (by simp) _⟩
  case round =>
    obtain ⟨j, g1, c1, hj, rfl, hx0, hx1, hr, hbl⟩ := hrel
    have X0 := Lib.hid hx0; have X1 := Lib.hid hx1; have HR := Lib.hid hr; have HB := Lib.hid hbl
    clear hx0 hx1 hr hbl
    obtain ⟨q0, q1, q2, q3, q4⟩ := X0.out.c5
    obtain ⟨z0, z1, z2, z3, z4⟩ := X1.out.c5
    have f0 := X0.out.frz
    have f1 := X1.out.frz
    have l0 := X0.out.lt
    have l1 := X1.out.lt
    by_cases hjn : j < n
    · obtain ⟨o, ho⟩ : ∃ o, b.l[j]? = some o := ⟨_, List.getElem?_eq_getElem (by rw [← HN.out]; exact hjn)⟩
      have hgj : (b0 j).l[j]? = some o := by
        rw [HQ.out]
        have := refillL_get b.l j (by rw [← HN.out]; exact hjn)
        rw [this, ← ho]
        exact (List.getElem?_eq_getElem _).symm
      have hgk := HR.out.cell j o hgj
      have hz2 := HR.out.lt
      have HO := Lib.hid ho
      have HGJ := Lib.hid hgj
      clear ho hgj
      by_cases hpos : 0 < o
      · go_wp2_with fail
        rw [← HV.out j]
        refine (rwith_any j 0 _ (b0 j) g1 c1 HR.out (by rw [HL.out]; exact hjn)).mono ?_
        rw [HS.out, refillL_zero b.l j o HO.out hpos, ← HB0.out (j + 1)]
        rintro e w3 ⟨g', cap', rfl, hr3, hb3⟩
        rw [HV.out]
        have X2 := Lib.hid (X0.out.behind hb3)
        have X3 := Lib.hid (X1.out.behind hb3)
        have HR3 := Lib.hid hr3
        have HB3 := Lib.hid (below_trans HB.out hb3 HB.out.size)
        clear hb3 hr3 q0 q1 q2 q3 q4 z0 z1 z2 z3 z4 f0 f1 l0 l1 hgk hz2
        obtain ⟨q0, q1, q2, q3, q4⟩ := X2.out.c5
        have f0 := X2.out.frz
        have l0 := X2.out.lt
        go_wp2_with fail
        go_roundw
        case rel => exact ⟨j + 1, g', cap', by omega, by go_num, ((((X2.out.set _).set _).set _).set _).set _, ((((X3.out.far (by omega)).far (by omega)).far (by omega)).far (by omega)).far (by omega), ((((HR3.out.far X2.out 0 _).far (X2.out.set _) 1 _).far ((X2.out.set _).set _) 2 _).far (((X2.out.set _).set _).set _) 3 _).far ((((X2.out.set _).set _).set _).set _) 4 _, ((((HB3.out.setCell (Nat.le_refl _) _).setCell (Nat.le_refl _) _).setCell (Nat.le_refl _) _).setCell (Nat.le_refl _) _).setCell (Nat.le_refl _) _⟩
        case measure => simp [intOf]; omega
      · have HSame := Lib.hid (refillL_same b.l j o HO.out hpos)
        go_wp2_with fail
        go_roundw
        case rel => exact ⟨j + 1, g1, c1, by omega, by go_num, X0.out, X1.out, by rw [HB0.out, HSame.out, ← HB0.out]; exact HR.out, HB.out⟩
        case measure => simp [intOf]; omega
    · obtain rfl : j = n := by omega
      go_wp2
      refine bodyPost_ret (v := .agg #[.int .i64 b.q, .int .i64 b.s, .int .i64 b.q, .int .i64 0, .slice (some ⟨g1, 0, none⟩) j c1]) (by simp [results, Try.results28, go_sem, z0, z1, z2, z3, z4]) rfl ⟨g1, c1, ?_, ?_, ?_⟩
      · rw [← HE.out, HV.out]
      · rw [← HE.out]
        exact ((((HR.out.far X1.out 0 _).far (X1.out.set _) 1 _).far ((X1.out.set _).set _) 2 _).far (((X1.out.set _).set _).set _) 3 _).far ((((X1.out.set _).set _).set _).set _) 4 _
      · repeat (first | exact HB.out | refine Below.setCell ?_ (by simp) _)
end Go.Proofs.Ytbhiinodejhggaa
