/- The document's tree of groups, told by value: is a group below another; within which one it is; a new one. Condition: the tree is within bounds, its groups within one another. -/
import Derived.Test.YtnbljnpfmeidfaaDoc
namespace Go.Proofs.Ytnbljnpfmeidfaa
open Go Go.RowKit Go.ChangeShapes Go.WideShapes
set_option linter.unusedVariables false

theorem und_up {l : List Pl} (h : Tr l) {k : Nat} (hu : Usd l k) (h0 : k ≠ 0) {j : Nat} (hj : k ≠ j) : und l k j = und l (upI l k) j := by
  rw [und_cons h hu h0]; simp [show ¬ j = k from fun e => hj e.symm]
set_option maxHeartbeats 2000000 in
set_option maxRecDepth 100000 in
theorem rbelow_any (k0 j : Nat) (b : Nat) (w : World) (s : Ps) (v1 v2 v3 v4 : Sv) (h : RfV w 32 s v1 v2 v3 v4) (ho : s.Ok 32 b) (hb : b ≤ 1000) (htr : Tr s.l) (hk : Usd s.l k0) :
    Calls Try.prog 47 #[.agg (vcl 32 v1 v2 v3 v4), .int .i64 k0, .int .i64 j] w fun e w' => e = .returned (.bool (und s.l k0 j)) ∧ Below w.heap.size w w' := by
  obtain ⟨g1, e1, hg, hw⟩ := h.words htr
  obtain ⟨a, n, c⟩ := v1
  simp only at e1 hw
  subst e1
  have HW := Lib.hid (hw (w.alloc (ubox ⟨some ⟨g1, 0, none⟩, n, c⟩ v2 v3 v4)) (below_alloc _ _))
  have HT := Lib.hid htr
  have HK := Lib.hid hk
  have hg' : g1 < (w.alloc (ubox ⟨some ⟨g1, 0, none⟩, n, c⟩ v2 v3 v4)).heap.size := by simp; omega
  clear h ho hw htr hk hg
  obtain ⟨R, hR⟩ : ∃ R, R = und s.l k0 j := ⟨_, rfl⟩
  rw [← hR]
  have HR := Lib.hid hR
  clear hR
  go_enter Try.func47, Try.ntmps47
  go_upto_region 1 with (fail)
  obtain ⟨w1, hw1⟩ : ∃ w1, w1 = w.alloc (ubox ⟨some ⟨g1, 0, none⟩, n, c⟩ v2 v3 v4) := ⟨_, rfl⟩
  have HX : Hid (Ux w1 w.heap.size (vcl 32 ⟨some ⟨g1, 0, none⟩, n, c⟩ v2 v3 v4)) := Lib.hid (by rw [hw1]; exact Ux.new w _)
  have HB : Hid (Below w.heap.size w w1) := Lib.hid (by rw [hw1]; exact below_alloc _ _)
  rw [← hw1] at HW hg' ⊢
  obtain ⟨x, hx⟩ : ∃ x, x = w.heap.size := ⟨_, rfl⟩
  rw [← hx] at HX ⊢
  obtain ⟨q0, q1, q2, q3, q4⟩ := HX.out.c5
  have hxl := HX.out.lt
  clear hw1 hx
  go_loopg [1] (dep s.l k0 + 1) (fun m vi wr => (∃ (k : Nat), vi = .int .i64 k ∧ Usd s.l k ∧ R = und s.l k j ∧ m = dep s.l k + 1 ∧ wr = w1) ∨ (vi = .int .i64 (-1) ∧ R = false ∧ wr = w1))
  case atStart => exact .inl ⟨k0, rfl, HK.out, HR.out, rfl, rfl⟩
  case round =>
    rcases hrel with ⟨k, rfl, hu, hr, hm, rfl⟩ | ⟨rfl, hr, rfl⟩
    · obtain ⟨hkn, hc⟩ := HW.out k hu
      have HU := Lib.hid hu
      have HM := Lib.hid hm
      have HRr := Lib.hid hr
      clear hu hm hr
      by_cases hkj : k = j
      · subst hkj
        have e : R = true := by rw [HRr.out]; exact decide_eq_true (way_self HT.out HU.out)
        subst e
        clear hc
        go_wp2_with fail
        go_ret
        exact ⟨rfl, HB.out⟩
      · have hkj1 : ((k : Int) == (j : Int)) = false := beq_eq_false_iff_ne.2 (by omega)
        have hkj2 : ((k : Int) != (j : Int)) = true := by simp [bne, hkj1]
        by_cases hk0 : k = 0
        · have e : wrd s.l k = -1 := if_pos hk0
          rw [e] at hc
          have er : R = false := by
            rw [HRr.out, hk0, und_root]
            exact decide_eq_false (by omega)
          have HER := Lib.hid er
          have HN := Lib.hid hkj
          clear e hk0 er hkj
          go_wp2_with fail
          go_roundg 0
          case measure => have := HM.out; omega
          case rel => exact .inr ⟨rfl, HER.out, rfl⟩
        · have e : wrd s.l k = upI s.l k := if_neg hk0
          rw [e] at hc
          obtain ⟨h1, h2⟩ := HT.out.up HU.out hk0
          have h3 := und_up HT.out HU.out hk0 hkj
          have H1 := Lib.hid h1
          have H2 := Lib.hid h2
          have H3 := Lib.hid h3
          obtain ⟨u, hu⟩ : ∃ u, u = upI s.l k := ⟨_, rfl⟩
          rw [← hu] at hc H1 H2 H3
          have HN := Lib.hid hkj
          clear e h1 h2 h3 hu hkj
          go_wp2_with fail
          go_roundg (dep s.l u + 1)
          case measure => have := HM.out; have := H2.out; omega
          case rel => exact .inl ⟨u, rfl, H1.out, by rw [HRr.out]; exact H3.out, rfl, rfl⟩
    · have HRr := Lib.hid hr
      have h1 : ((-1 : Int) == (j : Int)) = false := beq_eq_false_iff_ne.2 (by omega)
      have h2 : ((-1 : Int) != (j : Int)) = true := by simp [bne, h1]
      have e : R = false := HRr.out
      subst e
      clear hr
      go_wp2_with fail
      go_ret
      exact ⟨rfl, HB.out⟩
end Go.Proofs.Ytnbljnpfmeidfaa
