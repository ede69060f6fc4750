/- Plain facts: what is moved, and moved back, is as it was. No program in sight; no conditions beyond those in each statement. -/
import Derived.Test.YtnbljnpfmeidfaaTreeN
namespace Go.Proofs.Ytnbljnpfmeidfaa
open Go
set_option linter.unusedVariables false

theorem not_deep {l : List Pl} {hk : Nat} {by_ : Int} (h : ∀ (k : Nat) (q : Pl), l[k]? = some q → q.used = true → und l k hk = true → q.x.dp + by_ ≤ 8) : tooDeep l hk by_ = false := by
  unfold tooDeep
  rw [List.any_eq_false]
  rintro ⟨k, g⟩ hm
  obtain ⟨⟨q, h1, h2, _⟩, h3⟩ := selL_mem.1 hm
  have := h k q h1 h2 h3
  simp only [decide_eq_true_eq]
  rw [getD_of h1]
  omega
/-- those below are the same -/
theorem mv_bel {l c : List Pl} {hk pk : Nat} {qh qp : Pl} {by_ : Int} (h : MvOk l hk pk qh qp by_) (hc : Part l (mvQ hk pk qp.gen by_) (belowB l hk) c) : bel c hk = bel l hk := by
  unfold bel selL
  rw [(hc.alike (mvQ_same hk pk qp.gen by_)).allL]
  apply List.filter_congr
  rintro ⟨k, g⟩ hm
  obtain ⟨q, h1, h2, _⟩ := allL_mem hm
  exact h.und hc k ⟨q, h1, h2⟩
theorem mv_back {l c : List Pl} {hk pk : Nat} {qh qp : Pl} {by_ : Int} (h : MvOk l hk pk qh qp by_) (hc : Part l (mvQ hk pk qp.gen by_) (belowB l hk) c) {bk : Nat} {qb : Pl} (hb1 : l[bk]? = some qb) (hb2 : qb.used = true) (hx : qh.x = ⟨bk, bk, qb.gen, qb.x.dp + 1⟩) :
    c[bk]? = some qb ∧ c[hk]? = some (mvQ hk pk qp.gen by_ hk qh) ∧ und c bk hk = false ∧ mvBy c hk bk = -by_ ∧ tooDeep c hk (mvBy c hk bk) = false ∧ mvL c hk bk qb.gen (mvBy c hk bk) = l := by
  have htr := h.tr
  have hub : Usd l bk := ⟨qb, hb1, hb2⟩
  have huh : Usd l hk := ⟨qh, h.hq, h.hu⟩
  have hdh := htr.dp h.hq h.hu
  have hdb := htr.dp hb1 hb2
  have hnb : und l bk hk = false := by
    refine decide_eq_false ?_
    intro hm
    have h1 := (way_dep htr bk hub hk hm).1
    have h2 := hdh.2.2.2
    have h3 := hdb.2.2.2
    rw [hx] at h2
    simp only at h2
    omega
  have e1 := h.get hc hb1 hb2
  rw [hnb] at e1
  have e2 := h.get hc h.hq h.hu
  rw [show und l hk hk = true from decide_eq_true (way_self htr huh)] at e2
  have e1' : c[bk]? = some qb := e1
  have e2' : c[hk]? = some (mvQ hk pk qp.gen by_ hk qh) := e2
  have hby : mvBy c hk bk = -by_ := by
    unfold mvBy
    rw [getD_of e1', getD_of e2']
    show qb.x.dp + 1 - (qh.x.dp + by_) = -by_
    rw [hx]
    show qb.x.dp + 1 - (qb.x.dp + 1 + by_) = -by_
    omega
  have hal := hc.alike (mvQ_same hk pk qp.gen by_)
  refine ⟨e1', e2', by rw [h.und hc bk hub, hnb], hby, ?_, ?_⟩
  · rw [hby]
    refine not_deep ?_
    intro k q' hq' hu' hs
    obtain ⟨q, hq, g1, g2, g3⟩ := hal.symm.get hq'
    have hu : q.used = true := by rw [g2]; exact hu'
    rw [h.und hc k ⟨q, hq, hu⟩] at hs
    have e := h.get hc hq hu
    rw [if_pos hs, hq'] at e
    have hE : q' = mvQ hk pk qp.gen by_ k q := Option.some.inj e
    rw [hE]
    show q.x.dp + by_ + -by_ ≤ 8
    have := (htr.dp hq hu).2.1
    omega
  · rw [hby]
    apply List.ext_getElem?
    intro k
    unfold mvL
    rw [part_turn c (mvQ hk bk qb.gen (-by_)) (belowB c hk) k]
    cases hq' : c[k]? with
    | none =>
      have := hal k
      rw [hq'] at this
      cases hl : l[k]? with
      | none => rfl
      | some q => rw [hl] at this; simp at this
    | some q' =>
      obtain ⟨q, hq, g1, g2, g3⟩ := hal.symm.get hq'
      rw [hq, Option.map_some]
      congr 1
      by_cases hu : q.used = true
      · have hu' : q'.used = true := by rw [← g2]; exact hu
        have e := h.get hc hq hu
        rw [hq'] at e
        have hE : q' = if und l k hk = true then mvQ hk pk qp.gen by_ k q else q := Option.some.inj e
        rw [belowB_of hq' hu', h.und hc k ⟨q, hq, hu⟩]
        by_cases hs : und l k hk = true
        · rw [if_pos hs]
          rw [if_pos hs] at hE
          rw [hE]
          obtain ⟨⟨x0, x1, x2, x3⟩, qg, qu, qn⟩ := q
          by_cases hkh : k = hk
          · subst hkh
            rw [h.hq] at hq
            have hxq : qh.x = ⟨x0, x1, x2, x3⟩ := by cases hq; rfl
            rw [hx] at hxq
            simp only [Pay.mk.injEq] at hxq
            obtain ⟨a0, a1, a2, a3⟩ := hxq
            have hsum : x3 + by_ + -by_ = x3 := by omega
            rw [← a0, ← a1, ← a2]
            simp only [mvQ, if_true, hsum]
          · have hsum : x3 + by_ + -by_ = x3 := by omega
            simp only [mvQ, if_neg hkh, hsum]
        · rw [if_neg hs]
          rw [if_neg hs] at hE
          exact hE
      · have h1 : belowB c hk k = false := by
          unfold belowB
          rw [getD_of hq']
          cases hh : q'.used
          · rfl
          · exact absurd (g2.trans hh) hu
        have h2 : belowB l hk k = false := by
          unfold belowB
          rw [getD_of hq]
          cases hh : q.used
          · rfl
          · exact absurd hh hu
        rw [h1]
        have e := hc k
        rw [hq, hq', Option.map_some, h2] at e
        exact Option.some.inj e
end Go.Proofs.Ytnbljnpfmeidfaa
