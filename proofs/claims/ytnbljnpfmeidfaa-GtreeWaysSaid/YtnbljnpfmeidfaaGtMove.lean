/- Plain facts: groups within one another behind a move. No program in sight; no conditions beyond those in each statement. -/
import Derived.Test.YtnbljnpfmeidfaaGtOps
import Derived.Test.YtnbljnpfmeidfaaTreeV
namespace Go.Proofs.Ytnbljnpfmeidfaa
open Go
set_option linter.unusedVariables false

/-- a place that is moved along: hk lies in pk from now on, all below it are by deeper -/
def mvQ (hk pk : Nat) (pg by_ : Int) (k : Nat) (q : Pl) : Pl := ⟨⟨if k = hk then pk else q.x.x, if k = hk then pk else q.x.ui, if k = hk then pg else q.x.ug, q.x.dp + by_⟩, q.gen, q.used, q.next⟩
/-- the places of S turned by M, the others as they were -/
def Part (l : List Pl) (M : Nat → Pl → Pl) (S : Nat → Bool) (c : List Pl) : Prop := ∀ k : Nat, c[k]? = (l[k]?).map (fun q => if S k = true then M k q else q)
def turnL (l : List Pl) (M : Nat → Pl → Pl) (S : Nat → Bool) : List Pl := l.mapIdx (fun k q => if S k = true then M k q else q)
theorem part_turn (l : List Pl) (M : Nat → Pl → Pl) (S : Nat → Bool) : Part l M S (turnL l M S) := by
  intro k
  unfold turnL
  rw [List.getElem?_mapIdx]
theorem Part.eq {l c d : List Pl} {M : Nat → Pl → Pl} {S : Nat → Bool} (h1 : Part l M S c) (h2 : Part l M S d) : c = d := by
  apply List.ext_getElem?
  intro k
  rw [h1 k, h2 k]
theorem part_none (l : List Pl) (M : Nat → Pl → Pl) : Part l M (fun _ => false) l := by
  intro k
  simp
theorem Part.step {l c : List Pl} {M : Nat → Pl → Pl} {S T : Nat → Bool} {j : Nat} {q : Pl} (h : Part l M S c) (hj : l[j]? = some q) (hS : S j = false) (hT : ∀ k, T k = (S k || decide (k = j))) : Part l M T (c.set j (M j q)) := by
  intro k
  have hcj := h j
  rw [hj] at hcj
  by_cases hk : j = k
  · subst hk
    have hl : j < c.length := by
      by_cases hl : j < c.length
      · exact hl
      · rw [List.getElem?_eq_none (by omega)] at hcj
        simp at hcj
    rw [List.getElem?_set_self hl, hj, hT]
    simp
  · rw [List.getElem?_set_ne hk, h k, hT]
    have : decide (k = j) = false := decide_eq_false (fun e => hk e.symm)
    rw [this, Bool.or_false]
theorem Part.congr {l c : List Pl} {M : Nat → Pl → Pl} {S T : Nat → Bool} (h : Part l M S c) (hST : ∀ (k : Nat) (q : Pl), l[k]? = some q → S k = T k) : Part l M T c := by
  intro k
  rw [h k]
  cases hq : l[k]? with
  | none => rfl
  | some q => rw [hST k q hq]
/-- a list whose places have the same words as another one's, but for what is in them -/
def PAlike (l c : List Pl) : Prop := ∀ k : Nat, (c[k]?).map (fun q : Pl => (q.gen, q.used, q.next)) = (l[k]?).map (fun q : Pl => (q.gen, q.used, q.next))
theorem Part.alike {l c : List Pl} {M : Nat → Pl → Pl} {S : Nat → Bool} (h : Part l M S c) (hM : ∀ k q, (M k q).gen = q.gen ∧ (M k q).used = q.used ∧ (M k q).next = q.next) : PAlike l c := by
  intro k
  rw [h k]
  cases l[k]? with
  | none => rfl
  | some q =>
    obtain ⟨h1, h2, h3⟩ := hM k q
    by_cases hs : S k = true <;> simp [hs, h1, h2, h3]
theorem PAlike.length {l c : List Pl} (h : PAlike l c) : c.length = l.length := by
  have h1 : ∀ k : Nat, c[k]? = none ↔ l[k]? = none := by
    intro k
    have := h k
    cases hc : c[k]? <;> cases hl : l[k]? <;> simp [hc, hl] at this <;> simp
  have e1 := (h1 l.length).2 (List.getElem?_eq_none (Nat.le_refl _))
  have e2 := (h1 c.length).1 (List.getElem?_eq_none (Nat.le_refl _))
  have e3 := List.getElem?_eq_none_iff.1 e1
  have e4 := List.getElem?_eq_none_iff.1 e2
  omega
theorem PAlike.get {l c : List Pl} (h : PAlike l c) {k : Nat} {q : Pl} (hq : l[k]? = some q) : ∃ q', c[k]? = some q' ∧ q'.gen = q.gen ∧ q'.used = q.used ∧ q'.next = q.next := by
  have := h k
  rw [hq] at this
  cases hc : c[k]? with
  | none => rw [hc] at this; simp at this
  | some q' => rw [hc] at this; simp at this; exact ⟨q', rfl, this.1, this.2.1, this.2.2⟩
theorem PAlike.symm {l c : List Pl} (h : PAlike l c) : PAlike c l := fun k => (h k).symm
theorem PAlike.chain {l c : List Pl} (h : PAlike l c) : ∀ (st : List Nat) (f : Int), Chain2 l f st → Chain2 c f st
  | [], _, hc => hc
  | i :: r, f, hc => by
    obtain ⟨rfl, q, h1, h2, h3⟩ := hc
    obtain ⟨q', g1, g2, g3, g4⟩ := h.get h1
    exact ⟨rfl, q', g1, by rw [g3]; exact h2, by rw [g4]; exact h.chain r _ h3⟩
theorem PAlike.usedOf {l c : List Pl} (h : PAlike l c) : usedOf c = usedOf l := by
  apply List.ext_getElem?
  intro k
  have := h k
  unfold Go.Proofs.Ytnbljnpfmeidfaa.usedOf
  rw [List.getElem?_map, List.getElem?_map]
  cases hc : c[k]? <;> cases hl : l[k]? <;> simp [hc, hl] at this ⊢
  exact this.2.1
theorem PAlike.gensOf {l c : List Pl} (h : PAlike l c) : gensOf c = gensOf l := by
  apply List.ext_getElem?
  intro k
  have := h k
  unfold Go.Proofs.Ytnbljnpfmeidfaa.gensOf
  rw [List.getElem?_map, List.getElem?_map]
  cases hc : c[k]? <;> cases hl : l[k]? <;> simp [hc, hl] at this ⊢
  exact this.1
theorem PAlike.allL {l c : List Pl} (h : PAlike l c) : allL c = allL l := by
  unfold Go.Proofs.Ytnbljnpfmeidfaa.allL
  rw [h.usedOf, h.gensOf, h.length]
theorem Ps.Ok.alike {s : Ps} {room : Int} {b : Nat} (h : s.Ok room b) {c : List Pl} (hc : PAlike s.l c) : (⟨c, s.free, s.st, s.many⟩ : Ps).Ok room b := by
  have hl := hc.length
  refine ⟨hc.chain _ _ h.chain, h.nodup, by show c.length ≤ b; rw [hl]; exact h.len, h.stl, ?_, by show s.many = (c.length : Int) - s.st.length; rw [hl]; exact h.many, by show (c.length : Int) ≤ room; rw [hl]; exact h.room, ?_⟩
  · intro k q hq
    obtain ⟨q', g1, g2, _⟩ := hc.symm.get hq
    rw [← g2]
    exact h.gens k q' g1
  · have e : c.countP (·.used) = s.l.countP (·.used) := by
      have h1 : (usedOf c).countP id = (usedOf s.l).countP id := by rw [hc.usedOf]
      unfold usedOf at h1
      rw [List.countP_map, List.countP_map] at h1
      exact h1
    show (c.countP (·.used) : Int) = s.many
    rw [e]; exact h.cnt

/-- who is used and below hk -/
def belowB (l : List Pl) (hk : Nat) (k : Nat) : Bool := (l.getD k plz).used && und l k hk
theorem belowB_of {l : List Pl} {hk k : Nat} {q : Pl} (hq : l[k]? = some q) (hu : q.used = true) : belowB l hk k = und l k hk := by
  unfold belowB; rw [getD_of hq, hu, Bool.true_and]
theorem Tr.below_dep {l : List Pl} (h : Tr l) {hk k : Nat} (hu : Usd l k) (hb : und l k hk = true) : dep l hk ≤ dep l k := (way_dep h k hu hk (of_decide_eq_true hb)).1
section
variable {l c : List Pl} {hk pk : Nat} {qh qp : Pl} {by_ : Int}
/-- what a move asks for -/
structure MvOk (l : List Pl) (hk pk : Nat) (qh qp : Pl) (by_ : Int) : Prop where
  tr : Tr l
  hq : l[hk]? = some qh
  hu : qh.used = true
  pq : l[pk]? = some qp
  pu : qp.used = true
  h0 : hk ≠ 0
  loop : und l pk hk = false
  byq : by_ = qp.x.dp + 1 - qh.x.dp
  deep : ∀ (k : Nat) (q : Pl), l[k]? = some q → q.used = true → und l k hk = true → q.x.dp + by_ ≤ 8
theorem mvQ_same (hk pk : Nat) (pg b : Int) : ∀ k q, (mvQ hk pk pg b k q).gen = q.gen ∧ (mvQ hk pk pg b k q).used = q.used ∧ (mvQ hk pk pg b k q).next = q.next := fun _ _ => ⟨rfl, rfl, rfl⟩
theorem MvOk.get (h : MvOk l hk pk qh qp by_) (hc : Part l (mvQ hk pk qp.gen by_) (belowB l hk) c) {k : Nat} {q : Pl} (hq : l[k]? = some q) (hu : q.used = true) : c[k]? = some (if und l k hk = true then mvQ hk pk qp.gen by_ k q else q) := by
  rw [hc k, hq, Option.map_some, belowB_of hq hu]
theorem MvOk.moved (h : MvOk l hk pk qh qp by_) (hc : Part l (mvQ hk pk qp.gen by_) (belowB l hk) c) : Tr c := by
  have htr := h.tr
  refine ⟨?_, ?_⟩
  · obtain ⟨q, hq, hu, hr⟩ := htr.root
    refine ⟨q, ?_, hu, hr⟩
    rw [h.get hc hq hu, und_root, decide_eq_false h.h0]
    rfl
  · intro k q' hq' hu' hk0
    have hal := hc.alike (mvQ_same hk pk qp.gen by_)
    obtain ⟨q, hq, g1, g2, g3⟩ := hal.symm.get hq'
    have hu : q.used = true := by rw [g2]; exact hu'
    have hU : Usd l k := ⟨q, hq, hu⟩
    have e := h.get hc hq hu
    rw [hq'] at e
    obtain ⟨d, pd, hd1, hd2, hd3, hd4, hd5, hd6⟩ := htr.up_eq hq hu hk0
    obtain ⟨_, _, _, _, hx, hdp1, hdp8⟩ := htr.kid k q hq hu hk0
    obtain ⟨j, pj, hj1, hj2, hxj, _⟩ := htr.kid k q hq hu hk0
    have hjd : j = d := by rw [hxj] at hd3; have : (j : Int) = d := hd3; omega
    subst hjd
    rw [hd1] at hj1
    cases hj1
    have hdk := htr.dp hq hu
    by_cases hs : und l k hk = true
    · rw [if_pos hs] at e
      have hE : q' = mvQ hk pk qp.gen by_ k q := Option.some.inj e
      have hdeep := h.deep k q hq hu hs
      by_cases hkh : k = hk
      · subst hkh
        rw [h.hq] at hq
        cases hq
        have hp := h.get hc h.pq h.pu
        rw [h.loop] at hp
        have hpd := htr.dp h.pq h.pu
        have hby := h.byq
        refine ⟨pk, qp, hp, h.pu, ?_, ?_, ?_⟩
        · rw [hE]; simp only [mvQ, if_true]; rw [hby]; congr 1; omega
        · rw [hE]; show 1 ≤ qh.x.dp + by_; omega
        · rw [hE]; exact hdeep
      · have hs2 : und l j hk = true := by
          rw [und_cons htr hU hk0, decide_eq_false (fun e => hkh e.symm), Bool.false_or, hd5] at hs
          exact hs
        have hp := h.get hc hd1 hd2
        rw [if_pos hs2] at hp
        have hpd := htr.dp hd1 hd2
        have hhd := htr.dp h.hq h.hu
        have hpp := htr.dp h.pq h.pu
        have hdd := htr.below_dep ⟨_, hd1, hd2⟩ hs2
        have hby := h.byq
        refine ⟨j, _, hp, hd2, ?_, ?_, ?_⟩
        · rw [hE, show (mvQ hk pk qp.gen by_ k q).x = ⟨q.x.x, q.x.ui, q.x.ug, q.x.dp + by_⟩ by simp only [mvQ, if_neg hkh]]
          rw [hxj]
          show (⟨_, _, _, _⟩ : Pay) = ⟨_, _, _, (mvQ hk pk qp.gen by_ j pd).x.dp + 1⟩
          simp only [mvQ]
          congr 1
          omega
        · rw [hE]; show 1 ≤ q.x.dp + by_
          rw [hxj]; show 1 ≤ pd.x.dp + 1 + by_
          omega
        · rw [hE]; exact hdeep
    · rw [if_neg hs] at e
      have hE : q' = q := Option.some.inj e
      subst hE
      have hs2 : ¬ und l j hk = true := by
        intro h2
        apply hs
        rw [und_cons htr hU hk0, hd5, h2, Bool.or_true]
      have hp := h.get hc hd1 hd2
      rw [if_neg hs2] at hp
      exact ⟨j, pd, hp, hd2, hxj, hdp1, hdp8⟩
/-- who is below is below still, and nobody else -/
theorem MvOk.upNot (h : MvOk l hk pk qh qp by_) (hc : Part l (mvQ hk pk qp.gen by_) (belowB l hk) c) {k : Nat} {q : Pl} (hq : l[k]? = some q) (hu : q.used = true) (hne : k ≠ hk) : upI c k = upI l k := by
  unfold upI
  rw [getD_of hq, getD_of (h.get hc hq hu)]
  by_cases hs : und l k hk = true
  · rw [if_pos hs]; simp only [mvQ, if_neg hne]
  · rw [if_neg hs]
theorem MvOk.und (h : MvOk l hk pk qh qp by_) (hc : Part l (mvQ hk pk qp.gen by_) (belowB l hk) c) : ∀ k, Usd l k → Go.Proofs.Ytnbljnpfmeidfaa.und c k hk = Go.Proofs.Ytnbljnpfmeidfaa.und l k hk := by
  have htr := h.tr
  have htc := h.moved hc
  have husd : ∀ k, Usd l k → Usd c k := by
    rintro k ⟨q, hq, hu⟩
    obtain ⟨q', g1, _, g3, _⟩ := (hc.alike (mvQ_same hk pk qp.gen by_)).get hq
    exact ⟨q', g1, by rw [g3]; exact hu⟩
  refine htr.induct ?_ ?_
  · rw [und_root, und_root]
  · intro k hu hk0 ih
    by_cases hkh : k = hk
    · subst hkh
      unfold Go.Proofs.Ytnbljnpfmeidfaa.und
      rw [decide_eq_true (way_self htc (husd k hu)), decide_eq_true (way_self htr hu)]
    · obtain ⟨q, hq, hqu⟩ := hu
      rw [und_cons htc (husd k ⟨q, hq, hqu⟩) hk0, und_cons htr ⟨q, hq, hqu⟩ hk0, h.upNot hc hq hqu hkh, ih]
/-- who was not below goes the same way up -/
theorem MvOk.way (h : MvOk l hk pk qh qp by_) (hc : Part l (mvQ hk pk qp.gen by_) (belowB l hk) c) : ∀ k, Usd l k → Go.Proofs.Ytnbljnpfmeidfaa.und l k hk = false → Go.Proofs.Ytnbljnpfmeidfaa.way c k = Go.Proofs.Ytnbljnpfmeidfaa.way l k := by
  have htr := h.tr
  have htc := h.moved hc
  refine htr.induct ?_ ?_
  · intro _; rw [way_root, way_root]
  · rintro k ⟨q, hq, hu⟩ hk0 ih hn
    have hkh : k ≠ hk := by
      rintro rfl
      unfold Go.Proofs.Ytnbljnpfmeidfaa.und at hn
      exact of_decide_eq_false hn (way_self htr ⟨q, hq, hu⟩)
    obtain ⟨q', g1, _, g3, _⟩ := (hc.alike (mvQ_same hk pk qp.gen by_)).get hq
    rw [way_cons htc ⟨q', g1, by rw [g3]; exact hu⟩ hk0, way_cons htr ⟨q, hq, hu⟩ hk0, h.upNot hc hq hu hkh, ih ?_]
    rw [und_cons htr ⟨q, hq, hu⟩ hk0] at hn
    simp at hn
    exact hn.2
end
end Go.Proofs.Ytnbljnpfmeidfaa
