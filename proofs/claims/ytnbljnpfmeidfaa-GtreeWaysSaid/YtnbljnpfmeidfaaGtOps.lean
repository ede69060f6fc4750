/- Plain facts: groups within one another behind a creation and behind a destruction. No program in sight; no conditions beyond those in each statement. -/
import Derived.Test.YtnbljnpfmeidfaaPs
import Derived.Test.YtnbljnpfmeidfaaGt
namespace Go.Proofs.Ytnbljnpfmeidfaa
open Go
set_option linter.unusedVariables false

theorem Tr.more {l l' : List Pl} (h : Tr l) (h1 : ∀ (k : Nat) (q : Pl), l[k]? = some q → q.used = true → l'[k]? = some q)
    (h2 : ∀ (k : Nat) (q : Pl), l'[k]? = some q → q.used = true → l[k]? = some q ∨ (k ≠ 0 ∧ ∃ (j : Nat) (p : Pl), l[j]? = some p ∧ p.used = true ∧ q.x = ⟨j, j, p.gen, p.x.dp + 1⟩ ∧ 1 ≤ q.x.dp ∧ q.x.dp ≤ 8)) : Tr l' := by
  refine ⟨?_, ?_⟩
  · obtain ⟨q, hq, hu, hr⟩ := h.root
    exact ⟨q, h1 0 q hq hu, hu, hr⟩
  · intro k q hq hu hk
    rcases h2 k q hq hu with h3 | ⟨_, j, p, h4, h5, h6⟩
    · obtain ⟨j, p, h4, h5, h6⟩ := h.kid k q h3 hu hk
      exact ⟨j, p, h1 j p h4 h5, h5, h6⟩
    · exact ⟨j, p, h1 j p h4 h5, h5, h6⟩
theorem Tr.less {l : List Pl} (h : Tr l) {k : Nat} (hk : k ≠ 0) (hno : ∀ (j : Nat) (q : Pl), l[j]? = some q → q.used = true → j ≠ 0 → q.x.ui ≠ k) (q' : Pl) (hq : q'.used = false) : Tr (l.set k q') := by
  refine ⟨?_, ?_⟩
  · obtain ⟨q, hq, hu, hr⟩ := h.root
    exact ⟨q, by rw [List.getElem?_set_ne hk]; exact hq, hu, hr⟩
  · intro j q hj hu hj0
    by_cases hkj : k = j
    · subst hkj
      by_cases hl : k < l.length
      · rw [List.getElem?_set_self hl] at hj
        cases hj
        rw [hq] at hu
        cases hu
      · rw [List.getElem?_eq_none (by simp; omega)] at hj
        cases hj
    · rw [List.getElem?_set_ne hkj] at hj
      obtain ⟨i, p, h4, h5, h6, h7⟩ := h.kid j q hj hu hj0
      have := hno j q hj hu hj0
      have hki : k ≠ i := by
        rintro rfl
        rw [h6] at this
        exact this rfl
      exact ⟨i, p, by rw [List.getElem?_set_ne hki]; exact h4, h5, h6, h7⟩
theorem Tr.put {s : Ps} {b : Nat} (h : Tr s.l) (ho : s.Ok 32 b) {k : Nat} {q : Pl} (hq : s.l[k]? = some q) (hu : q.used = true) (hd : q.x.dp < 8) : Tr (s.put 32 ⟨k, k, q.gen, q.x.dp + 1⟩).l := by
  have hdp := h.dp hq hu
  unfold Ps.put
  split
  · exact h
  · have hc := ho.chain
    cases hst : s.st with
    | nil =>
      refine h.more (fun j p hj hp => by rw [List.getElem?_append_left (List.getElem?_eq_some_iff.1 hj).1]; exact hj) (fun j p hj hp => ?_)
      by_cases hl : j < s.l.length
      · rw [List.getElem?_append_left hl] at hj
        exact .inl hj
      · rw [List.getElem?_append_right (by omega)] at hj
        have hj0 : j - s.l.length = 0 := by have := (List.getElem?_eq_some_iff.1 hj).1; simpa using this
        rw [hj0] at hj
        simp at hj
        subst hj
        have hkl := (List.getElem?_eq_some_iff.1 hq).1
        exact .inr ⟨by omega, k, q, hq, hu, rfl, by show 1 ≤ q.x.dp + 1; omega, by show q.x.dp + 1 ≤ 8; omega⟩
    | cons j st =>
      rw [hst] at hc
      obtain ⟨hf, q0, hq0, hu0, hc'⟩ := hc
      have hj0 : j ≠ 0 := by
        rintro rfl
        obtain ⟨q1, h1, h2, _⟩ := h.root
        rw [hq0] at h1
        cases h1
        rw [hu0] at h2
        cases h2
      refine h.more (fun i p hi hp => ?_) (fun i p hi hp => ?_)
      · have hij : j ≠ i := by
          rintro rfl
          rw [hq0] at hi
          cases hi
          rw [hu0] at hp
          cases hp
        rw [List.getElem?_set_ne hij]; exact hi
      · by_cases hij : j = i
        · subst hij
          rw [List.getElem?_set_self (List.getElem?_eq_some_iff.1 hq0).1] at hi
          cases hi
          exact .inr ⟨hj0, k, q, hq, hu, rfl, by show 1 ≤ q.x.dp + 1; omega, by show q.x.dp + 1 ≤ 8; omega⟩
        · rw [List.getElem?_set_ne hij] at hi
          exact .inl hi
/-- Create -/
def Ps.cre (s : Ps) (i g : Int) : Ps := match s.find i g with
  | none => s
  | some k => if dep s.l k = 8 then s else s.put 32 ⟨k, k, g, dep s.l k + 1⟩
def Ps.creI (s : Ps) (i g : Int) : Nat := match s.find i g with
  | none => 0
  | some k => if dep s.l k = 8 then 0 else s.putI 32
def Ps.creG (s : Ps) (i g : Int) : Int := match s.find i g with
  | none => 0
  | some k => if dep s.l k = 8 then 0 else s.putG 32
def Ps.creE (s : Ps) (i g : Int) : Int := match s.find i g with
  | none => 2
  | some k => if dep s.l k = 8 then 5 else s.putE 32
theorem Tr.cre {s : Ps} {b : Nat} (h : Tr s.l) (ho : s.Ok 32 b) (i g : Int) : Tr (s.cre i g).l := by
  unfold Ps.cre
  split
  · exact h
  · rename_i k hk
    split
    · exact h
    · rename_i hd
      obtain ⟨q, ⟨_, hq, hu, hg⟩, _⟩ := find_yes hk
      obtain ⟨h1, h2, h3, h4⟩ := h.dp hq hu
      have := h.put ho hq hu (by omega)
      rw [hg, h4] at this
      exact this
theorem Ps.Ok.cre {s : Ps} {b : Nat} (h : s.Ok 32 b) (i g : Int) : (s.cre i g).Ok 32 (b + 1) := by
  unfold Ps.cre
  split
  · exact h.more
  · split
    · exact h.more
    · exact h.put _
/-- the root alone -/
def ps0 : Ps := ⟨[⟨⟨-1, 0, 0, 0⟩, 0, true, -1⟩], -1, [], 1⟩
theorem ps0_tr : Tr ps0.l := by
  refine ⟨⟨_, rfl, rfl, rfl, rfl⟩, ?_⟩
  intro k q hq hu hk
  have := (List.getElem?_eq_some_iff.1 hq).1
  simp [ps0] at this
  exact absurd this hk
theorem ps0_put : (⟨[], -1, [], 0⟩ : Ps).put 32 ⟨-1, 0, 0, 0⟩ = ps0 := by simp [Ps.put, ps0]
theorem ps0_ok : ps0.Ok 32 1 := by rw [← ps0_put]; exact (Ps.Ok.start 32 (by omega)).put _
end Go.Proofs.Ytnbljnpfmeidfaa
