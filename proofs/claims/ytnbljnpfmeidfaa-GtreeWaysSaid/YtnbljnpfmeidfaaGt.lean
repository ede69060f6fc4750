/- Plain facts on groups within one another: the way up from a group, its length, who is below whom. No program in sight; no conditions beyond those in each statement. -/
import Derived.Test.YtnbljnpfmeidfaaPool
namespace Go.Proofs.Ytnbljnpfmeidfaa
open Go
set_option linter.unusedVariables false

def plz : Pl := ⟨.zero, 0, false, 0⟩
def upI (l : List Pl) (k : Nat) : Nat := (l.getD k plz).x.ui.toNat
theorem getD_of {l : List Pl} {k : Nat} {q : Pl} (h : l[k]? = some q) : l.getD k plz = q := by rw [List.getD_eq_getElem?_getD, h]; rfl
/-- a place that is used -/
def Usd (l : List Pl) (k : Nat) : Prop := ∃ q, l[k]? = some q ∧ q.used = true
def dep (l : List Pl) (k : Nat) : Nat := (l.getD k plz).x.dp.toNat
/-- groups within one another: the root, and each other one within one that is used, a step deeper than it, eight steps at most -/
structure Tr (l : List Pl) : Prop where
  root : ∃ q, l[0]? = some q ∧ q.used = true ∧ q.gen = 0 ∧ q.x = ⟨-1, 0, 0, 0⟩
  kid : ∀ (k : Nat) (q : Pl), l[k]? = some q → q.used = true → k ≠ 0 → ∃ (j : Nat) (p : Pl), l[j]? = some p ∧ p.used = true ∧ q.x = ⟨j, j, p.gen, p.x.dp + 1⟩ ∧ 1 ≤ q.x.dp ∧ q.x.dp ≤ 8
theorem Tr.usd0 {l : List Pl} (h : Tr l) : Usd l 0 := by obtain ⟨q, hq, hu, _⟩ := h.root; exact ⟨q, hq, hu⟩
theorem Tr.dp {l : List Pl} (h : Tr l) {k : Nat} {q : Pl} (hq : l[k]? = some q) (hu : q.used = true) : 0 ≤ q.x.dp ∧ q.x.dp ≤ 8 ∧ (q.x.dp = 0 ↔ k = 0) ∧ q.x.dp = (dep l k : Nat) := by
  have hd : dep l k = q.x.dp.toNat := by unfold dep; rw [getD_of hq]
  by_cases hk : k = 0
  · subst hk
    obtain ⟨q', hq', _, _, hx⟩ := h.root
    rw [hq] at hq'
    cases hq'
    rw [hd, hx]
    simp
  · obtain ⟨j, p, _, _, _, h1, h2⟩ := h.kid k q hq hu hk
    rw [hd]
    omega
theorem Tr.up {l : List Pl} (h : Tr l) {k : Nat} (hu : Usd l k) (hk : k ≠ 0) : Usd l (upI l k) ∧ dep l k = dep l (upI l k) + 1 := by
  obtain ⟨q, hq, hu⟩ := hu
  obtain ⟨j, p, hp, hpu, hx, h1, h2⟩ := h.kid k q hq hu hk
  have hj : upI l k = j := by unfold upI; rw [getD_of hq, hx]; simp
  rw [hj]
  have e1 := (h.dp hq hu).2.2.2
  have e2 := (h.dp hp hpu).2.2.2
  refine ⟨⟨p, hp, hpu⟩, ?_⟩
  rw [hx] at e1
  simp only at e1
  omega
theorem Tr.dep0 {l : List Pl} (h : Tr l) {k : Nat} (hu : Usd l k) : dep l k ≤ 8 ∧ (dep l k = 0 ↔ k = 0) := by
  obtain ⟨q, hq, hu⟩ := hu
  obtain ⟨h1, h2, h3, h4⟩ := h.dp hq hu
  omega

/-- the way up, from a group to the root -/
def wayN (l : List Pl) : Nat → Nat → List Nat
  | 0, k => [k]
  | n + 1, k => if k = 0 then [0] else k :: wayN l n (upI l k)
def way (l : List Pl) (k : Nat) : List Nat := wayN l 8 k
theorem wayN_root (l : List Pl) : ∀ n, wayN l n 0 = [0]
  | 0 => rfl
  | n + 1 => by simp [wayN]
theorem wayN_any {l : List Pl} (h : Tr l) : ∀ (n m k : Nat), Usd l k → dep l k ≤ n → dep l k ≤ m → wayN l n k = wayN l m k
  | 0, m, k, hu, hn, hm => by
    have hk : k = 0 := (h.dep0 hu).2.1 (by omega)
    subst hk
    rw [wayN_root, wayN_root]
  | n + 1, 0, k, hu, hn, hm => by
    have hk : k = 0 := (h.dep0 hu).2.1 (by omega)
    subst hk
    rw [wayN_root, wayN_root]
  | n + 1, m + 1, k, hu, hn, hm => by
    by_cases hk : k = 0
    · subst hk; rw [wayN_root, wayN_root]
    · obtain ⟨h1, h2⟩ := h.up hu hk
      simp only [wayN, if_neg hk]
      rw [wayN_any h n m (upI l k) h1 (by omega) (by omega)]
theorem way_root (l : List Pl) : way l 0 = [0] := wayN_root l 8
theorem way_cons {l : List Pl} (h : Tr l) {k : Nat} (hu : Usd l k) (hk : k ≠ 0) : way l k = k :: way l (upI l k) := by
  obtain ⟨h1, h2⟩ := h.up hu hk
  have h3 := (h.dep0 hu).1
  show wayN l 8 k = k :: wayN l 8 (upI l k)
  rw [show wayN l 8 k = if k = 0 then [0] else k :: wayN l 7 (upI l k) from rfl, if_neg hk, wayN_any h 7 8 (upI l k) h1 (by omega) (by omega)]
/-- what holds of the root, and of each group if of the one it is within, holds of all -/
theorem Tr.induct {l : List Pl} (h : Tr l) {P : Nat → Prop} (h0 : P 0) (hs : ∀ k, Usd l k → k ≠ 0 → P (upI l k) → P k) : ∀ k, Usd l k → P k := by
  have go : ∀ n k, dep l k ≤ n → Usd l k → P k := by
    intro n
    induction n with
    | zero => intro k hn hu; rw [(h.dep0 hu).2.1 (by omega)]; exact h0
    | succ n ih =>
      intro k hn hu
      by_cases hk : k = 0
      · rw [hk]; exact h0
      · obtain ⟨h1, h2⟩ := h.up hu hk
        exact hs k hu hk (ih _ (by omega) h1)
  exact fun k hu => go _ k (Nat.le_refl _) hu
theorem way_length {l : List Pl} (h : Tr l) : ∀ k, Usd l k → (way l k).length = dep l k + 1 :=
  h.induct (by rw [way_root]; have := (h.dep0 h.usd0).2.2 rfl; simp [this]) (fun k hu hk ih => by rw [way_cons h hu hk, List.length_cons, ih, (h.up hu hk).2])
theorem way_self {l : List Pl} (h : Tr l) {k : Nat} (hu : Usd l k) : k ∈ way l k := by
  by_cases hk : k = 0
  · subst hk; rw [way_root]; simp
  · rw [way_cons h hu hk]; simp
theorem way_zero {l : List Pl} (h : Tr l) : ∀ k, Usd l k → 0 ∈ way l k :=
  h.induct (by rw [way_root]; simp) (fun k hu hk ih => by rw [way_cons h hu hk]; exact List.mem_cons_of_mem _ ih)
theorem way_usd {l : List Pl} (h : Tr l) : ∀ k, Usd l k → ∀ j ∈ way l k, Usd l j :=
  h.induct (by rw [way_root]; intro j hj; rw [List.mem_singleton.1 hj]; exact h.usd0) (fun k hu hk ih => by
    rw [way_cons h hu hk]
    intro j hj
    rcases List.mem_cons.1 hj with rfl | hj
    · exact hu
    · exact ih j hj)
theorem way_dep {l : List Pl} (h : Tr l) : ∀ k, Usd l k → ∀ j ∈ way l k, dep l j ≤ dep l k ∧ (dep l j = dep l k → j = k) :=
  h.induct (by rw [way_root]; intro j hj; rw [List.mem_singleton.1 hj]; simp) (fun k hu hk ih => by
    rw [way_cons h hu hk]
    obtain ⟨h1, h2⟩ := h.up hu hk
    intro j hj
    rcases List.mem_cons.1 hj with rfl | hj
    · simp
    · obtain ⟨h3, h4⟩ := ih j hj
      constructor
      · omega
      · intro e; omega)
theorem way_trans {l : List Pl} (h : Tr l) : ∀ k, Usd l k → ∀ j ∈ way l k, ∀ i ∈ way l j, i ∈ way l k :=
  h.induct (by rw [way_root]; intro j hj i hi; rw [List.mem_singleton.1 hj, way_root] at hi; exact hi) (fun k hu hk ih => by
    intro j hj i hi
    rw [way_cons h hu hk] at hj
    rcases List.mem_cons.1 hj with rfl | hj
    · exact hi
    · rw [way_cons h hu hk]; exact List.mem_cons_of_mem _ (ih j hj i hi))
theorem way_anti {l : List Pl} (h : Tr l) {a b : Nat} (ha : Usd l a) (hb : Usd l b) (h1 : a ∈ way l b) (h2 : b ∈ way l a) : a = b := by
  have e1 := way_dep h b hb a h1
  have e2 := way_dep h a ha b h2
  exact e1.2 (by omega)
/-- is one below another? -/
def und (l : List Pl) (a b : Nat) : Bool := decide (b ∈ way l a)
theorem und_root {l : List Pl} {b : Nat} : und l 0 b = decide (b = 0) := by unfold und; rw [way_root]; simp
theorem und_cons {l : List Pl} (h : Tr l) {a : Nat} (hu : Usd l a) (ha : a ≠ 0) (b : Nat) : und l a b = (decide (b = a) || und l (upI l a) b) := by
  unfold und; rw [way_cons h hu ha]; simp [Bool.decide_or]
/-- the places from the root's kid down to it -/
def pth (l : List Pl) (k : Nat) : List Nat := (way l k).dropLast.reverse
theorem pth_root (l : List Pl) : pth l 0 = [] := by unfold pth; rw [way_root]; rfl
theorem way_ne (l : List Pl) (k : Nat) : way l k ≠ [] := by
  unfold way wayN
  split <;> simp
theorem pth_cons {l : List Pl} (h : Tr l) {k : Nat} (hu : Usd l k) (hk : k ≠ 0) : pth l k = pth l (upI l k) ++ [k] := by
  unfold pth
  rw [way_cons h hu hk, List.dropLast_cons_of_ne_nil (way_ne l _), List.reverse_cons]
theorem pth_length {l : List Pl} (h : Tr l) : ∀ k, Usd l k → (pth l k).length = dep l k :=
  h.induct (by rw [pth_root]; exact ((h.dep0 h.usd0).2.2 rfl).symm) (fun k hu hk ih => by rw [pth_cons h hu hk, List.length_append, ih, (h.up hu hk).2]; rfl)
end Go.Proofs.Ytnbljnpfmeidfaa
