/- Plain facts on bands: what all steps keep. No program in sight but for the band's record. -/
import Derived.Test.YtbhiinodejhggaaQuotaR
namespace Go.Proofs.Ytbhiinodejhggaa
open Go Go.RowKit
set_option linter.unusedVariables false

theorem sum_set : ∀ (l : List Int) (k : Nat) (x o : Int), l[k]? = some o → (l.set k x).sum = l.sum - o + x
  | [], k, x, o, h => by simp at h
  | a :: l, 0, x, o, h => by simp at h; subst h; simp [List.sum_cons]; omega
  | a :: l, k + 1, x, o, h => by
    have ih := sum_set l k x o (by simpa using h)
    simp [List.sum_cons, ih]; omega
/-- the time that is there -/
def psum (l : List Int) : Int := (l.map (fun x => max x 0)).sum
theorem psum_set (l : List Int) (k : Nat) (x o : Int) (h : l[k]? = some o) : psum (l.set k x) = psum l - max o 0 + max x 0 := by
  unfold psum
  rw [List.map_set, sum_set (l.map (fun x => max x 0)) k (max x 0) (max o 0) (by rw [List.getElem?_map, h]; rfl)]
theorem psum_nonneg : ∀ l : List Int, 0 ≤ psum l
  | [] => by simp [psum]
  | a :: l => by have := psum_nonneg l; simp [psum, List.sum_cons] at this ⊢; omega
theorem psum_get : ∀ (l : List Int) (k : Nat) (o : Int), l[k]? = some o → o ≤ psum l
  | [], k, o, h => by simp at h
  | a :: l, 0, o, h => by simp at h; subst h; have := psum_nonneg l; simp [psum, List.sum_cons] at this ⊢; omega
  | a :: l, k + 1, o, h => by
    have ih := psum_get l k o (by simpa using h)
    simp [psum, List.sum_cons] at ih ⊢; omega
theorem sum_low (d : Int) : ∀ l : List Int, (∀ x ∈ l, -d ≤ x) → -d * l.length ≤ l.sum
  | [], _ => by simp
  | a :: l, h => by
    have ih := sum_low d l (fun x hx => h x (List.mem_cons_of_mem _ hx))
    have h0 := h a (List.mem_cons_self ..)
    rw [List.sum_cons, List.length_cons, Int.natCast_succ, Int.mul_add]
    omega
theorem sum_high (d : Int) : ∀ l : List Int, (∀ x ∈ l, x ≤ d) → l.sum ≤ d * l.length
  | [], _ => by simp
  | a :: l, h => by
    have ih := sum_high d l (fun x hx => h x (List.mem_cons_of_mem _ hx))
    have h0 := h a (List.mem_cons_self ..)
    rw [List.sum_cons, List.length_cons, Int.natCast_succ, Int.mul_add]
    omega
theorem sum_min (l : List Int) : (l.map (fun x => min x 0)).sum ≤ 0 := by
  have := sum_high 0 (l.map (fun x => min x 0)) (fun x hx => by obtain ⟨y, _, rfl⟩ := List.mem_map.1 hx; omega)
  omega
theorem psum_min (l : List Int) : psum (l.map (fun x => min x 0)) = 0 := by
  induction l with
  | nil => rfl
  | cons a l ih => simp [psum, List.sum_cons] at ih ⊢; omega
theorem sum_psum (l : List Int) : l.sum ≤ psum l := by
  induction l with
  | nil => simp [psum]
  | cons a l ih => simp [psum, List.sum_cons] at ih ⊢; omega

/-- what a P has -/
def Bd.at (b : Bd) (k : Nat) : Int := b.l.getD k 0
theorem Bd.at_get {b : Bd} {k : Nat} (h : k < b.l.length) : b.l[k]? = some (b.at k) := by
  unfold Bd.at
  rw [List.getD_eq_getElem?_getD, List.getElem?_eq_getElem h]; rfl
theorem Bd.at_of {b : Bd} {k : Nat} {o : Int} (h : b.l[k]? = some o) : b.at k = o := by
  unfold Bd.at
  rw [List.getD_eq_getElem?_getD, h]; rfl
def Bd.Ens (b : Bd) (k : Nat) : Bd := b.ens k (b.at k)
def Bd.May (b : Bd) (k : Nat) : Bool := b.may (b.at k)
def Bd.Chd (b : Bd) (k : Nat) (ns : Int) : Bd := b.charged k (b.at k) ns
def Bd.Back (b : Bd) (k : Nat) : Bd := b.back k (b.at k)
def Bd.Chg (b : Bd) (k : Nat) (ns : Int) : Bd := (b.Chd k ns).Ens k
def Bd.serve (b : Bd) (kd : Int) (k : Nat) (ns : Int) : Bd := if kd = 1 then b.Back k else if b.May k = true then (b.Ens k).Chg k ns else b.Ens k

/-- what holds of a limited band; n: how many Ps; d: the longest tick; began: all local times at the last refill -/
structure BInv (n : Nat) (q s d began : Int) (b : Bd) : Prop where
  len : b.l.length = n
  hq : b.q = q
  hs : b.s = s
  pool : 0 ≤ b.pool
  has : b.pool + psum b.l ≤ q
  low : ∀ x ∈ b.l, -d ≤ x
  spent : b.spent = q - b.pool + began - b.l.sum
  spent0 : 0 ≤ b.spent
/-- the terms -/
structure Terms (n : Nat) (q s d began : Int) : Prop where
  hn : 1 ≤ n ∧ n ≤ 64
  hq : 1 ≤ q ∧ q ≤ 4294967296
  hs : 1 ≤ s ∧ s ≤ 4294967296
  hd : 0 ≤ d ∧ d ≤ 1000000000
  hb : began ≤ 0 ∧ -64000000000 ≤ began
theorem low_sum {n : Nat} {d : Int} {l : List Int} (hn : l.length = n) (hn2 : n ≤ 64) (h0 : 0 ≤ d) (hl : ∀ x ∈ l, -d ≤ x) : -(d * n) ≤ l.sum ∧ -(d * 64) ≤ l.sum := by
  have := sum_low d l hl
  rw [hn, Int.neg_mul] at this
  have h2 : d * (n : Int) ≤ d * 64 := Int.mul_le_mul_of_nonneg_left (by omega) h0
  omega
theorem BInv.small {n : Nat} {q s d began : Int} {b : Bd} (h : BInv n q s d began b) (t : Terms n q s d began) : b.Small := by
  obtain ⟨h1, h2⟩ := low_sum h.len t.hn.2 t.hd.1 h.low
  have hp := psum_nonneg b.l
  have hh := h.has
  have h0 := h.pool
  have hs := h.spent
  have hs0 := h.spent0
  obtain ⟨q1, q2⟩ := t.hq
  obtain ⟨s1, s2⟩ := t.hs
  obtain ⟨d1, d2⟩ := t.hd
  obtain ⟨b1, b2⟩ := t.hb
  have d64 : d * 64 ≤ 64000000000 := by omega
  refine ⟨by rw [h.hq]; omega, by rw [h.hs]; omega, by omega, by omega, fun x hx => ?_⟩
  obtain ⟨k, hk⟩ := List.getElem?_of_mem hx
  have := psum_get b.l k x hk
  have := h.low x hx
  omega
theorem BInv.most {n : Nat} {q s d began : Int} {b : Bd} (h : BInv n q s d began b) (t : Terms n q s d began) : b.spent ≤ q + d * n := by
  obtain ⟨h1, h2⟩ := low_sum h.len t.hn.2 t.hd.1 h.low
  have h0 := h.pool
  have hs := h.spent
  obtain ⟨b1, b2⟩ := t.hb
  omega
theorem mem_set_of {l : List Int} {k : Nat} {x y : Int} (h : y ∈ l.set k x) : y = x ∨ y ∈ l := by
  rcases List.mem_or_eq_of_mem_set h with h | h
  · exact .inr h
  · exact .inl h
/-- what Ensure leaves -/
theorem BInv.ens {n : Nat} {q s d began : Int} {b : Bd} (h : BInv n q s d began b) (t : Terms n q s d began) (k : Nat) (hk : k < n) : BInv n q s d began (b.Ens k) := by
  have hg := Bd.at_get (b := b) (k := k) (by rw [h.len]; exact hk)
  unfold Bd.Ens Bd.ens
  rw [if_neg (by rw [h.hq]; have := t.hq; omega)]
  split
  · exact h
  · rename_i ho
    have hlow := h.low _ (List.mem_of_getElem? hg)
    have h0 := h.pool
    have hhas := h.has
    have hsp := h.spent
    have hsl := h.hs
    obtain ⟨s1, s2⟩ := t.hs
    unfold Bd.taken Bd.take
    refine ⟨by simpa using h.len, h.hq, h.hs, ?_, ?_, ?_, ?_, h.spent0⟩
    · show 0 ≤ b.pool - min b.pool (b.s - b.at k); omega
    · show b.pool - min b.pool (b.s - b.at k) + psum (b.l.set k (b.at k + min b.pool (b.s - b.at k))) ≤ q
      rw [psum_set _ _ _ _ hg]
      omega
    · intro x hx
      rcases mem_set_of hx with rfl | hx
      · omega
      · exact h.low x hx
    · show b.spent = q - (b.pool - min b.pool (b.s - b.at k)) + began - (b.l.set k (b.at k + min b.pool (b.s - b.at k))).sum
      rw [sum_set _ _ _ _ hg]
      omega
/-- Ensure answers whether there is time behind it -/
theorem BInv.may {n : Nat} {q s d began : Int} {b : Bd} (h : BInv n q s d began b) (t : Terms n q s d began) (k : Nat) (hk : k < n) : b.May k = decide (0 < (b.Ens k).at k) := by
  have hg := Bd.at_get (b := b) (k := k) (by rw [h.len]; exact hk)
  unfold Bd.May Bd.may Bd.Ens Bd.ens
  have hq : ¬ b.q = 0 := by rw [h.hq]; have := t.hq; omega
  rw [if_neg hq, if_neg hq]
  split
  · rename_i ho
    exact (decide_eq_true ho).symm
  · have : (b.taken k (b.at k)).at k = b.at k + b.take (b.at k) := Bd.at_of (by unfold Bd.taken; exact List.getElem?_set_self (by rw [h.len]; exact hk))
    rw [this]
theorem BInv.chd {n : Nat} {q s d began : Int} {b : Bd} (h : BInv n q s d began b) (t : Terms n q s d began) (k : Nat) (hk : k < n) (ns : Int) (h0 : 0 ≤ ns) (h1 : ns ≤ d) (ho : 0 < b.at k) : BInv n q s d began (b.Chd k ns) := by
  have hg := Bd.at_get (b := b) (k := k) (by rw [h.len]; exact hk)
  have hhas := h.has
  have hsp := h.spent
  have hs0 := h.spent0
  unfold Bd.Chd Bd.charged
  rw [if_neg (by rw [h.hq]; have := t.hq; omega)]
  refine ⟨by simpa using h.len, h.hq, h.hs, h.pool, ?_, ?_, ?_, ?_⟩
  · show b.pool + psum (b.l.set k (b.at k - ns)) ≤ q
    rw [psum_set _ _ _ _ hg]
    omega
  · intro x hx
    rcases mem_set_of hx with rfl | hx
    · omega
    · exact h.low x hx
  · show b.spent + ns = q - b.pool + began - (b.l.set k (b.at k - ns)).sum
    rw [sum_set _ _ _ _ hg]
    omega
  · show 0 ≤ b.spent + ns; omega
theorem BInv.back {n : Nat} {q s d began : Int} {b : Bd} (h : BInv n q s d began b) (t : Terms n q s d began) (k : Nat) (hk : k < n) : BInv n q s d began (b.Back k) := by
  have hg := Bd.at_get (b := b) (k := k) (by rw [h.len]; exact hk)
  have hlow := h.low _ (List.mem_of_getElem? hg)
  have hd := t.hd
  have h0 := h.pool
  have hhas := h.has
  have hsp := h.spent
  unfold Bd.Back Bd.back
  refine ⟨by simpa using h.len, h.hq, h.hs, ?_, ?_, ?_, ?_, h.spent0⟩
  · show 0 ≤ b.pool + max (b.at k) 0; omega
  · show b.pool + max (b.at k) 0 + psum (b.l.set k (b.at k - max (b.at k) 0)) ≤ q
    rw [psum_set _ _ _ _ hg]
    omega
  · intro x hx
    rcases mem_set_of hx with rfl | hx
    · omega
    · exact h.low x hx
  · show b.spent = q - (b.pool + max (b.at k) 0) + began - (b.l.set k (b.at k - max (b.at k) 0)).sum
    rw [sum_set _ _ _ _ hg]
    omega
theorem BInv.serve {n : Nat} {q s d began : Int} {b : Bd} (h : BInv n q s d began b) (t : Terms n q s d began) (kd : Int) (k : Nat) (hk : k < n) (ns : Int) (h0 : 0 ≤ ns) (h1 : ns ≤ d) : BInv n q s d began (b.serve kd k ns) := by
  unfold Bd.serve
  split
  · exact h.back t k hk
  · split
    · rename_i hm
      rw [h.may t k hk] at hm
      exact ((h.ens t k hk).chd t k hk ns h0 h1 (by simpa using hm)).ens t k hk
    · exact h.ens t k hk
theorem BInv.refill {n : Nat} {q s d began : Int} {b : Bd} (h : BInv n q s d began b) (t : Terms n q s d began) : BInv n q s d (b.refill.l.sum) b.refill ∧ Terms n q s d (b.refill.l.sum) := by
  have hd := t.hd
  have hq := t.hq
  have hlow : ∀ x ∈ b.refill.l, -d ≤ x := by
    intro x hx
    obtain ⟨y, hy, rfl⟩ := List.mem_map.1 hx
    have := h.low y hy
    omega
  have hlen : b.refill.l.length = n := by show (b.l.map _).length = n; simpa using h.len
  refine ⟨⟨hlen, h.hq, h.hs, ?_, ?_, hlow, ?_, ?_⟩, t.hn, t.hq, t.hs, t.hd, ?_, ?_⟩
  · show 0 ≤ b.q; rw [h.hq]; omega
  · show b.q + psum (b.l.map (fun x => min x 0)) ≤ q
    rw [psum_min, h.hq]; omega
  · show 0 = q - b.q + b.refill.l.sum - b.refill.l.sum
    rw [h.hq]; omega
  · show (0 : Int) ≤ 0; omega
  · exact sum_min _
  · have := (low_sum hlen t.hn.2 hd.1 hlow).2
    omega
theorem psum_zero (n : Nat) : psum (List.replicate n 0) = 0 := by
  induction n with
  | zero => rfl
  | succ n ih => simp [psum] at ih ⊢
theorem sum_zero (n : Nat) : (List.replicate n (0 : Int)).sum = 0 := by simp
theorem BInv.start (n : Nat) (q s d : Int) (t : Terms n q s d 0) : BInv n q s d 0 ⟨q, s, q, 0, List.replicate n 0⟩ := by
  have hq := t.hq
  have hd := t.hd
  refine ⟨by simp, rfl, rfl, by show 0 ≤ q; omega, ?_, ?_, ?_, by show (0 : Int) ≤ 0; omega⟩
  · show q + psum (List.replicate n 0) ≤ q
    rw [psum_zero]; omega
  · intro x hx
    rw [List.eq_of_mem_replicate hx]; omega
  · show 0 = q - q + 0 - (List.replicate n (0 : Int)).sum
    rw [sum_zero]; omega
end Go.Proofs.Ytbhiinodejhggaa
