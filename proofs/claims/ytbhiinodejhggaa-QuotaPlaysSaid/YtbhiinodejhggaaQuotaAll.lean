/- The program's and the document's steps of a band, side by side, for any P: they answer the same and leave the same. Condition: the band is within bounds. -/
import Derived.Test.YtbhiinodejhggaaQuotaSame
namespace Go.Proofs.Ytbhiinodejhggaa
open Go Go.RowKit Go.ChangeShapes Go.WideShapes
set_option linter.unusedVariables false

/-- bounds behind k steps -/
structure Lim (k : Nat) (b : Bd) : Prop where
  q : 0 ≤ b.q ∧ b.q ≤ 1099511627776
  s : 0 ≤ b.s ∧ b.s ≤ 1099511627776
  pool : 0 ≤ b.pool ∧ b.pool ≤ 1099511627776 * (k + 1)
  spent : 0 ≤ b.spent ∧ b.spent ≤ 1000000000 * k
  l : ∀ x ∈ b.l, -(1000000000 * (k : Int)) ≤ x ∧ x ≤ 1099511627776
  none : b.q = 0 → ∀ x ∈ b.l, x = 0
theorem Lim.small {k : Nat} {b : Bd} (h : Lim k b) (hk : k ≤ 101) : b.Small := by
  obtain ⟨q1, q2⟩ := h.q
  obtain ⟨s1, s2⟩ := h.s
  obtain ⟨p1, p2⟩ := h.pool
  obtain ⟨t1, t2⟩ := h.spent
  exact ⟨by omega, by omega, by omega, by omega, fun x hx => by have := h.l x hx; omega⟩
theorem Lim.more {k : Nat} {b : Bd} (h : Lim k b) : Lim (k + 1) b := by
  obtain ⟨p1, p2⟩ := h.pool
  obtain ⟨t1, t2⟩ := h.spent
  exact ⟨h.q, h.s, by omega, by omega, fun x hx => by have := h.l x hx; omega, h.none⟩
theorem Lim.start (n : Nat) : Lim 0 ⟨0, 0, 0, 0, List.replicate n 0⟩ :=
  ⟨by simp, by simp, by simp, by simp, fun x hx => by rw [List.eq_of_mem_replicate hx]; omega, fun _ x hx => List.eq_of_mem_replicate hx⟩
theorem Lim.at {k : Nat} {b : Bd} (h : Lim k b) {j : Nat} (hj : j < b.l.length) : -(1000000000 * (k : Int)) ≤ b.at j ∧ b.at j ≤ 1099511627776 := h.l _ (List.mem_of_getElem? (Bd.at_get hj))
theorem Lim.setTo {k : Nat} {b : Bd} (h : Lim k b) (q s : Int) (hb : ¬ BadSet q s) : Lim (k + 1) (b.setTo q s) := by
  unfold BadSet at hb
  unfold Bd.setTo
  refine ⟨by simp; omega, ?_, by simp; omega, by simp; omega, fun x hx => ?_, fun _ x hx => List.eq_of_mem_replicate hx⟩
  · show 0 ≤ (if q = 0 then 0 else s) ∧ (if q = 0 then 0 else s) ≤ 1099511627776
    split <;> omega
  · rw [List.eq_of_mem_replicate hx]; omega
theorem Lim.ens {k : Nat} {b : Bd} (h : Lim k b) {j : Nat} (hj : j < b.l.length) : Lim k (b.Ens j) := by
  have ha := h.at hj
  obtain ⟨q1, q2⟩ := h.q
  obtain ⟨s1, s2⟩ := h.s
  obtain ⟨p1, p2⟩ := h.pool
  unfold Bd.Ens Bd.ens
  split
  · exact h
  · rename_i hq
    split
    · exact h
    · unfold Bd.taken Bd.take
      refine ⟨h.q, h.s, ?_, h.spent, ?_, fun h0 => absurd h0 hq⟩
      · show 0 ≤ b.pool - min b.pool (b.s - b.at j) ∧ b.pool - min b.pool (b.s - b.at j) ≤ _
        omega
      · intro x hx
        rcases mem_set_of hx with rfl | hx
        · omega
        · exact h.l x hx
theorem Lim.chd {k : Nat} {b : Bd} (h : Lim k b) {j : Nat} (hj : j < b.l.length) (ns : Int) (h0 : 0 ≤ ns) (h1 : ns ≤ 1000000000) : Lim (k + 1) (b.Chd j ns) := by
  have ha := h.at hj
  obtain ⟨p1, p2⟩ := h.pool
  obtain ⟨t1, t2⟩ := h.spent
  unfold Bd.Chd Bd.charged
  split
  · rename_i hq
    exact ⟨h.q, h.s, by show 0 ≤ b.pool ∧ b.pool ≤ _; omega, by show 0 ≤ b.spent + ns ∧ b.spent + ns ≤ _; omega, fun x hx => by have := h.l x hx; omega, h.none⟩
  · rename_i hq
    refine ⟨h.q, h.s, by show 0 ≤ b.pool ∧ b.pool ≤ _; omega, by show 0 ≤ b.spent + ns ∧ b.spent + ns ≤ _; omega, ?_, fun h0 => absurd h0 hq⟩
    intro x hx
    rcases mem_set_of hx with rfl | hx
    · omega
    · have := h.l x hx; omega
theorem Lim.back {k : Nat} {b : Bd} (h : Lim k b) {j : Nat} (hj : j < b.l.length) : Lim (k + 1) (b.Back j) := by
  have ha := h.at hj
  obtain ⟨p1, p2⟩ := h.pool
  obtain ⟨t1, t2⟩ := h.spent
  unfold Bd.Back Bd.back
  refine ⟨h.q, h.s, by show 0 ≤ b.pool + max (b.at j) 0 ∧ b.pool + max (b.at j) 0 ≤ _; omega, by show 0 ≤ b.spent ∧ b.spent ≤ _; omega, ?_, ?_⟩
  · intro x hx
    rcases mem_set_of hx with rfl | hx
    · omega
    · have := h.l x hx; omega
  · intro h0 x hx
    have hz := h.none h0 _ (List.mem_of_getElem? (Bd.at_get hj))
    rcases mem_set_of hx with rfl | hx
    · omega
    · exact h.none h0 x hx
theorem Lim.refill {k : Nat} {b : Bd} (h : Lim k b) : Lim (k + 1) b.refill := by
  obtain ⟨q1, q2⟩ := h.q
  unfold Bd.refill
  refine ⟨h.q, h.s, by show 0 ≤ b.q ∧ b.q ≤ _; omega, by show (0 : Int) ≤ 0 ∧ (0 : Int) ≤ _; omega, ?_, ?_⟩
  · intro x hx
    obtain ⟨y, hy, rfl⟩ := List.mem_map.1 hx
    have := h.l y hy
    omega
  · intro h0 x hx
    obtain ⟨y, hy, rfl⟩ := List.mem_map.1 hx
    have := h.none h0 y hy
    omega

/-- is there such a P? -/
def Bd.inP (b : Bd) (P : Int) : Bool := decide (0 ≤ P ∧ P < b.l.length)
theorem Bd.inP_yes {b : Bd} {P : Int} (h : b.inP P = true) : ∃ k : Nat, P = k ∧ k < b.l.length ∧ P.toNat = k := by
  unfold Bd.inP at h
  have h' := of_decide_eq_true h
  obtain ⟨k, rfl⟩ := Int.eq_ofNat_of_zero_le h'.1
  exact ⟨k, rfl, by omega, by simp⟩
theorem Bd.inP_no {b : Bd} {P : Int} (h : b.inP P = false) : NotP b P := by
  unfold Bd.inP at h
  have h' := of_decide_eq_false h
  unfold NotP
  omega
def Bd.ensP (b : Bd) (P : Int) : Bd := if b.inP P then b.Ens P.toNat else b
def Bd.mayP (b : Bd) (P : Int) : Bool := if b.inP P then b.May P.toNat else false
theorem Lim.ensP {k : Nat} {b : Bd} (h : Lim k b) (P : Int) : Lim (k + 1) (b.ensP P) := by
  unfold Bd.ensP
  split
  · rename_i hp
    obtain ⟨j, rfl, hj, hn⟩ := Bd.inP_yes hp
    rw [hn]
    exact (h.ens hj).more
  · exact h.more
theorem pl_ensure (P : Int) (k : Nat) (w : World) (p : Nat) (b : Bd) (hb : HasBand w p b) (hl : Lim k b) (hk : k ≤ 100) :
    Calls Try.prog 13 #[.pointer (some ⟨p, 0, none⟩), .int .i64 P] w fun e w' => e = .returned (.bool (b.mayP P)) ∧ HasBand w' p (b.ensP P) ∧ Tch (· = p) w w' := by
  unfold Bd.mayP Bd.ensP
  cases hp : b.inP P with
  | true =>
    obtain ⟨j, rfl, hj, hn⟩ := Bd.inP_yes hp
    simp only [if_true, hn]
    exact ensure_k j w p b hb (hl.small (by omega)) hj
  | false => exact (ensure_not P w p b hb (Bd.inP_no hp)).mono fun e w' ⟨he, hw⟩ => ⟨he, hw ▸ hb, hw ▸ Tch.refl _ _⟩
theorem rl_ensure (P : Int) (k : Nat) (w : World) (b : Bd) (g cap : Nat) (h : RefB w b g cap) (hl : Lim k b) (hk : k ≤ 100) :
    Calls Try.prog 24 #[refV b g cap, .int .i64 P] w fun e w' => ∃ g' cap', e = .returned (.tuple #[refV (b.ensP P) g' cap', .bool (b.mayP P)]) ∧ RefB w' (b.ensP P) g' cap' ∧ Below w.heap.size w w' := by
  unfold Bd.mayP Bd.ensP
  cases hp : b.inP P with
  | true =>
    obtain ⟨j, rfl, hj, hn⟩ := Bd.inP_yes hp
    simp only [if_true, hn]
    exact rensure_any j _ w b g cap h (hl.small (by omega)) (Bd.at_get hj)
  | false => exact (rensure_not P w b g cap h (Bd.inP_no hp)).mono fun e w' ⟨he, hw⟩ => ⟨g, cap, he, h.behind hw, hw⟩
instance (q s : Int) : Decidable (BadSet q s) := by unfold BadSet; infer_instance
def badB (q s : Int) : Bool := decide (BadSet q s)
def Bd.setR (b : Bd) (q s : Int) : Bd := if badB q s then b else b.setTo q s
def setE (q s : Int) : Int := if badB q s then 1 else 0
theorem Lim.setR {k : Nat} {b : Bd} (h : Lim k b) (q s : Int) : Lim (k + 1) (b.setR q s) := by
  unfold Bd.setR badB
  split
  · exact h.more
  · rename_i hb
    exact h.setTo q s (by simpa using hb)
theorem pl_set (q s : Int) (w : World) (p : Nat) (b : Bd) (hb : HasBand w p b) :
    Calls Try.prog 22 #[.pointer (some ⟨p, 0, none⟩), .int .i64 q, .int .i64 s] w fun e w' => e = .returned (.int .i64 (setE q s)) ∧ HasBand w' p (b.setR q s) ∧ Tch (· = p) w w' := by
  unfold Bd.setR setE badB
  by_cases h : BadSet q s
  · rw [decide_eq_true h]
    exact (set_bad q s w p h).mono fun e w' ⟨he, hw⟩ => ⟨he, hw ▸ hb, hw ▸ Tch.refl _ _⟩
  · rw [decide_eq_false h]
    exact set_ok q s w p b hb h
theorem rl_set (q s : Int) (w : World) (b : Bd) (g cap : Nat) (hr : RefB w b g cap) :
    Calls Try.prog 23 #[refV b g cap, .int .i64 q, .int .i64 s] w fun e w' => ∃ g' cap', e = .returned (.tuple #[refV (b.setR q s) g' cap', .int .i64 (setE q s)]) ∧ RefB w' (b.setR q s) g' cap' ∧ Below w.heap.size w w' := by
  unfold Bd.setR setE badB
  by_cases h : BadSet q s
  · rw [decide_eq_true h]
    exact (rset_bad q s w b g cap h).mono fun e w' ⟨he, hw⟩ => ⟨g, cap, he, hr.behind hw, hw⟩
  · rw [decide_eq_false h]
    exact rset_ok q s w b g cap hr h
def tickB (ns : Int) : Bool := decide (0 ≤ ns ∧ ns ≤ 1000000000)
def Bd.chR (b : Bd) (P ns : Int) : Bd := if b.inP P then (if tickB ns then b.Chg P.toNat ns else b) else b
def Bd.chM (b : Bd) (P ns : Int) : Bool := if b.inP P then (if tickB ns then (b.Chd P.toNat ns).May P.toNat else false) else false
def Bd.chE (b : Bd) (P ns : Int) : Int := if b.inP P then (if tickB ns then 0 else 8) else 1
theorem Bd.Chd_length (b : Bd) (k : Nat) (ns : Int) : (b.Chd k ns).l.length = b.l.length := by
  unfold Bd.Chd Bd.charged
  split <;> simp
theorem Lim.chR {k : Nat} {b : Bd} (h : Lim k b) (P ns : Int) : Lim (k + 1) (b.chR P ns) := by
  unfold Bd.chR
  split
  · rename_i hp
    obtain ⟨j, rfl, hj, hn⟩ := Bd.inP_yes hp
    rw [hn]
    split
    · rename_i ht
      have ht' := of_decide_eq_true ht
      exact (h.chd hj ns ht'.1 ht'.2).ens (by rw [Bd.Chd_length]; exact hj)
    · exact h.more
  · exact h.more
theorem pl_charge (P ns : Int) (k : Nat) (w : World) (p : Nat) (b : Bd) (hb : HasBand w p b) (hl : Lim k b) (hk : k ≤ 100) :
    Calls Try.prog 25 #[.pointer (some ⟨p, 0, none⟩), .int .i64 P, .int .i64 ns] w fun e w' => e = .returned (.tuple #[.bool (b.chM P ns), .int .i64 (b.chE P ns)]) ∧ HasBand w' p (b.chR P ns) ∧ Tch (· = p) w w' := by
  unfold Bd.chM Bd.chE Bd.chR
  cases hp : b.inP P with
  | true =>
    obtain ⟨j, rfl, hj, hn⟩ := Bd.inP_yes hp
    simp only [if_true, hn]
    cases ht : tickB ns with
    | true =>
      have ht' := of_decide_eq_true ht
      exact charge_k j ns w p b hb (hl.small (by omega)) hj ht'.1 ht'.2 ((hl.chd hj ns ht'.1 ht'.2).small (by omega))
    | false =>
      have ht' := of_decide_eq_false ht
      exact (charge_tick j ns w p b hb hj (by omega)).mono fun e w' ⟨he, hw⟩ => ⟨he, hw ▸ hb, hw ▸ Tch.refl _ _⟩
  | false => exact (charge_not P ns w p b hb (Bd.inP_no hp)).mono fun e w' ⟨he, hw⟩ => ⟨he, hw ▸ hb, hw ▸ Tch.refl _ _⟩
theorem rl_charge (P ns : Int) (k : Nat) (w : World) (b : Bd) (g cap : Nat) (h : RefB w b g cap) (hl : Lim k b) (hk : k ≤ 100) :
    Calls Try.prog 26 #[refV b g cap, .int .i64 P, .int .i64 ns] w fun e w' => ∃ g' cap', e = .returned (.tuple #[refV (b.chR P ns) g' cap', .bool (b.chM P ns), .int .i64 (b.chE P ns)]) ∧ RefB w' (b.chR P ns) g' cap' ∧ Below w.heap.size w w' := by
  unfold Bd.chM Bd.chE Bd.chR
  cases hp : b.inP P with
  | true =>
    obtain ⟨j, rfl, hj, hn⟩ := Bd.inP_yes hp
    simp only [if_true, hn]
    cases ht : tickB ns with
    | true =>
      have ht' := of_decide_eq_true ht
      have c := rcharge_in j _ ns w b g cap h (hl.small (by omega)) (Bd.at_get hj) ht'.1 ht'.2 ((hl.chd hj ns ht'.1 ht'.2).small (by omega))
      unfold Bd.May Bd.Chg Bd.Ens
      rw [Bd.Chd_at ns hj]
      exact c
    | false =>
      have ht' := of_decide_eq_false ht
      exact (rcharge_tick j ns w b g cap h hj (by omega)).mono fun e w' ⟨he, hw⟩ => ⟨g, cap, he, h.behind hw, hw⟩
  | false => exact (rcharge_not P ns w b g cap h (Bd.inP_no hp)).mono fun e w' ⟨he, hw⟩ => ⟨g, cap, he, h.behind hw, hw⟩
def Bd.retR (b : Bd) (P : Int) : Bd := if b.inP P then b.Back P.toNat else b
theorem Lim.retR {k : Nat} {b : Bd} (h : Lim k b) (P : Int) : Lim (k + 1) (b.retR P) := by
  unfold Bd.retR
  split
  · rename_i hp
    obtain ⟨j, rfl, hj, hn⟩ := Bd.inP_yes hp
    rw [hn]
    exact h.back hj
  · exact h.more
theorem pl_return (P : Int) (k : Nat) (w : World) (p : Nat) (b : Bd) (hb : HasBand w p b) (hl : Lim k b) (hk : k ≤ 100) :
    Calls Try.prog 15 #[.pointer (some ⟨p, 0, none⟩), .int .i64 P] w fun e w' => e = .returned (.tuple #[]) ∧ HasBand w' p (b.retR P) ∧ Tch (· = p) w w' := by
  unfold Bd.retR
  cases hp : b.inP P with
  | true =>
    obtain ⟨j, rfl, hj, hn⟩ := Bd.inP_yes hp
    simp only [if_true, hn]
    exact return_k j w p b hb (hl.small (by omega)) hj
  | false => exact (return_not P w p b hb (Bd.inP_no hp)).mono fun e w' ⟨he, hw⟩ => ⟨he, hw ▸ hb, hw ▸ Tch.refl _ _⟩
theorem back_same {b : Bd} {k : Nat} {o : Int} (h : b.l[k]? = some o) (ho : o ≤ 0) : b.back k o = b := by
  have e : max o 0 = 0 := by omega
  have e2 : b.l.set k o = b.l := by
    apply List.ext_getElem?
    intro j
    by_cases e : k = j
    · subst e
      rw [List.getElem?_set_self (List.getElem?_eq_some_iff.1 h).1, h]
    · rw [List.getElem?_set_ne e]
  unfold Bd.back
  rw [e, Int.sub_zero, Int.add_zero, e2]
theorem back_pos {b : Bd} {k : Nat} {o : Int} (ho : 0 < o) : b.back k o = { b with pool := b.pool + o, l := b.l.set k 0 } := by
  have e : max o 0 = o := by omega
  unfold Bd.back
  rw [e, Int.sub_self]
theorem rl_return (P : Int) (k : Nat) (w : World) (b : Bd) (g cap : Nat) (h : RefB w b g cap) (hl : Lim k b) (hk : k ≤ 100) :
    Calls Try.prog 27 #[refV b g cap, .int .i64 P] w fun e w' => ∃ g' cap', e = .returned (refV (b.retR P) g' cap') ∧ RefB w' (b.retR P) g' cap' ∧ Below w.heap.size w w' := by
  unfold Bd.retR
  cases hp : b.inP P with
  | true =>
    obtain ⟨j, rfl, hj, hn⟩ := Bd.inP_yes hp
    simp only [if_true, hn]
    have ha := Bd.at_get hj
    unfold Bd.Back
    by_cases hq : b.q = 0
    · rw [back_same ha (by rw [hl.none hq _ (List.mem_of_getElem? ha)]; omega)]
      exact (rreturn_free j w b g cap hq).mono fun e w' ⟨he, hw⟩ => ⟨g, cap, he, h.behind hw, hw⟩
    · have hq' : 0 < b.q := by have := hl.q; omega
      by_cases ho : 0 < b.at j
      · rw [back_pos ho]
        exact rreturn_pos j _ w b g cap h (hl.small (by omega)) hq' ha ho
      · rw [back_same ha (by omega)]
        exact (rreturn_neg j _ w b g cap h hq' ha (by omega)).mono fun e w' ⟨he, hw⟩ => ⟨g, cap, he, h.behind hw, hw⟩
  | false =>
    by_cases hq : b.q = 0
    · exact (rreturn_free P w b g cap hq).mono fun e w' ⟨he, hw⟩ => ⟨g, cap, he, h.behind hw, hw⟩
    · exact (rreturn_not P w b g cap h (by have := hl.q; omega) (Bd.inP_no hp)).mono fun e w' ⟨he, hw⟩ => ⟨g, cap, he, h.behind hw, hw⟩
end Go.Proofs.Ytbhiinodejhggaa
