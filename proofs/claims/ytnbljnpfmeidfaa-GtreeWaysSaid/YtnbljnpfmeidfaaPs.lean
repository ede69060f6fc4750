/- The program's and the document's steps of a pool, side by side: they answer the same and leave the same. Condition: the pool is within bounds. -/
import Derived.Test.YtnbljnpfmeidfaaPoolL
namespace Go.Proofs.Ytnbljnpfmeidfaa
open Go Go.RowKit Go.ChangeShapes Go.WideShapes
set_option linter.unusedVariables false

/-- the freed places, the last one first -/
def Chain2 (l : List Pl) : Int → List Nat → Prop
  | f, [] => f = -1
  | f, i :: r => f = i ∧ ∃ q, l[i]? = some q ∧ q.used = false ∧ Chain2 l q.next r
theorem chain2_set (l : List Pl) (k : Nat) (q : Pl) : ∀ (st : List Nat) (f : Int), k ∉ st → Chain2 l f st → Chain2 (l.set k q) f st
  | [], _, _, h => h
  | i :: r, f, hk, h => by
    obtain ⟨rfl, q', h1, h2, h4⟩ := h
    have hne : k ≠ i := fun e => hk (by rw [e]; exact List.mem_cons_self ..)
    exact ⟨rfl, q', by rw [List.getElem?_set_ne hne]; exact h1, h2, chain2_set l k q r _ (fun hm => hk (List.mem_cons_of_mem _ hm)) h4⟩
theorem chain2_app (l : List Pl) (q : Pl) : ∀ (st : List Nat) (f : Int), Chain2 l f st → Chain2 (l ++ [q]) f st
  | [], _, h => h
  | i :: r, f, h => by
    obtain ⟨rfl, q', h1, h2, h4⟩ := h
    exact ⟨rfl, q', by rw [List.getElem?_append_left (List.getElem?_eq_some_iff.1 h1).1]; exact h1, h2, chain2_app l q r _ h4⟩
theorem chain2_mem (l : List Pl) : ∀ (st : List Nat) (f : Int), Chain2 l f st → ∀ k ∈ st, ∃ q, l[k]? = some q ∧ q.used = false
  | [], _, _, k, hk => by simp at hk
  | i :: r, _, h, k, hk => by
    obtain ⟨rfl, q', h1, h2, h4⟩ := h
    rcases List.mem_cons.1 hk with rfl | hk
    · exact ⟨q', h1, h2⟩
    · exact chain2_mem l r _ h4 k hk
/-- a pool's state: its places, the place freed last, the freed ones, how many things -/
structure Ps where
  l : List Pl
  free : Int
  st : List Nat
  many : Int
def Ps.rp (s : Ps) (room : Int) : Rp := ⟨room, valsOf s.l, usedOf s.l, gensOf s.l, s.st.reverse⟩
/-- what holds behind b steps -/
structure Ps.Ok (s : Ps) (room : Int) (b : Nat) : Prop where
  chain : Chain2 s.l s.free s.st
  nodup : s.st.Nodup
  len : s.l.length ≤ b
  stl : s.st.length ≤ b
  gens : ∀ (k : Nat) (q : Pl), s.l[k]? = some q → 0 ≤ q.gen ∧ q.gen ≤ b
  many : s.many = s.l.length - s.st.length
  room : (s.l.length : Int) ≤ room
  cnt : (s.l.countP (·.used) : Int) = s.many
theorem valsOf_length (l : List Pl) : (valsOf l).length = l.length := by simp [valsOf]
theorem usedOf_length (l : List Pl) : (usedOf l).length = l.length := by simp [usedOf]
theorem gensOf_length (l : List Pl) : (gensOf l).length = l.length := by simp [gensOf]
theorem Ps.Ok.rp {s : Ps} {room : Int} {b : Nat} (h : s.Ok room b) (hb : b ≤ 1000) : (s.rp room).Ok := by
  have h1 := h.len
  have h2 := h.stl
  have e1 := valsOf_length s.l
  have e2 := usedOf_length s.l
  have e3 := gensOf_length s.l
  refine { vals := ?_, used := ?_, gens := ?_, freed := ?_, lu := ?_, lg := ?_, lf := ?_ }
  · show (valsOf s.l).length ≤ 5000; omega
  · show (usedOf s.l).length ≤ 5000; omega
  · show (gensOf s.l).length ≤ 5000; omega
  · show s.st.reverse.length ≤ 5000; rw [List.length_reverse]; omega
  · show (usedOf s.l).length = (valsOf s.l).length; omega
  · show (gensOf s.l).length = (valsOf s.l).length; omega
  · intro k hk
    show k < (valsOf s.l).length
    obtain ⟨q, hq, _⟩ := chain2_mem s.l s.st s.free h.chain k (by simpa [Ps.rp] using hk)
    have := (List.getElem?_eq_some_iff.1 hq).1
    omega
theorem Ps.Ok.more {s : Ps} {room : Int} {b : Nat} (h : s.Ok room b) : s.Ok room (b + 1) :=
  ⟨h.chain, h.nodup, by have := h.len; omega, by have := h.stl; omega, fun k q hq => by have := h.gens k q hq; omega, h.many, h.room, h.cnt⟩
theorem Ps.Ok.start (room : Int) (h : 1 ≤ room) : (⟨[], -1, [], 0⟩ : Ps).Ok room 0 := ⟨rfl, List.nodup_nil, by simp, by simp, fun k q h => by simp at h, by simp, by simp; omega, by simp⟩
/-- Put -/
def Ps.put (s : Ps) (room : Int) (x : Pay) : Ps :=
  if s.many = room then s else match s.st with
    | [] => ⟨s.l ++ [⟨x, 0, true, -1⟩], -1, [], s.many + 1⟩
    | k :: st => ⟨s.l.set k ⟨x, (s.l.getD k ⟨.zero, 0, false, 0⟩).gen, true, -1⟩, (s.l.getD k ⟨.zero, 0, false, 0⟩).next, st, s.many + 1⟩
def Ps.putI (s : Ps) (room : Int) : Nat := if s.many = room then 0 else match s.st with
    | [] => s.l.length
    | k :: _ => k
def Ps.putG (s : Ps) (room : Int) : Int := if s.many = room then 0 else match s.st with
    | [] => 0
    | k :: _ => (s.l.getD k ⟨.zero, 0, false, 0⟩).gen
def Ps.putE (s : Ps) (room : Int) : Int := if s.many = room then 3 else 0
/-- which place a handle names -/
def Ps.find (s : Ps) (i g : Int) : Option Nat := match s.l[i.toNat]? with
  | none => none
  | some q => if 0 ≤ i ∧ q.used = true ∧ q.gen = g then some i.toNat else none
theorem find_yes {s : Ps} {i g : Int} {k : Nat} (h : s.find i g = some k) : ∃ q, Names s.l i g k q ∧ s.l.getD k ⟨.zero, 0, false, 0⟩ = q := by
  unfold Ps.find at h
  split at h
  · cases h
  · rename_i q hq
    split at h
    · rename_i hc
      cases h
      exact ⟨q, ⟨by omega, hq, hc.2.1, hc.2.2⟩, by rw [List.getD_eq_getElem?_getD, hq]; rfl⟩
    · cases h
theorem find_no {s : Ps} {i g : Int} (h : s.find i g = none) : NamesNone s.l i g := by
  rintro k q ⟨rfl, hq, hu, hg⟩
  unfold Ps.find at h
  rw [show ((k : Int).toNat) = k by simp, hq] at h
  simp only at h
  rw [if_pos ⟨by omega, hu, hg⟩] at h
  cases h
theorem namesR_of {s : Ps} {room i g : Int} {k : Nat} {q : Pl} (h : Names s.l i g k q) : NamesR (s.rp room) i g k := by
  obtain ⟨hi, hq, hu, hg⟩ := h
  refine ⟨hi, ?_, ?_⟩
  · show (usedOf s.l)[k]? = some true
    rw [usedOf, List.getElem?_map, hq]; simp [hu]
  · show (gensOf s.l)[k]? = some g
    rw [gensOf, List.getElem?_map, hq]; simp [hg]
theorem namesR_no {s : Ps} {room i g : Int} (h : NamesNone s.l i g) : ∀ k, ¬ NamesR (s.rp room) i g k := by
  rintro k ⟨hi, hu, hg⟩
  have hu' : (usedOf s.l)[k]? = some true := hu
  have hg' : (gensOf s.l)[k]? = some g := hg
  rw [usedOf, List.getElem?_map] at hu'
  rw [gensOf, List.getElem?_map] at hg'
  cases hq : s.l[k]? with
  | none => rw [hq] at hu'; simp at hu'
  | some q =>
    rw [hq] at hu' hg'
    exact h k q ⟨hi, hq, by simpa using hu', by simpa using hg'⟩
def Ps.getV (s : Ps) (i g : Int) : Pay := match s.find i g with
  | none => .zero
  | some k => (s.l.getD k ⟨.zero, 0, false, 0⟩).x
def Ps.namE (s : Ps) (i g : Int) : Int := match s.find i g with
  | none => 2
  | some _ => 0
def Ps.set (s : Ps) (i g : Int) (x : Pay) : Ps := match s.find i g with
  | none => s
  | some k => ⟨s.l.set k ⟨x, (s.l.getD k ⟨.zero, 0, false, 0⟩).gen, (s.l.getD k ⟨.zero, 0, false, 0⟩).used, (s.l.getD k ⟨.zero, 0, false, 0⟩).next⟩, s.free, s.st, s.many⟩
def Ps.fre (s : Ps) (i g : Int) : Ps := match s.find i g with
  | none => s
  | some k => ⟨s.l.set k ⟨.zero, (s.l.getD k ⟨.zero, 0, false, 0⟩).gen + 1, false, s.free⟩, k, k :: s.st, s.many - 1⟩
theorem chain2_x (l : List Pl) (k : Nat) (q q' : Pl) (hq : l[k]? = some q) (hu : q'.used = q.used) (hn : q'.next = q.next) : ∀ (st : List Nat) (f : Int), Chain2 l f st → Chain2 (l.set k q') f st
  | [], _, h => h
  | i :: r, f, h => by
    obtain ⟨rfl, q0, h1, h2, h4⟩ := h
    by_cases e : k = i
    · subst e
      rw [hq] at h1
      cases h1
      exact ⟨rfl, q', List.getElem?_set_self (List.getElem?_eq_some_iff.1 hq).1, by rw [hu]; exact h2, by rw [hn]; exact chain2_x l k q q' hq hu hn r _ h4⟩
    · exact ⟨rfl, q0, by rw [List.getElem?_set_ne e]; exact h1, h2, chain2_x l k q q' hq hu hn r _ h4⟩
theorem Ps.Ok.put {s : Ps} {room : Int} {b : Nat} (h : s.Ok room b) (x : Pay) : (s.put room x).Ok room (b + 1) := by
  unfold Ps.put
  split
  · exact h.more
  · rename_i hm
    have hmany := h.many
    have hlen := h.len
    have hstl := h.stl
    have hroom := h.room
    cases hst : s.st with
    | nil =>
      have hc := h.chain
      rw [hst] at hc hmany
      have hf : s.free = -1 := hc
      rw [hf] at hc
      simp at hmany
      have hcnt := h.cnt
      refine ⟨chain2_app s.l _ [] (-1) hc, List.nodup_nil, by simp; omega, by simp, ?_, by simp; omega, by simp; omega, by simp [List.countP_append]; omega⟩
      intro k q hq
      by_cases hk : k < s.l.length
      · rw [List.getElem?_append_left hk] at hq
        have := h.gens k q hq; omega
      · rw [List.getElem?_append_right (by omega)] at hq
        have hk0 : k - s.l.length = 0 := by have := (List.getElem?_eq_some_iff.1 hq).1; simpa using this
        rw [hk0] at hq
        simp at hq
        subst hq
        simp
        omega
    | cons k st =>
      have hc := h.chain
      have hnd := h.nodup
      rw [hst] at hc hmany hnd hstl
      obtain ⟨hf, q, hq, hu, hc'⟩ := hc
      have hkl := (List.getElem?_eq_some_iff.1 hq).1
      have hg : s.l.getD k ⟨.zero, 0, false, 0⟩ = q := by rw [List.getD_eq_getElem?_getD, hq]; rfl
      have hnd' := List.nodup_cons.1 hnd
      simp at hmany hstl
      simp only [hg]
      refine ⟨chain2_set s.l k _ st _ hnd'.1 hc', hnd'.2, by simp; omega, by show st.length ≤ b + 1; omega, ?_, by simp; omega, by simpa using hroom, by have := h.cnt; rw [List.countP_set hkl, show s.l[k] = q by simpa [List.getElem?_eq_getElem hkl] using hq]; simp [hu]; omega⟩
      intro j q' hq'
      by_cases hj : k = j
      · subst hj
        rw [List.getElem?_set_self hkl] at hq'
        cases hq'
        have := h.gens k q hq
        simp
        omega
      · rw [List.getElem?_set_ne hj] at hq'
        have := h.gens j q' hq'; omega
theorem Ps.Ok.set {s : Ps} {room : Int} {b : Nat} (h : s.Ok room b) (i g : Int) (x : Pay) : (s.set i g x).Ok room (b + 1) := by
  unfold Ps.set
  split
  · exact h.more
  · rename_i k hk
    obtain ⟨q, ⟨_, hq, hu, hg⟩, hd⟩ := find_yes hk
    rw [hd]
    have hm := h.more
    refine ⟨chain2_x s.l k q ⟨x, q.gen, q.used, q.next⟩ hq rfl rfl s.st s.free h.chain, hm.nodup, by simpa using hm.len, hm.stl, ?_, by simpa using hm.many, by simpa using hm.room, ?_⟩
    rotate_left
    · have hil := (List.getElem?_eq_some_iff.1 hq).1
      have hp : 0 < s.l.countP (·.used) := List.countP_pos_iff.2 ⟨q, List.mem_of_getElem? hq, hu⟩
      have := h.cnt
      rw [List.countP_set hil, show s.l[k] = q by simpa [List.getElem?_eq_getElem hil] using hq]
      simp [hu]
      omega
    intro j q' hq'
    by_cases hj : k = j
    · subst hj
      rw [List.getElem?_set_self (List.getElem?_eq_some_iff.1 hq).1] at hq'
      cases hq'
      exact hm.gens k q hq
    · rw [List.getElem?_set_ne hj] at hq'
      exact hm.gens j q' hq'
theorem Ps.Ok.fre {s : Ps} {room : Int} {b : Nat} (h : s.Ok room b) (i g : Int) : (s.fre i g).Ok room (b + 1) := by
  unfold Ps.fre
  split
  · exact h.more
  · rename_i k hk
    obtain ⟨q, ⟨_, hq, hu, hg⟩, hd⟩ := find_yes hk
    rw [hd]
    have hil := (List.getElem?_eq_some_iff.1 hq).1
    have hni : k ∉ s.st := by
      intro hm
      obtain ⟨q', hq', hu'⟩ := chain2_mem s.l s.st s.free h.chain k hm
      rw [hq] at hq'
      cases hq'
      rw [hu] at hu'
      cases hu'
    have hmany := h.many
    have hstl := h.stl
    refine ⟨⟨rfl, _, List.getElem?_set_self hil, rfl, chain2_set s.l k _ s.st s.free hni h.chain⟩, List.nodup_cons.2 ⟨hni, h.nodup⟩, by have := h.len; simp; omega, by simp; omega, ?_, by simp; omega, by simpa using h.room, ?_⟩
    rotate_left
    · have hp : 0 < s.l.countP (·.used) := List.countP_pos_iff.2 ⟨q, List.mem_of_getElem? hq, hu⟩
      have := h.cnt
      rw [List.countP_set hil, show s.l[k] = q by simpa [List.getElem?_eq_getElem hil] using hq]
      simp [hu]
      omega
    intro j q' hq'
    by_cases hj : k = j
    · subst hj
      rw [List.getElem?_set_self hil] at hq'
      cases hq'
      have := h.gens k q hq
      simp
      omega
    · rw [List.getElem?_set_ne hj] at hq'
      have := h.gens j q' hq'; omega
end Go.Proofs.Ytnbljnpfmeidfaa
