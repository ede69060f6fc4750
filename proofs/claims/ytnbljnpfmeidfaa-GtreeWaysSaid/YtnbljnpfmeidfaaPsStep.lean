/- The program's and the document's calls of a pool, side by side. Condition: the pool is within bounds. -/
import Derived.Test.YtnbljnpfmeidfaaPs
namespace Go.Proofs.Ytnbljnpfmeidfaa
open Go Go.RowKit Go.ChangeShapes Go.WideShapes
set_option linter.unusedVariables false

def PlX (w : World) (base p : Nat) (room : Int) (s : Ps) : Prop := ∃ v, HasPool w base p v room s.many s.free s.l
def RfX (w : World) (room : Int) (s : Ps) (a1 : Option Addr) (c1 : Nat) (a2 : Option Addr) (c2 : Nat) (a3 : Option Addr) (c3 : Nat) (a4 : Option Addr) (c4 : Nat) : Prop := RefP w (s.rp room) a1 c1 a2 c2 a3 c3 a4 c4
theorem HasPool.some_at {w : World} {base p : Nat} {v : Value} {room many free : Int} {l : List Pl} (h : HasPool w base p v room many free l) {k : Nat} {q : Pl} (hq : l[k]? = some q) : ∃ g cap, v = .slice (some ⟨g, 0, none⟩) l.length cap := by
  rcases h.row with ⟨_, hn⟩ | ⟨g, cap, hv, _⟩
  · rw [hn] at hq; simp at hq
  · exact ⟨g, cap, hv⟩
theorem Ps.Ok.lo {s : Ps} {room : Int} {b : Nat} (h : s.Ok room b) (hb : b ≤ 1000) : s.l.length ≤ 1000 ∧ s.st.length ≤ 1000 ∧ -1000000 ≤ s.many ∧ s.many ≤ 4096 ∧ s.many ≤ room := by
  have h1 := h.len; have h2 := h.stl; have h3 := h.many; have h4 := h.room
  omega
theorem pl_put (x : Pay) (b : Nat) (w : World) (base p : Nat) (room : Int) (s : Ps) (h : PlX w base p room s) (ho : s.Ok room b) (hb : b ≤ 1000) (hbase : base ≤ w.heap.size) :
    Calls Try.prog 39 #[.pointer (some ⟨p, 0, none⟩), .agg (gcells x)] w fun e w' => e = .returned (.tuple #[.agg #[.int .i64 (s.putI room : Nat), .int .i64 (s.putG room)], .int .i64 (s.putE room)]) ∧ PlX w' base p room (s.put room x) ∧ PoolStep base p w w' := by
  obtain ⟨v, h⟩ := h
  obtain ⟨b1, b2, b3, b4, b5⟩ := ho.lo hb
  by_cases hm : s.many = room
  · have e1 : s.putI room = 0 := if_pos hm
    have e2 : s.putG room = 0 := if_pos hm
    have e3 : s.putE room = 3 := if_pos hm
    have e4 : s.put room x = s := if_pos hm
    rw [e1, e2, e3, e4]
    exact (put_full x w base p v room s.many s.free s.l h hm).mono fun e w' ⟨he, hz⟩ => ⟨he, ⟨v, h.behind hz⟩, PoolStep.of_below hz hbase⟩
  · have e3 : s.putE room = 0 := if_neg hm
    have e1 : s.putI room = match s.st with | [] => s.l.length | k :: _ => k := if_neg hm
    have e2 : s.putG room = match s.st with | [] => 0 | k :: _ => (s.l.getD k ⟨.zero, 0, false, 0⟩).gen := if_neg hm
    have e4 : s.put room x = match s.st with
      | [] => ⟨s.l ++ [⟨x, 0, true, -1⟩], -1, [], s.many + 1⟩
      | k :: st => ⟨s.l.set k ⟨x, (s.l.getD k ⟨.zero, 0, false, 0⟩).gen, true, -1⟩, (s.l.getD k ⟨.zero, 0, false, 0⟩).next, st, s.many + 1⟩ := if_neg hm
    rw [e1, e2, e3, e4]
    have hc := ho.chain
    cases hst : s.st with
    | nil =>
      rw [hst] at hc
      have hf : s.free = -1 := hc
      rw [hf] at h
      exact (put_grow x w base p v room s.many s.l h (by omega) (by omega) (by omega) hbase).mono fun e w' ⟨he, g, cap, hp, hs⟩ => ⟨he, ⟨_, hp⟩, hs⟩
    | cons k st =>
      rw [hst] at hc
      obtain ⟨hf, q, hq, hu, hc'⟩ := hc
      obtain ⟨g, cap, rfl⟩ := h.some_at hq
      have hg : s.l.getD k ⟨.zero, 0, false, 0⟩ = q := by rw [List.getD_eq_getElem?_getD, hq]; rfl
      rw [hf] at h
      simp only [hg]
      exact (put_again x k q w base p g cap _ room s.many s.l h (by omega) hq (by omega) (by omega) hbase).mono fun e w' ⟨he, hp, hs⟩ => ⟨he, ⟨_, hp⟩, hs⟩
theorem pl_get (i g : Int) (b : Nat) (w : World) (base p : Nat) (room : Int) (s : Ps) (h : PlX w base p room s) (ho : s.Ok room b) (hb : b ≤ 1000) :
    Calls Try.prog 54 #[.pointer (some ⟨p, 0, none⟩), .agg #[.int .i64 i, .int .i64 g]] w fun e w' => e = .returned (.tuple #[.agg (gcells (s.getV i g)), .int .i64 (s.namE i g)]) ∧ Below w.heap.size w w' := by
  obtain ⟨v, h⟩ := h
  obtain ⟨b1, b2, b3, b4, b5⟩ := ho.lo hb
  unfold Ps.getV Ps.namE
  cases hf : s.find i g with
  | none => exact get_miss i g w base p v room s.many s.free s.l h (by omega) (find_no hf)
  | some k =>
    obtain ⟨q, hn, hd⟩ := find_yes hf
    obtain ⟨gb, cap, rfl⟩ := h.some_at hn.2.1
    simp only [hd]
    exact get_step i g k q w base p gb cap _ room s.many s.free s.l h (by omega) hn
theorem pl_set (i g : Int) (x : Pay) (b : Nat) (w : World) (base p : Nat) (room : Int) (s : Ps) (h : PlX w base p room s) (ho : s.Ok room b) (hb : b ≤ 1000) (hbase : base ≤ w.heap.size) :
    Calls Try.prog 37 #[.pointer (some ⟨p, 0, none⟩), .agg #[.int .i64 i, .int .i64 g], .agg (gcells x)] w fun e w' => e = .returned (.int .i64 (s.namE i g)) ∧ PlX w' base p room (s.set i g x) ∧ PoolStep base p w w' := by
  obtain ⟨v, h⟩ := h
  obtain ⟨b1, b2, b3, b4, b5⟩ := ho.lo hb
  unfold Ps.set Ps.namE
  cases hf : s.find i g with
  | none => exact (set_miss i g x w base p v room s.many s.free s.l h (by omega) (find_no hf)).mono fun e w' ⟨he, hz⟩ => ⟨he, ⟨v, h.behind hz⟩, PoolStep.of_below hz hbase⟩
  | some k =>
    obtain ⟨q, hn, hd⟩ := find_yes hf
    obtain ⟨gb, cap, rfl⟩ := h.some_at hn.2.1
    simp only [hd]
    exact (set_step i g x k q w base p gb cap _ room s.many s.free s.l h (by omega) hn hbase).mono fun e w' ⟨he, hp, hs⟩ => ⟨he, ⟨_, hp⟩, hs⟩
theorem pl_free (i g : Int) (b : Nat) (w : World) (base p : Nat) (room : Int) (s : Ps) (h : PlX w base p room s) (ho : s.Ok room b) (hb : b ≤ 1000) (hbase : base ≤ w.heap.size) :
    Calls Try.prog 40 #[.pointer (some ⟨p, 0, none⟩), .agg #[.int .i64 i, .int .i64 g]] w fun e w' => e = .returned (.tuple #[.agg (gcells (s.getV i g)), .int .i64 (s.namE i g)]) ∧ PlX w' base p room (s.fre i g) ∧ PoolStep base p w w' := by
  obtain ⟨v, h⟩ := h
  obtain ⟨b1, b2, b3, b4, b5⟩ := ho.lo hb
  unfold Ps.fre Ps.getV Ps.namE
  cases hf : s.find i g with
  | none => exact (free_miss i g w base p v room s.many s.free s.l h (by omega) (find_no hf)).mono fun e w' ⟨he, hz⟩ => ⟨he, ⟨v, h.behind hz⟩, PoolStep.of_below hz hbase⟩
  | some k =>
    obtain ⟨q, hn, hd⟩ := find_yes hf
    obtain ⟨gb, cap, rfl⟩ := h.some_at hn.2.1
    have hg := ho.gens k q hn.2.1
    simp only [hd]
    exact (free_step i g k q w base p gb cap _ room s.many s.free s.l h (by omega) hn ⟨hg.1, by omega⟩ ⟨b3, b4⟩ hbase).mono fun e w' ⟨he, hp, hs⟩ => ⟨he, ⟨_, hp⟩, hs⟩

/-- the document's -/
abbrev rcl (room : Int) (s : Ps) (a1 : Option Addr) (c1 : Nat) (a2 : Option Addr) (c2 : Nat) (a3 : Option Addr) (c3 : Nat) (a4 : Option Addr) (c4 : Nat) : Array Value := pcells (s.rp room) a1 c1 a2 c2 a3 c3 a4 c4
theorem rl_put (x : Pay) (b : Nat) (w : World) (room : Int) (s : Ps) (a1 : Option Addr) (c1 : Nat) (a2 : Option Addr) (c2 : Nat) (a3 : Option Addr) (c3 : Nat) (a4 : Option Addr) (c4 : Nat) (h : RfX w room s a1 c1 a2 c2 a3 c3 a4 c4) (ho : s.Ok room b) (hb : b ≤ 1000) :
    Calls Try.prog 42 #[.agg (rcl room s a1 c1 a2 c2 a3 c3 a4 c4), .int .i64 x.x] w fun e w' => ∃ a1' d1 a2' d2 a3' d3 a4' d4, e = .returned (.tuple #[.agg (rcl room (s.put room x) a1' d1 a2' d2 a3' d3 a4' d4), .agg #[.int .i64 (s.putI room : Nat), .int .i64 (s.putG room)], .int .i64 (s.putE room)]) ∧ RfX w' room (s.put room x) a1' d1 a2' d2 a3' d3 a4' d4 ∧ Below w.heap.size w w' := by
  obtain ⟨b1, b2, b3, b4, b5⟩ := ho.lo hb
  have hr := ho.rp hb
  have hmany := ho.many
  have hroom := ho.room
  have hc := ho.chain
  by_cases hm : s.many = room
  · have e1 : s.putI room = 0 := if_pos hm
    have e2 : s.putG room = 0 := if_pos hm
    have e3 : s.putE room = 3 := if_pos hm
    have e4 : s.put room x = s := if_pos hm
    rw [e1, e2, e3, e4]
    have hs : s.st.length = 0 := by omega
    refine (rput_full x.x w (s.rp room) a1 c1 a2 c2 a3 c3 a4 c4 (by simp [Ps.rp, hs]) ?_).mono fun e w' ⟨he, hz⟩ => ⟨a1, c1, a2, c2, a3, c3, a4, c4, he, h.behind hz, hz⟩
    show room ≤ ((valsOf s.l).length : Int)
    rw [valsOf_length]; omega
  · have e3 : s.putE room = 0 := if_neg hm
    have e1 : s.putI room = match s.st with | [] => s.l.length | k :: _ => k := if_neg hm
    have e2 : s.putG room = match s.st with | [] => 0 | k :: _ => (s.l.getD k ⟨.zero, 0, false, 0⟩).gen := if_neg hm
    have e4 : s.put room x = match s.st with
      | [] => ⟨s.l ++ [⟨x, 0, true, -1⟩], -1, [], s.many + 1⟩
      | k :: st => ⟨s.l.set k ⟨x, (s.l.getD k ⟨.zero, 0, false, 0⟩).gen, true, -1⟩, (s.l.getD k ⟨.zero, 0, false, 0⟩).next, st, s.many + 1⟩ := if_neg hm
    rw [e1, e2, e3, e4]
    cases hst : s.st with
    | nil =>
      simp only
      have e : (⟨s.l ++ [⟨x, 0, true, -1⟩], -1, [], s.many + 1⟩ : Ps).rp room = (s.rp room).grow x.x := by
        simp [Ps.rp, Rp.grow, valsOf, usedOf, gensOf, hst]
      unfold RfX rcl
      rw [e]
      have hl : (s.rp room).vals.length = s.l.length := valsOf_length _
      rw [hst] at hmany
      simp at hmany
      refine (rput_grow x.x w (s.rp room) a1 c1 a2 c2 a3 c3 a4 c4 h hr (by simp [Ps.rp, hst]) (by rw [hl]; show (s.l.length : Int) < room; omega) (by omega)).mono ?_
      rintro e w' ⟨g1, d1, g2, d2, g3, d3, g4, d4, he, h1, h2⟩
      rw [hl] at he
      exact ⟨_, d1, _, d2, _, d3, _, d4, he, h1, h2⟩
    | cons k st =>
      rw [hst] at hc
      obtain ⟨hf, q, hq, hu, hc'⟩ := hc
      have hg : s.l.getD k ⟨.zero, 0, false, 0⟩ = q := by rw [List.getD_eq_getElem?_getD, hq]; rfl
      have hkl := (List.getElem?_eq_some_iff.1 hq).1
      simp only [hg]
      have hgq : (s.rp room).gens[k]? = some q.gen := by show (gensOf s.l)[k]? = _; rw [gensOf, List.getElem?_map, hq]; rfl
      have e : (⟨s.l.set k ⟨x, q.gen, true, -1⟩, q.next, st, s.many + 1⟩ : Ps).rp room = (s.rp room).again k x.x st.reverse := by
        have hgs : (gensOf s.l).set k q.gen = gensOf s.l := by
          apply List.ext_getElem?
          intro j
          by_cases hj : k = j
          · subst hj
            rw [List.getElem?_set_self (by rw [gensOf_length]; exact hkl)]; exact hgq.symm
          · rw [List.getElem?_set_ne hj]
        have hgs' := hgs
        simp only [gensOf] at hgs'
        simp [Ps.rp, Rp.again, valsOf, usedOf, gensOf, List.map_set, hgs']
      unfold RfX rcl
      rw [e]
      refine (rput_again x.x k st.reverse q.gen w (s.rp room) a1 c1 a2 c2 a3 c3 a4 c4 h hr (by simp [Ps.rp, hst]) hgq).mono ?_
      rintro e w' ⟨g1, d1, g2, d2, g3, d3, g4, d4, he, h1, h2⟩
      exact ⟨_, d1, _, d2, _, d3, _, d4, he, h1, h2⟩
theorem rp_vals {s : Ps} {room : Int} {k : Nat} {q : Pl} (hq : s.l[k]? = some q) : (s.rp room).vals[k]? = some q.x.x := by show (valsOf s.l)[k]? = _; rw [valsOf, List.getElem?_map, hq]; rfl
theorem rl_set (i g : Int) (x : Pay) (b : Nat) (w : World) (room : Int) (s : Ps) (a1 : Option Addr) (c1 : Nat) (a2 : Option Addr) (c2 : Nat) (a3 : Option Addr) (c3 : Nat) (a4 : Option Addr) (c4 : Nat) (h : RfX w room s a1 c1 a2 c2 a3 c3 a4 c4) (ho : s.Ok room b) (hb : b ≤ 1000) :
    Calls Try.prog 49 #[.agg (rcl room s a1 c1 a2 c2 a3 c3 a4 c4), .agg #[.int .i64 i, .int .i64 g], .int .i64 x.x] w fun e w' => ∃ a1' d1 a2' d2 a3' d3 a4' d4, e = .returned (.tuple #[.agg (rcl room (s.set i g x) a1' d1 a2' d2 a3' d3 a4' d4), .int .i64 (s.namE i g)]) ∧ RfX w' room (s.set i g x) a1' d1 a2' d2 a3' d3 a4' d4 ∧ Below w.heap.size w w' := by
  unfold Ps.set Ps.namE
  cases hf : s.find i g with
  | none => exact (rset_no i g x.x w (s.rp room) a1 c1 a2 c2 a3 c3 a4 c4 h (ho.rp hb) (namesR_no (find_no hf))).mono fun e w' ⟨he, hz⟩ => ⟨a1, c1, a2, c2, a3, c3, a4, c4, he, h.behind hz, hz⟩
  | some k =>
    obtain ⟨q, hn, hd⟩ := find_yes hf
    simp only [hd]
    have hq := hn.2.1
    have hkl := (List.getElem?_eq_some_iff.1 hq).1
    have e : (⟨s.l.set k ⟨x, q.gen, q.used, q.next⟩, s.free, s.st, s.many⟩ : Ps).rp room = { s.rp room with vals := (s.rp room).vals.set k x.x } := by
      have h1 : (gensOf s.l).set k q.gen = gensOf s.l := by
        apply List.ext_getElem?
        intro j
        by_cases hj : k = j
        · subst hj
          rw [List.getElem?_set_self (by rw [gensOf_length]; exact hkl), gensOf, List.getElem?_map, hq]; rfl
        · rw [List.getElem?_set_ne hj]
      have h2 : (usedOf s.l).set k q.used = usedOf s.l := by
        apply List.ext_getElem?
        intro j
        by_cases hj : k = j
        · subst hj
          rw [List.getElem?_set_self (by rw [usedOf_length]; exact hkl), usedOf, List.getElem?_map, hq]; rfl
        · rw [List.getElem?_set_ne hj]
      simp only [gensOf] at h1
      simp only [usedOf] at h2
      simp [Ps.rp, valsOf, usedOf, gensOf, List.map_set, h1, h2]
    unfold RfX rcl
    rw [e]
    refine (rset_yes k i g x.x w (s.rp room) a1 c1 a2 c2 a3 c3 a4 c4 h (ho.rp hb) (namesR_of hn)).mono ?_
    rintro e w' ⟨g1, d1, g2, d2, g3, d3, g4, d4, he, h1, h2⟩
    exact ⟨_, d1, _, d2, _, d3, _, d4, he, h1, h2⟩
theorem rl_free (i g : Int) (b : Nat) (w : World) (room : Int) (s : Ps) (a1 : Option Addr) (c1 : Nat) (a2 : Option Addr) (c2 : Nat) (a3 : Option Addr) (c3 : Nat) (a4 : Option Addr) (c4 : Nat) (h : RfX w room s a1 c1 a2 c2 a3 c3 a4 c4) (ho : s.Ok room b) (hb : b ≤ 1000) :
    Calls Try.prog 46 #[.agg (rcl room s a1 c1 a2 c2 a3 c3 a4 c4), .agg #[.int .i64 i, .int .i64 g]] w fun e w' => ∃ a1' d1 a2' d2 a3' d3 a4' d4, e = .returned (.tuple #[.agg (rcl room (s.fre i g) a1' d1 a2' d2 a3' d3 a4' d4), .int .i64 (s.getV i g).x, .int .i64 (s.namE i g)]) ∧ RfX w' room (s.fre i g) a1' d1 a2' d2 a3' d3 a4' d4 ∧ Below w.heap.size w w' := by
  unfold Ps.fre Ps.getV Ps.namE
  obtain ⟨b1, b2, b3, b4, b5⟩ := ho.lo hb
  cases hf : s.find i g with
  | none => exact (rfree_no i g w (s.rp room) a1 c1 a2 c2 a3 c3 a4 c4 h (ho.rp hb) (namesR_no (find_no hf))).mono fun e w' ⟨he, hz⟩ => ⟨a1, c1, a2, c2, a3, c3, a4, c4, he, h.behind hz, hz⟩
  | some k =>
    obtain ⟨q, hn, hd⟩ := find_yes hf
    simp only [hd]
    have hq := hn.2.1
    have hgn := ho.gens k q hq
    have hgg := hn.2.2.2
    have e : (⟨s.l.set k ⟨.zero, q.gen + 1, false, s.free⟩, k, k :: s.st, s.many - 1⟩ : Ps).rp room = (s.rp room).free k g := by
      simp [Ps.rp, Rp.free, valsOf, usedOf, gensOf, List.map_set, hgg, Pay.zero]
    unfold RfX rcl
    rw [e]
    refine (rfree_yes k i g q.x.x w (s.rp room) a1 c1 a2 c2 a3 c3 a4 c4 h (ho.rp hb) (namesR_of hn) (rp_vals hq) ⟨by omega, by omega⟩ (by simp [Ps.rp]; omega)).mono ?_
    rintro e w' ⟨g1, d1, g2, d2, g3, d3, g4, d4, he, h1, h2⟩
    exact ⟨_, d1, _, d2, _, d3, _, d4, he, h1, h2⟩
theorem allL_rp (s : Ps) (room : Int) : (s.rp room).all = allL s.l := by
  show allTo (usedOf s.l) (gensOf s.l) (valsOf s.l).length = _
  rw [valsOf_length]; rfl
theorem allTo_count (l : List Pl) : ∀ k, k ≤ l.length → (allTo (usedOf l) (gensOf l) k).length = (l.take k).countP (·.used)
  | 0, _ => by simp [allTo]
  | k + 1, h => by
    have ih := allTo_count l k (by omega)
    have hk : l.take (k + 1) = l.take k ++ [l[k]] := by rw [List.take_append_getElem]
    have hu : (usedOf l).getD k false = l[k].used := by
      rw [List.getD_eq_getElem?_getD, usedOf, List.getElem?_map, List.getElem?_eq_getElem (by omega)]; rfl
    simp only [allTo, List.length_append, ih, hk, List.countP_append, hu]
    cases hb : l[k].used <;> simp [hb]
theorem Ps.Ok.all {s : Ps} {room : Int} {b : Nat} (h : s.Ok room b) : s.many = ((allL s.l).length : Nat) := by
  have := allTo_count s.l s.l.length (Nat.le_refl _)
  rw [allL, this, List.take_length]
  exact h.cnt.symm
end Go.Proofs.Ytnbljnpfmeidfaa
