/- The document's tree of groups, told by value: its box, how deep a group is, whether it is below another. Condition: the tree is within bounds, its groups within one another. -/
import Derived.Test.YtnbljnpfmeidfaaGtOps
import Derived.Test.YtnbljnpfmeidfaaPsStep
import Derived.Test.YtnbljnpfmeidfaaTreeP
namespace Go.Proofs.Ytnbljnpfmeidfaa
open Go Go.RowKit Go.ChangeShapes Go.WideShapes
set_option linter.unusedVariables false

/-- a slice's value -/
structure Sv where
  a : Option Addr
  n : Nat
  c : Nat
abbrev vcl (room : Int) (v1 v2 v3 v4 : Sv) : Array Value := #[.int .i64 room, .slice v1.a v1.n v1.c, .slice v2.a v2.n v2.c, .slice v3.a v3.n v3.c, .slice v4.a v4.n v4.c]
/-- the document's pool as five cells -/
def RfV (w : World) (room : Int) (s : Ps) (v1 v2 v3 v4 : Sv) : Prop := ∃ a1 c1 a2 c2 a3 c3 a4 c4, vcl room v1 v2 v3 v4 = rcl room s a1 c1 a2 c2 a3 c3 a4 c4 ∧ RfX w room s a1 c1 a2 c2 a3 c3 a4 c4
theorem RfV.mk {w : World} {room : Int} {s : Ps} {a1 : Option Addr} {c1 : Nat} {a2 : Option Addr} {c2 : Nat} {a3 : Option Addr} {c3 : Nat} {a4 : Option Addr} {c4 : Nat} (h : RfX w room s a1 c1 a2 c2 a3 c3 a4 c4) :
    RfV w room s ⟨a1, (s.rp room).vals.length, c1⟩ ⟨a2, (s.rp room).used.length, c2⟩ ⟨a3, (s.rp room).gens.length, c3⟩ ⟨a4, (s.rp room).freed.length, c4⟩ := ⟨a1, c1, a2, c2, a3, c3, a4, c4, rfl, h⟩
theorem RfV.behind {w w' : World} {room : Int} {s : Ps} {v1 v2 v3 v4 : Sv} (h : RfV w room s v1 v2 v3 v4) (hb : Below w.heap.size w w') : RfV w' room s v1 v2 v3 v4 := by
  obtain ⟨a1, c1, a2, c2, a3, c3, a4, c4, e, h⟩ := h
  exact ⟨a1, c1, a2, c2, a3, c3, a4, c4, e, RefP.behind h hb⟩
theorem RfV.alloc {w : World} {room : Int} {s : Ps} {v1 v2 v3 v4 : Sv} (h : RfV w room s v1 v2 v3 v4) (o : Obj) : RfV (w.alloc o) room s v1 v2 v3 v4 := h.behind (below_alloc w o)
theorem rv_put (x : Pay) (b : Nat) (w : World) (room : Int) (s : Ps) (v1 v2 v3 v4 : Sv) (h : RfV w room s v1 v2 v3 v4) (ho : s.Ok room b) (hb : b ≤ 1000) :
    Calls Try.prog 42 #[.agg (vcl room v1 v2 v3 v4), .int .i64 x.x] w fun e w' => ∃ u1 u2 u3 u4, e = .returned (.tuple #[.agg (vcl room u1 u2 u3 u4), .agg #[.int .i64 (s.putI room : Nat), .int .i64 (s.putG room)], .int .i64 (s.putE room)]) ∧ RfV w' room (s.put room x) u1 u2 u3 u4 ∧ Below w.heap.size w w' := by
  obtain ⟨a1, c1, a2, c2, a3, c3, a4, c4, e, h⟩ := h
  rw [e]
  exact (rl_put x b w room s a1 c1 a2 c2 a3 c3 a4 c4 h ho hb).mono fun e w' ⟨a1, d1, a2, d2, a3, d3, a4, d4, he, h1, h2⟩ => ⟨⟨a1, _, d1⟩, ⟨a2, _, d2⟩, ⟨a3, _, d3⟩, ⟨a4, _, d4⟩, he, RfV.mk h1, h2⟩
theorem rv_set (i g : Int) (x : Pay) (b : Nat) (w : World) (room : Int) (s : Ps) (v1 v2 v3 v4 : Sv) (h : RfV w room s v1 v2 v3 v4) (ho : s.Ok room b) (hb : b ≤ 1000) :
    Calls Try.prog 49 #[.agg (vcl room v1 v2 v3 v4), .agg #[.int .i64 i, .int .i64 g], .int .i64 x.x] w fun e w' => ∃ u1 u2 u3 u4, e = .returned (.tuple #[.agg (vcl room u1 u2 u3 u4), .int .i64 (s.namE i g)]) ∧ RfV w' room (s.set i g x) u1 u2 u3 u4 ∧ Below w.heap.size w w' := by
  obtain ⟨a1, c1, a2, c2, a3, c3, a4, c4, e, h⟩ := h
  rw [e]
  exact (rl_set i g x b w room s a1 c1 a2 c2 a3 c3 a4 c4 h ho hb).mono fun e w' ⟨a1, d1, a2, d2, a3, d3, a4, d4, he, h1, h2⟩ => ⟨⟨a1, _, d1⟩, ⟨a2, _, d2⟩, ⟨a3, _, d3⟩, ⟨a4, _, d4⟩, he, RfV.mk h1, h2⟩
theorem rv_free (i g : Int) (b : Nat) (w : World) (room : Int) (s : Ps) (v1 v2 v3 v4 : Sv) (h : RfV w room s v1 v2 v3 v4) (ho : s.Ok room b) (hb : b ≤ 1000) :
    Calls Try.prog 46 #[.agg (vcl room v1 v2 v3 v4), .agg #[.int .i64 i, .int .i64 g]] w fun e w' => ∃ u1 u2 u3 u4, e = .returned (.tuple #[.agg (vcl room u1 u2 u3 u4), .int .i64 (s.getV i g).x, .int .i64 (s.namE i g)]) ∧ RfV w' room (s.fre i g) u1 u2 u3 u4 ∧ Below w.heap.size w w' := by
  obtain ⟨a1, c1, a2, c2, a3, c3, a4, c4, e, h⟩ := h
  rw [e]
  exact (rl_free i g b w room s a1 c1 a2 c2 a3 c3 a4 c4 h ho hb).mono fun e w' ⟨a1, d1, a2, d2, a3, d3, a4, d4, he, h1, h2⟩ => ⟨⟨a1, _, d1⟩, ⟨a2, _, d2⟩, ⟨a3, _, d3⟩, ⟨a4, _, d4⟩, he, RfV.mk h1, h2⟩
theorem rv_all (b : Nat) (w : World) (room : Int) (s : Ps) (v1 v2 v3 v4 : Sv) (h : RfV w room s v1 v2 v3 v4) (ho : s.Ok room b) (hb : b ≤ 1000) :
    Calls Try.prog 29 #[.agg (vcl room v1 v2 v3 v4)] w fun e w' => ∃ a c, e = .returned (.slice a (allL s.l).length c) ∧ w'.ownsRow w.heap.size 30 2 (.slice a (allL s.l).length c) (allL s.l).length (hcl (allL s.l)) ∧ Below w.heap.size w w' := by
  obtain ⟨a1, c1, a2, c2, a3, c3, a4, c4, e, h⟩ := h
  rw [e]
  refine (rall_any w (s.rp room) a1 c1 a2 c2 a3 c3 a4 c4 h (ho.rp hb)).mono ?_
  rintro e w' ⟨v, he, h1, h2⟩
  rw [allL_rp] at h1
  obtain ⟨a, c, rfl⟩ := hrow_nil h1
  exact ⟨a, c, he, h1, h2⟩
theorem rv_names (i g : Int) (b : Nat) (w : World) (room : Int) (s : Ps) (v1 v2 v3 v4 : Sv) (h : RfV w room s v1 v2 v3 v4) (ho : s.Ok room b) (hb : b ≤ 1000) :
    Calls Try.prog 43 #[.agg (vcl room v1 v2 v3 v4), .agg #[.int .i64 i, .int .i64 g]] w fun e w' => e = .returned (.bool (s.find i g).isSome) ∧ Below w.heap.size w w' := by
  obtain ⟨a1, c1, a2, c2, a3, c3, a4, c4, e, h⟩ := h
  rw [e]
  cases hf : s.find i g with
  | none => exact rnames_no i g w (s.rp room) a1 c1 a2 c2 a3 c3 a4 c4 h (ho.rp hb) (namesR_no (find_no hf))
  | some k =>
    obtain ⟨q, hn, hd⟩ := find_yes hf
    exact rnames_yes k i g w (s.rp room) a1 c1 a2 c2 a3 c3 a4 c4 h (ho.rp hb) (namesR_of hn)

/-- the document's tree in a box -/
def Ux (w : World) (p : Nat) (cs : Array Value) : Prop := w.heap[p]? = some (.cells cs 56 (0, 0))
theorem Ux.new (w : World) (cs : Array Value) : Ux (w.alloc (.cells cs 56)) w.heap.size cs := heap_alloc_new w _
theorem Ux.lt {w : World} {p : Nat} {cs : Array Value} (h : Ux w p cs) : p < w.heap.size := (Array.getElem?_eq_some_iff.1 h).1
theorem Ux.behind {w w' : World} {p : Nat} {cs : Array Value} (h : Ux w p cs) (hb : Below w.heap.size w w') : Ux w' p cs := by unfold Ux; rw [hb.block p h.lt]; exact h
theorem Ux.alloc {w : World} {p : Nat} {cs : Array Value} (h : Ux w p cs) (o : Obj) : Ux (w.alloc o) p cs := h.behind (below_alloc w o)
theorem Ux.drew {w : World} {p : Nat} {cs : Array Value} (h : Ux w p cs) : Ux w.drew p cs := h
theorem Ux.far {w : World} {p c o : Nat} {cs : Array Value} {u : Value} (h : Ux w p cs) (hne : p ≠ c) : Ux (w.setCell ⟨c, o, none⟩ u) p cs := by unfold Ux; rw [Below.heap_setCell _ _ _ _ (by exact hne)]; exact h
theorem Ux.set {w : World} {p o : Nat} {cs : Array Value} (h : Ux w p cs) (u : Value) : Ux (w.setCell ⟨p, o, none⟩ u) p (cs.setIfInBounds o u) := heap_set_same h
theorem Ux.c5 {w : World} {p : Nat} {c0 c1 c2 c3 c4 : Value} (h : Ux w p #[c0, c1, c2, c3, c4]) : w.cell? ⟨p, 0, none⟩ = some c0 ∧ w.cell? ⟨p, 1, none⟩ = some c1 ∧ w.cell? ⟨p, 2, none⟩ = some c2 ∧ w.cell? ⟨p, 3, none⟩ = some c3 ∧ w.cell? ⟨p, 4, none⟩ = some c4 := by
  unfold Ux at h
  refine ⟨?_, ?_, ?_, ?_, ?_⟩ <;> simp [World.cell?, h]
theorem Ux.frz {w : World} {p : Nat} {cs : Array Value} (h : Ux w p cs) : ∀ j, w.frozen? ⟨p, j, none⟩ = false := by
  intro j
  unfold Ux at h
  simp [World.frozen?, h]
abbrev ubox (v1 v2 v3 v4 : Sv) : Obj := .cells (vcl 32 v1 v2 v3 v4) 56
/-- a group's word in the document: what it is within, -1 for the root -/
def wrd (l : List Pl) (k : Nat) : Int := if k = 0 then -1 else upI l k
theorem Tr.wrd {l : List Pl} (h : Tr l) {k : Nat} (hu : Usd l k) : ∃ q, l[k]? = some q ∧ q.used = true ∧ q.x.x = wrd l k := by
  obtain ⟨q, hq, hu⟩ := hu
  refine ⟨q, hq, hu, ?_⟩
  unfold Proofs.Ytnbljnpfmeidfaa.wrd
  by_cases hk : k = 0
  · subst hk
    obtain ⟨q', hq', _, _, hx⟩ := h.root
    rw [hq] at hq'
    cases hq'
    rw [if_pos rfl, hx]
  · obtain ⟨j, p, hj, hp, hx, _⟩ := h.kid k q hq hu hk
    have : upI l k = j := by unfold upI; rw [getD_of hq, hx]; simp
    rw [if_neg hk, this, hx]
/-- the row of the words, to be read -/
theorem RfV.words {w : World} {s : Ps} {v1 v2 v3 v4 : Sv} (h : RfV w 32 s v1 v2 v3 v4) (htr : Tr s.l) : ∃ g1 : Nat, v1.a = some ⟨g1, 0, none⟩ ∧ g1 < w.heap.size ∧ ∀ (W : World), Below w.heap.size w W → ∀ k, Usd s.l k → k < v1.n ∧ W.cell? ⟨g1, k, none⟩ = some (.int .i64 (wrd s.l k)) := by
  obtain ⟨a1, c1, a2, c2, a3, c3, a4, c4, e, h⟩ := h
  have hl : (s.rp 32).vals.length = s.l.length := valsOf_length _
  have h0 : 0 < (s.rp 32).vals.length := by
    obtain ⟨q, hq, _⟩ := htr.usd0
    have := (List.getElem?_eq_some_iff.1 hq).1
    omega
  obtain ⟨g1, rfl, hg⟩ := rrow_some h.vals h0
  have e1 := congrArg (fun c : Array Value => c[1]?) e
  simp at e1
  obtain ⟨e2, e3, e4⟩ := e1
  refine ⟨g1, e2, hg, fun W hW k hu => ?_⟩
  obtain ⟨q, hq, _, hx⟩ := htr.wrd hu
  refine ⟨by rw [e3]; have := (List.getElem?_eq_some_iff.1 hq).1; omega, ?_⟩
  rw [← hx]
  exact icell (h.behind hW).vals rfl k _ (rp_vals hq)
set_option maxHeartbeats 2000000 in
set_option maxRecDepth 100000 in
theorem rdepth_any (k0 : Nat) (b : Nat) (w : World) (s : Ps) (v1 v2 v3 v4 : Sv) (h : RfV w 32 s v1 v2 v3 v4) (ho : s.Ok 32 b) (hb : b ≤ 1000) (htr : Tr s.l) (hk : Usd s.l k0) :
    Calls Try.prog 44 #[.agg (vcl 32 v1 v2 v3 v4), .int .i64 k0] w fun e w' => e = .returned (.int .i64 (dep s.l k0)) ∧ Below w.heap.size w w' := by
  obtain ⟨g1, e1, hg, hw⟩ := h.words htr
  obtain ⟨a, n, c⟩ := v1
  simp only at e1 hw
  subst e1
  have HW := Lib.hid (hw (w.alloc (ubox ⟨some ⟨g1, 0, none⟩, n, c⟩ v2 v3 v4)) (below_alloc _ _))
  have HT := Lib.hid htr
  have HK := Lib.hid hk
  have hd8 := (htr.dep0 hk).1
  have hg' : g1 < (w.alloc (ubox ⟨some ⟨g1, 0, none⟩, n, c⟩ v2 v3 v4)).heap.size := by simp; omega
  clear h ho hw htr hk hg
  obtain ⟨D, hD⟩ : ∃ D, D = dep s.l k0 := ⟨_, rfl⟩
  rw [← hD] at hd8 ⊢
  have HD := Lib.hid hD
  clear hD
  go_enter Try.func44, Try.ntmps44
  go_upto_region 1 with (fail)
  obtain ⟨w1, hw1⟩ : ∃ w1, w1 = w.alloc (ubox ⟨some ⟨g1, 0, none⟩, n, c⟩ v2 v3 v4) := ⟨_, rfl⟩
  have HX : Hid (Ux w1 w.heap.size (vcl 32 ⟨some ⟨g1, 0, none⟩, n, c⟩ v2 v3 v4)) := Lib.hid (by rw [hw1]; exact Ux.new w _)
  have HB : Hid (Below w.heap.size w w1) := Lib.hid (by rw [hw1]; exact below_alloc _ _)
  rw [← hw1] at HW hg' ⊢
  obtain ⟨x, hx⟩ : ∃ x, x = w.heap.size := ⟨_, rfl⟩
  rw [← hx] at HX ⊢
  obtain ⟨q0, q1, q2, q3, q4⟩ := HX.out.c5
  have hxl := HX.out.lt
  clear hw1 hx
  go_wp2_with fail
  go_loopg [1, 5] D (fun m vi vn wr => ∃ (k j : Nat), vi = .int .i64 k ∧ vn = .int .i64 j ∧ Usd s.l k ∧ j + dep s.l k = D ∧ m = dep s.l k ∧ wr = w1)
  case atStart => exact ⟨k0, 0, rfl, rfl, HK.out, by have := HD.out; omega, HD.out, rfl⟩
  case round =>
    obtain ⟨k, j, rfl, rfl, hu, hj, hm, rfl⟩ := hrel
    obtain ⟨hkn, hc⟩ := HW.out k hu
    have HU := Lib.hid hu
    have HM := Lib.hid hm
    have HJ := Lib.hid hj
    clear hu hm hj
    by_cases hk0 : k = 0
    · have e : wrd s.l k = -1 := if_pos hk0
      rw [e] at hc
      have hjD : j = D := by have := HJ.out; have := (HT.out.dep0 HU.out).2.2 hk0; omega
      subst hjD
      clear e hk0
      go_wp2_with fail
      go_ret
      exact ⟨rfl, HB.out⟩
    · have e : wrd s.l k = upI s.l k := if_neg hk0
      rw [e] at hc
      obtain ⟨h1, h2⟩ := HT.out.up HU.out hk0
      have H1 := Lib.hid h1
      have H2 := Lib.hid h2
      obtain ⟨u, hu⟩ : ∃ u, u = upI s.l k := ⟨_, rfl⟩
      rw [← hu] at hc H1 H2
      have hj9 : j ≤ 8 := by have := HJ.out; omega
      clear e h1 h2 hu
      go_wp2_with fail
      go_roundg (dep s.l u)
      case measure => have := HM.out; have := H2.out; omega
      case rel => exact ⟨u, j + 1, rfl, by go_num, H1.out, by have := HJ.out; have := H2.out; omega, rfl, rfl⟩
end Go.Proofs.Ytnbljnpfmeidfaa
