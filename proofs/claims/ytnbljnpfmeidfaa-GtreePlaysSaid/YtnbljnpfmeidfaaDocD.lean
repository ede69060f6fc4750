/- The document's tree of groups, told by value: Parent, Path, Destroy. Condition: the tree is within bounds, its groups within one another. -/
import Derived.Test.YtnbljnpfmeidfaaDocK
namespace Go.Proofs.Ytnbljnpfmeidfaa
open Go Go.RowKit Go.ChangeShapes Go.WideShapes
set_option linter.unusedVariables false

/-- the row of how often each place was freed, to be read -/
theorem RfV.gensw {w : World} {s : Ps} {v1 v2 v3 v4 : Sv} (h : RfV w 32 s v1 v2 v3 v4) (htr : Tr s.l) : ∃ g3 : Nat, v3.a = some ⟨g3, 0, none⟩ ∧ g3 < w.heap.size ∧ ∀ (W : World), Below w.heap.size w W → ∀ (k : Nat) (q : Pl), s.l[k]? = some q → k < v3.n ∧ W.cell? ⟨g3, k, none⟩ = some (.int .i64 q.gen) := by
  obtain ⟨a1, c1, a2, c2, a3, c3, a4, c4, e, h⟩ := h
  have hl : (s.rp 32).gens.length = s.l.length := gensOf_length _
  have h0 : 0 < (s.rp 32).gens.length := by
    obtain ⟨q, hq, _⟩ := htr.usd0
    have := (List.getElem?_eq_some_iff.1 hq).1
    omega
  obtain ⟨g3, rfl, hg⟩ := rrow_some h.gens h0
  have e1 := congrArg (fun c : Array Value => c[3]?) e
  simp at e1
  obtain ⟨e2, e3, e4⟩ := e1
  refine ⟨g3, e2, hg, fun W hW k q hq => ?_⟩
  refine ⟨by rw [e3]; have := (List.getElem?_eq_some_iff.1 hq).1; omega, ?_⟩
  exact icell (h.behind hW).gens rfl k _ (by show (gensOf s.l)[k]? = _; rw [gensOf, List.getElem?_map, hq]; rfl)
/-- Parent: what is told -/
def Ps.parI (s : Ps) (i g : Int) : Nat := match s.find i g with
  | none => 0
  | some k => if k = 0 then 0 else upI s.l k
def Ps.parG (s : Ps) (i g : Int) : Int := match s.find i g with
  | none => 0
  | some k => if k = 0 then 0 else (s.l.getD (upI s.l k) plz).gen
def Ps.parE (s : Ps) (i g : Int) : Int := match s.find i g with
  | none => 2
  | some k => if k = 0 then 12 else 0
set_option maxHeartbeats 1000000 in
theorem rparent_no (i g : Int) (b : Nat) (w : World) (s : Ps) (v1 v2 v3 v4 : Sv) (h : RfV w 32 s v1 v2 v3 v4) (ho : s.Ok 32 b) (hb : b ≤ 1000) (hf : s.find i g = none) :
    Calls Try.prog 51 #[.agg (vcl 32 v1 v2 v3 v4), .agg #[.int .i64 i, .int .i64 g]] w fun e w' => e = .returned (.tuple #[.agg #[.int .i64 0, .int .i64 0], .int .i64 2]) ∧ Below w.heap.size w w' := by
  have HO := Lib.hid ho
  have HR := Lib.hid h
  have HF := Lib.hid hf
  clear h ho hf
  go_enter Try.func51, Try.ntmps51
  go_upto_region 1 with (fail)
  obtain ⟨w1, hw1⟩ : ∃ w1, w1 = ((w.alloc (ubox v1 v2 v3 v4)).alloc (hbox i g)).alloc (hbox 0 0) := ⟨_, rfl⟩
  have HX : Hid (Ux w1 w.heap.size (vcl 32 v1 v2 v3 v4)) := Lib.hid (by rw [hw1]; exact ((Ux.new w _).alloc _).alloc _)
  have HY : Hid (Hx w1 (w.heap.size + 1) i g) := Lib.hid (by rw [hw1]; exact (Hx.new1 w _ i g).alloc _)
  have HV : Hid (Hx w1 (w.heap.size + 1 + 1) 0 0) := Lib.hid (by rw [hw1]; exact Hx.here _ _ (by simp))
  have HB : Hid (Below w.heap.size w w1) := Lib.hid (by rw [hw1]; exact ((below_alloc w _).alloc (by simp) _).alloc (by simp; omega) _)
  rw [← hw1]
  clear hw1
  obtain ⟨x, hx⟩ : ∃ x, x = w.heap.size := ⟨_, rfl⟩
  obtain ⟨y, hy⟩ : ∃ y, y = w.heap.size + 1 := ⟨_, rfl⟩
  obtain ⟨v, hv⟩ : ∃ v, v = w.heap.size + 1 + 1 := ⟨_, rfl⟩
  rw [← hv, ← hy, ← hx]
  rw [← hx] at HX; rw [← hy] at HY; rw [← hv] at HV
  have HN : Hid (x = w.heap.size ∧ y = w.heap.size + 1 ∧ v = w.heap.size + 1 + 1) := Lib.hid ⟨hx, hy, hv⟩
  clear hx hy hv
  have HC := Lib.hid (rv_no HF.out (HR.out.behind HB.out) HO.out hb)
  obtain ⟨x0, x1, x2, x3, x4⟩ := HX.out.c5
  have xl := HX.out.lt
  obtain ⟨y0, y1⟩ := HY.out.c2
  have yl := HY.out.lt
  go_wp2_with fail
  refine HC.out.mono ?_
  rintro e w2 ⟨rfl, hz2⟩
  replace HV := Lib.hid (HV.out.behind hz2)
  replace HX := Lib.hid (HX.out.behind hz2)
  replace HY := Lib.hid (HY.out.behind hz2)
  replace HB := Lib.hid (below_trans HB.out hz2 HB.out.size)
  clear hz2 x0 x1 x2 x3 x4 y0 y1 xl yl HC
  obtain ⟨r0, r1⟩ := HV.out.c2
  have vf := HV.out.frz
  have vl := HV.out.lt
  go_wp2_with fail
  have hv : Hx ((w2.setCell ⟨v, 0, none⟩ (.int .i64 0)).setCell ⟨v, 1, none⟩ (.int .i64 0)) v 0 0 := (HV.out.set0 0).set1 0
  obtain ⟨r0', r1'⟩ := hv.c2
  refine bodyPost_ret (v := .tuple #[.agg #[.int .i64 0, .int .i64 0], .int .i64 2]) (by simp [results, Try.results51, go_sem, r0', r1']) rfl ⟨rfl, (HB.out.setCell (by have := HN.out; show w.heap.size ≤ v; omega) _).setCell (by have := HN.out; show w.heap.size ≤ v; omega) _⟩
set_option maxHeartbeats 1000000 in
theorem rparent_root (qk : Pl) (b : Nat) (w : World) (s : Ps) (v1 v2 v3 v4 : Sv) (h : RfV w 32 s v1 v2 v3 v4) (ho : s.Ok 32 b) (hb : b ≤ 1000) (htr : Tr s.l) (hk : s.l[0]? = some qk) (hku : qk.used = true) :
    Calls Try.prog 51 #[.agg (vcl 32 v1 v2 v3 v4), .agg #[.int .i64 0, .int .i64 qk.gen]] w fun e w' => e = .returned (.tuple #[.agg #[.int .i64 0, .int .i64 0], .int .i64 12]) ∧ Below w.heap.size w w' := by
  obtain ⟨g1, e1, hg, hw⟩ := h.words htr
  obtain ⟨a, n, c⟩ := v1
  simp only at e1 hw
  subst e1
  have HF : Hid (s.find 0 qk.gen = some 0) := Lib.hid (find_of hk hku).1
  have HW := Lib.hid (fun (W : World) hW => (hw W hW 0 ⟨qk, hk, hku⟩))
  have HO := Lib.hid ho
  have HR := Lib.hid h
  generalize qk.gen = g at *
  obtain ⟨v1, hv1⟩ : ∃ v1 : Sv, v1 = ⟨some ⟨g1, 0, none⟩, n, c⟩ := ⟨_, rfl⟩
  have hv1a : v1.a = some ⟨g1, 0, none⟩ := by rw [hv1]
  have hv1n : v1.n = n := by rw [hv1]
  rw [← hv1] at HR ⊢
  have H1A := Lib.hid hv1a; have H1N := Lib.hid hv1n
  clear h ho htr hw hv1 hk hku hv1a hv1n
  go_enter Try.func51, Try.ntmps51
  go_upto_region 1 with (fail)
  obtain ⟨w1, hw1⟩ : ∃ w1, w1 = ((w.alloc (ubox v1 v2 v3 v4)).alloc (hbox 0 g)).alloc (hbox 0 0) := ⟨_, rfl⟩
  have HX : Hid (Ux w1 w.heap.size (vcl 32 v1 v2 v3 v4)) := Lib.hid (by rw [hw1]; exact ((Ux.new w _).alloc _).alloc _)
  have HY : Hid (Hx w1 (w.heap.size + 1) 0 g) := Lib.hid (by rw [hw1]; exact (Hx.new1 w _ 0 g).alloc _)
  have HV : Hid (Hx w1 (w.heap.size + 1 + 1) 0 0) := Lib.hid (by rw [hw1]; exact Hx.here _ _ (by simp))
  have HB : Hid (Below w.heap.size w w1) := Lib.hid (by rw [hw1]; exact ((below_alloc w _).alloc (by simp) _).alloc (by simp; omega) _)
  rw [← hw1]
  clear hw1
  obtain ⟨x, hx⟩ : ∃ x, x = w.heap.size := ⟨_, rfl⟩
  obtain ⟨y, hy⟩ : ∃ y, y = w.heap.size + 1 := ⟨_, rfl⟩
  obtain ⟨v, hv⟩ : ∃ v, v = w.heap.size + 1 + 1 := ⟨_, rfl⟩
  rw [← hv, ← hy, ← hx]
  rw [← hx] at HX; rw [← hy] at HY; rw [← hv] at HV
  have HN : Hid (x = w.heap.size ∧ y = w.heap.size + 1 ∧ v = w.heap.size + 1 + 1) := Lib.hid ⟨hx, hy, hv⟩
  clear hx hy hv
  have HC := Lib.hid (rv_yes HF.out (HR.out.behind HB.out) HO.out hb)
  obtain ⟨x0, x1, x2, x3, x4⟩ := HX.out.c5
  have xl := HX.out.lt
  obtain ⟨y0, y1⟩ := HY.out.c2
  have yl := HY.out.lt
  go_wp2_with fail
  refine HC.out.mono ?_
  rintro e w2 ⟨rfl, hz2⟩
  replace HV := Lib.hid (HV.out.behind hz2)
  replace HX := Lib.hid (HX.out.behind hz2)
  replace HY := Lib.hid (HY.out.behind hz2)
  replace HB := Lib.hid (below_trans HB.out hz2 HB.out.size)
  clear hz2 x0 x1 x2 x3 x4 y0 y1 xl yl HC
  obtain ⟨x0, x1, x2, x3, x4⟩ := HX.out.c5
  have xl := HX.out.lt
  obtain ⟨y0, y1⟩ := HY.out.c2
  have yl := HY.out.lt
  rw [H1A.out] at x1
  have hc := (HW.out _ HB.out).2
  have hn := (HW.out _ HB.out).1
  have hw0 : wrd s.l 0 = -1 := if_pos rfl
  rw [hw0] at hc
  rw [← H1N.out] at hn
  have gl : g1 < w2.heap.size := by have := HB.out.size; omega
  obtain ⟨r0, r1⟩ := HV.out.c2
  have vf := HV.out.frz
  have vl := HV.out.lt
  clear hw0
  go_wp2_with fail
  have hv : Hx ((w2.setCell ⟨v, 0, none⟩ (.int .i64 0)).setCell ⟨v, 1, none⟩ (.int .i64 0)) v 0 0 := (HV.out.set0 0).set1 0
  obtain ⟨r0', r1'⟩ := hv.c2
  refine bodyPost_ret (v := .tuple #[.agg #[.int .i64 0, .int .i64 0], .int .i64 12]) (by simp [results, Try.results51, go_sem, r0', r1']) rfl ⟨rfl, (HB.out.setCell (by have := HN.out; show w.heap.size ≤ v; omega) _).setCell (by have := HN.out; show w.heap.size ≤ v; omega) _⟩
set_option maxHeartbeats 1000000 in
theorem rparent_kid (k : Nat) (qk : Pl) (b : Nat) (w : World) (s : Ps) (v1 v2 v3 v4 : Sv) (h : RfV w 32 s v1 v2 v3 v4) (ho : s.Ok 32 b) (hb : b ≤ 1000) (htr : Tr s.l) (hk : s.l[k]? = some qk) (hku : qk.used = true) (hk0 : k ≠ 0) :
    Calls Try.prog 51 #[.agg (vcl 32 v1 v2 v3 v4), .agg #[.int .i64 k, .int .i64 qk.gen]] w fun e w' => e = .returned (.tuple #[.agg #[.int .i64 (upI s.l k : Nat), .int .i64 (s.l.getD (upI s.l k) plz).gen], .int .i64 0]) ∧ Below w.heap.size w w' := by
  obtain ⟨g1, e1, hg, hw⟩ := h.words htr
  obtain ⟨g3, e3, hg3, hw3⟩ := h.gensw htr
  have HF := Lib.hid (find_of hk hku).1
  obtain ⟨qu, hqu, _⟩ := (htr.up ⟨qk, hk, hku⟩ hk0).1
  have HW := Lib.hid (fun (W : World) hW => (hw W hW k ⟨qk, hk, hku⟩))
  rw [show wrd s.l k = upI s.l k from if_neg hk0] at HW
  have HW3 := Lib.hid (fun (W : World) hW => hw3 W hW _ qu hqu)
  rw [getD_of hqu]
  have HO := Lib.hid ho
  have HR := Lib.hid h
  have H1A := Lib.hid e1; have H3A := Lib.hid e3
  generalize hgg : qk.gen = g at *
  have HGG := Lib.hid hgg
  generalize qu.gen = gu at *
  generalize hd : upI s.l k = d at *
  have HD := Lib.hid hd
  clear h ho htr hw hw3 hk hku hqu e1 e3 hgg hd hk0
  go_enter Try.func51, Try.ntmps51
  go_upto_region 1 with (fail)
  obtain ⟨w1, hw1⟩ : ∃ w1, w1 = ((w.alloc (ubox v1 v2 v3 v4)).alloc (hbox k g)).alloc (hbox 0 0) := ⟨_, rfl⟩
  have HX : Hid (Ux w1 w.heap.size (vcl 32 v1 v2 v3 v4)) := Lib.hid (by rw [hw1]; exact ((Ux.new w _).alloc _).alloc _)
  have HY : Hid (Hx w1 (w.heap.size + 1) k g) := Lib.hid (by rw [hw1]; exact (Hx.new1 w _ k g).alloc _)
  have HV : Hid (Hx w1 (w.heap.size + 1 + 1) 0 0) := Lib.hid (by rw [hw1]; exact Hx.here _ _ (by simp))
  have HB : Hid (Below w.heap.size w w1) := Lib.hid (by rw [hw1]; exact ((below_alloc w _).alloc (by simp) _).alloc (by simp; omega) _)
  rw [← hw1]
  clear hw1
  obtain ⟨x, hx⟩ : ∃ x, x = w.heap.size := ⟨_, rfl⟩
  obtain ⟨y, hy⟩ : ∃ y, y = w.heap.size + 1 := ⟨_, rfl⟩
  obtain ⟨v, hv⟩ : ∃ v, v = w.heap.size + 1 + 1 := ⟨_, rfl⟩
  rw [← hv, ← hy, ← hx]
  rw [← hx] at HX; rw [← hy] at HY; rw [← hv] at HV
  have HN : Hid (x = w.heap.size ∧ y = w.heap.size + 1 ∧ v = w.heap.size + 1 + 1) := Lib.hid ⟨hx, hy, hv⟩
  clear hx hy hv
  have HC := Lib.hid (rv_yes HF.out (HR.out.behind HB.out) HO.out hb)
  obtain ⟨x0, x1, x2, x3, x4⟩ := HX.out.c5
  have xl := HX.out.lt
  obtain ⟨y0, y1⟩ := HY.out.c2
  have yl := HY.out.lt
  go_wp2_with fail
  refine HC.out.mono ?_
  rintro e w2 ⟨rfl, hz2⟩
  replace HV := Lib.hid (HV.out.behind hz2)
  replace HX := Lib.hid (HX.out.behind hz2)
  replace HY := Lib.hid (HY.out.behind hz2)
  replace HB := Lib.hid (below_trans HB.out hz2 HB.out.size)
  clear hz2 x0 x1 x2 x3 x4 y0 y1 xl yl HC
  obtain ⟨x0, x1, x2, x3, x4⟩ := HX.out.c5
  have xl := HX.out.lt
  obtain ⟨y0, y1⟩ := HY.out.c2
  have yl := HY.out.lt
  rw [H1A.out] at x1
  rw [H3A.out] at x3
  obtain ⟨hn, hc⟩ := HW.out _ HB.out
  obtain ⟨hn3, hc3⟩ := HW3.out _ HB.out
  have gl : g1 < w2.heap.size := by have := HB.out.size; omega
  have gl3 : g3 < w2.heap.size := by have := HB.out.size; omega
  obtain ⟨r0, r1⟩ := HV.out.c2
  have vf := HV.out.frz
  have vl := HV.out.lt
  go_wp2_with fail
  have hv : Hx ((w2.setCell ⟨v, 0, none⟩ (.int .i64 d)).setCell ⟨v, 1, none⟩ (.int .i64 gu)) v d gu := (HV.out.set0 d).set1 gu
  obtain ⟨r0', r1'⟩ := hv.c2
  refine bodyPost_ret (v := .tuple #[.agg #[.int .i64 d, .int .i64 gu], .int .i64 0]) (by simp [results, Try.results51, go_sem, r0', r1']) rfl ⟨rfl, (HB.out.setCell (by have := HN.out; show w.heap.size ≤ v; omega) _).setCell (by have := HN.out; show w.heap.size ≤ v; omega) _⟩
theorem rparent_any (i g : Int) (b : Nat) (w : World) (s : Ps) (v1 v2 v3 v4 : Sv) (h : RfV w 32 s v1 v2 v3 v4) (ho : s.Ok 32 b) (hb : b ≤ 1000) (htr : Tr s.l) :
    Calls Try.prog 51 #[.agg (vcl 32 v1 v2 v3 v4), .agg #[.int .i64 i, .int .i64 g]] w fun e w' => e = .returned (.tuple #[.agg #[.int .i64 (s.parI i g : Nat), .int .i64 (s.parG i g)], .int .i64 (s.parE i g)]) ∧ Below w.heap.size w w' := by
  unfold Ps.parI Ps.parG Ps.parE
  cases hf : s.find i g with
  | none => exact rparent_no i g b w s v1 v2 v3 v4 h ho hb hf
  | some k =>
    obtain ⟨qk, rfl, hk1, hk2, rfl, _, _⟩ := find_some hf
    by_cases hk : k = 0
    · subst hk
      simp only [if_true]
      exact rparent_root qk b w s v1 v2 v3 v4 h ho hb htr hk1 hk2
    · simp only [if_neg hk]
      exact rparent_kid k qk b w s v1 v2 v3 v4 h ho hb htr hk1 hk2 hk
theorem parent_any (i g : Int) (b : Nat) (w : World) (base t p : Nat) (s : Ps) (h : TrX w base t p s) (ho : s.Ok 32 b) (hb : b ≤ 1000) (htr : Tr s.l) :
    Calls Try.prog 13 #[.pointer (some ⟨t, 0, none⟩), .agg #[.int .i64 i, .int .i64 g]] w fun e w' => e = .returned (.tuple #[.agg #[.int .i64 (s.parI i g : Nat), .int .i64 (s.parG i g)], .int .i64 (s.parE i g)]) ∧ Below w.heap.size w w' := by
  unfold Ps.parI Ps.parG Ps.parE
  cases hf : s.find i g with
  | none => exact parent_no i g b w base t p s h ho hb hf
  | some k =>
    obtain ⟨qk, rfl, hk1, hk2, rfl, h5, h6⟩ := find_some hf
    by_cases hk : k = 0
    · subst hk
      simp only [if_true]
      have hg0 := zero_of htr hk1 rfl
      rw [hg0] at h6 ⊢
      exact parent_root b w base t p s h ho hb h6
    · simp only [if_neg hk]
      obtain ⟨j, q, hj, hju, hx, _⟩ := htr.kid k qk hk1 hk2 hk
      have hu : upI s.l k = j := by unfold upI; rw [getD_of hk1, hx]; simp
      have := parent_yes k qk.gen b w base t p s h ho hb h6 (by omega)
      rw [h5, hx] at this
      rw [hu, getD_of hj]
      exact this
end Go.Proofs.Ytnbljnpfmeidfaa
