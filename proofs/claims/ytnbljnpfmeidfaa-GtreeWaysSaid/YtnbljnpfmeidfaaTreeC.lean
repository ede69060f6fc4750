/- Contracts of the program's package gtree: New, Create. Conditions: the tree lies in memory as TrX says, its pool within bounds, its groups within one another. -/
import Derived.Test.YtnbljnpfmeidfaaTreeP
import Derived.Test.YtnbljnpfmeidfaaGtOps
namespace Go.Proofs.Ytnbljnpfmeidfaa
open Go Go.RowKit Go.ChangeShapes Go.WideShapes
set_option linter.unusedVariables false

/-- a tree's step: what lies in blocks that are not its pool's is as it was -/
theorem Hx.step {w w' : World} {base p k : Nat} {i g : Int} (h : Hx w k i g) (hs : PoolStep base p w w') (hp : k ≠ p) : Hx w' k i g := hs.same h hp (by decide)
theorem Gx.step {w w' : World} {base p k : Nat} {x : Pay} (h : Gx w k x) (hs : PoolStep base p w w') (hp : k ≠ p) : Gx w' k x := hs.same h hp (by decide)
theorem PoolStep.set {w w' : World} {base p y o : Nat} {u : Value} (h : PoolStep base p w w') (hb : base ≤ w.heap.size) (hy : w.heap.size ≤ y) : PoolStep base p w (w'.setCell ⟨y, o, none⟩ u) :=
  ⟨h.tch.setCell (.inr hy) _, h.below.setCell (by show base ≤ y; omega) _⟩
theorem TrX.far {w : World} {base t p : Nat} {s : Ps} (h : TrX w base t p s) {y : Nat} {cs : Array Value} {ty : TypeId} {fr : Nat × Nat} (hy : w.heap[y]? = some (.cells cs ty fr)) (h1 : ty ≠ 83) (h2 : ty ≠ 107) (h3 : ty ≠ 104) (o : Nat) (u : Value) : TrX (w.setCell ⟨y, o, none⟩ u) base t p s := by
  obtain ⟨v, hp⟩ := h.has
  have hyt : t ≠ y := by
    rintro rfl
    rw [h.tb] at hy
    simp only [Option.some.injEq, Obj.cells.injEq] at hy
    exact h1 hy.2.1.symm
  have hyp : y ≠ p := by
    rintro rfl
    rw [hp.blk] at hy
    simp only [Option.some.injEq, Obj.cells.injEq] at hy
    exact h2 hy.2.1.symm
  refine ⟨by rw [Below.heap_setCell _ _ _ _ (by exact hyt)]; exact h.tb, ⟨v, hp.far hyp ?_⟩, h.lo⟩
  rcases hp.own.2 with ⟨rfl, _⟩ | ⟨g, cap, cur, rfl, _, hh, _⟩
  · simp [Value.ownBlock]
  · intro hv
    simp [Value.ownBlock] at hv
    subst hv
    rw [hy] at hh
    simp only [Option.some.injEq, Obj.cells.injEq] at hh
    exact h3 hh.2.1
theorem TrX.farH {w : World} {base t p : Nat} {s : Ps} (h : TrX w base t p s) {y : Nat} {i g : Int} (hy : Hx w y i g) (o : Nat) (u : Value) : TrX (w.setCell ⟨y, o, none⟩ u) base t p s := h.far hy (by decide) (by decide) (by decide) o u
theorem new_any (w : World) :
    Calls Try.prog 19 #[] w fun e w' => ∃ t p, e = .returned (.pointer (some ⟨t, 0, none⟩)) ∧ TrX w' w.heap.size t p ps0 ∧ Below w.heap.size w w' := by
  have HP := Lib.hid (HasPool.made w 32 w.heap.size (Nat.le_refl _))
  go_enter Try.func19, Try.ntmps19
  go_wp2_with fail
  refine (new_yes 32 w (by omega)).mono ?_
  rintro e w1 ⟨rfl, rfl⟩
  go_wp2_with fail
  refine (pl_put ⟨-1, 0, 0, 0⟩ 0 _ w.heap.size w.heap.size 32 ⟨[], -1, [], 0⟩ ⟨_, HP.out⟩ (Ps.Ok.start 32 (by omega)) (by omega) (by simp)).mono ?_
  rintro e w2 ⟨rfl, hp2, hs2⟩
  rw [ps0_put] at hp2
  go_wp2
  go_ret
  have hz := hs2.tch.size
  simp at hz
  have hb2 := (below_alloc w (.cells #[.int .i64 32, .int .i64 0, .slice none 0 0, .int .i64 (-1)] 107)).trans hs2.below
  exact ⟨w2.heap.size, w.heap.size, rfl, ⟨heap_alloc_new w2 _, hp2.behind (below_alloc w2 _), by omega⟩, hb2.alloc hb2.size _⟩
theorem create_two (i g : Int) (w : World) (tv : Option Addr) (hc : ∀ W, Below w.heap.size w W → Calls Try.prog 31 #[.pointer tv, .agg #[.int .i64 i, .int .i64 g]] W fun e w' => e = .returned (.tuple #[.agg (gcells .zero), .int .i64 2]) ∧ Below W.heap.size W w') :
    Calls Try.prog 20 #[.pointer tv, .agg #[.int .i64 i, .int .i64 g]] w fun e w' => e = .returned (.tuple #[.agg #[.int .i64 0, .int .i64 0], .int .i64 2]) ∧ Below w.heap.size w w' := by
  have HC := Lib.hid (hc ((w.alloc (hbox i g)).alloc (hbox 0 0)) (((Below.refl _ w).alloc (Nat.le_refl _) _).alloc (by simp) _))
  clear hc
  go_enter Try.func20, Try.ntmps20
  go_wp2_with fail
  refine HC.out.mono ?_
  rintro e w2 ⟨rfl, hz2⟩
  have hb2 : Below w.heap.size w w2 := below_trans (((Below.refl _ w).alloc (Nat.le_refl _) (hbox i g)).alloc (by simp) (hbox 0 0)) hz2 (by simp; omega)
  have hY : Hx w2 (w.heap.size + 1) 0 0 := (Hx.new1 w (hbox i g) 0 0).behind hz2
  obtain ⟨y, hy⟩ : ∃ y, y = w.heap.size + 1 := ⟨_, rfl⟩
  rw [← hy] at hY ⊢
  have HB2 := Lib.hid hb2
  have Hy := Lib.hid hy
  clear hb2 hz2 hy
  obtain ⟨y0, y1⟩ := hY.c2
  have yf := hY.frz
  have yl := hY.lt
  clear hY
  go_wp2
  refine bodyPost_ret (v := .tuple #[.agg #[.int .i64 0, .int .i64 0], .int .i64 2]) (by simp [results, Try.results20, go_sem, y0, y1, yl]) rfl ⟨rfl, ?_⟩
  exact ((HB2.out.setCell (by show w.heap.size ≤ y; rw [Hy.out]; omega) _).setCell (by show w.heap.size ≤ y; rw [Hy.out]; omega) _).alloc (by have := HB2.out.size; simpa using this) _
set_option maxHeartbeats 1000000 in
theorem create_deep (k : Nat) (q : Pl) (b : Nat) (w : World) (base t p : Nat) (s : Ps) (h : TrX w base t p s) (ho : s.Ok 32 b) (hb : b ≤ 1000) (hk : s.l[k]? = some q) (hku : q.used = true) (hd : q.x.dp = 8) :
    Calls Try.prog 20 #[.pointer (some ⟨t, 0, none⟩), .agg #[.int .i64 k, .int .i64 q.gen]] w fun e w' => e = .returned (.tuple #[.agg #[.int .i64 0, .int .i64 0], .int .i64 5]) ∧ Below w.heap.size w w' := by
  have HC := Lib.hid (tat_place k q b ((w.alloc (hbox k q.gen)).alloc (hbox 0 0)) base t p s ((h.alloc _).alloc _) ho hb hk hku)
  obtain ⟨g, hg⟩ : ∃ g, g = q.gen := ⟨_, rfl⟩
  rw [← hg] at HC ⊢
  generalize q.x = x at HC hd
  obtain ⟨x0, x1, x2, x3⟩ := x
  have hx3 : x3 = 8 := hd
  subst hx3
  clear hd h ho hk hku hg
  go_enter Try.func20, Try.ntmps20
  go_wp2_with fail
  refine HC.out.mono ?_
  rintro e w2 ⟨rfl, hz2⟩
  have hb2 : Below w.heap.size w w2 := below_trans (((Below.refl _ w).alloc (Nat.le_refl _) (hbox k g)).alloc (by simp) (hbox 0 0)) hz2 (by simp; omega)
  have hY : Hx w2 (w.heap.size + 1) 0 0 := (Hx.new1 w (hbox k g) 0 0).behind hz2
  obtain ⟨y, hy⟩ : ∃ y, y = w.heap.size + 1 := ⟨_, rfl⟩
  rw [← hy] at hY ⊢
  have HB2 := Lib.hid hb2
  have Hy := Lib.hid hy
  clear hb2 hz2 hy
  obtain ⟨y0, y1⟩ := hY.c2
  have yf := hY.frz
  have yl := hY.lt
  clear hY
  go_wp2
  refine bodyPost_ret (v := .tuple #[.agg #[.int .i64 0, .int .i64 0], .int .i64 5]) (by simp [results, Try.results20, go_sem, y0, y1, yl]) rfl ⟨rfl, ?_⟩
  exact ((HB2.out.setCell (by show w.heap.size ≤ y; rw [Hy.out]; omega) _).setCell (by show w.heap.size ≤ y; rw [Hy.out]; omega) _).alloc (by have := HB2.out.size; simpa using this) _
set_option maxHeartbeats 1000000 in
set_option maxRecDepth 100000 in
theorem create_yes (k : Nat) (q : Pl) (b : Nat) (w : World) (base t p : Nat) (s : Ps) (h : TrX w base t p s) (ho : s.Ok 32 b) (hb : b ≤ 1000) (htr : Tr s.l) (hk : s.l[k]? = some q) (hku : q.used = true) (hd : q.x.dp ≠ 8) :
    Calls Try.prog 20 #[.pointer (some ⟨t, 0, none⟩), .agg #[.int .i64 k, .int .i64 q.gen]] w fun e w' => e = .returned (.tuple #[.agg #[.int .i64 (s.putI 32 : Nat), .int .i64 (s.putG 32)], .int .i64 (s.putE 32)]) ∧ TrX w' base t p (s.put 32 ⟨k, k, q.gen, q.x.dp + 1⟩) ∧ PoolStep base p w w' := by
  have HC := Lib.hid (tat_place k q b ((w.alloc (hbox k q.gen)).alloc (hbox 0 0)) base t p s ((h.alloc _).alloc _) ho hb hk hku)
  have HT := Lib.hid h; have HO := Lib.hid ho
  have hdp := htr.dp hk hku
  obtain ⟨g, hg⟩ : ∃ g, g = q.gen := ⟨_, rfl⟩
  rw [← hg] at HC ⊢
  generalize q.x = x at HC hd hdp ⊢
  obtain ⟨x0, x1, x2, x3⟩ := x
  have hd8 : (x3 == 8) = false := beq_eq_false_iff_ne.2 hd
  have hx3 : 0 ≤ x3 ∧ x3 ≤ 8 := ⟨hdp.1, hdp.2.1⟩
  clear hd h ho hk hku hg htr hdp
  simp only
  have HPU := Lib.hid (fun (W : World) (hW : TrX W base t p s) => pl_put ⟨k, k, g, x3 + 1⟩ b W base p 32 s hW.has HO.out hb hW.base_le)
  generalize s.putI 32 = pi at HPU ⊢
  generalize s.putG 32 = pg at HPU ⊢
  generalize s.putE 32 = pe at HPU ⊢
  have HX3 := Lib.hid hx3
  go_enter Try.func20, Try.ntmps20
  go_wp2_with fail
  refine HC.out.mono ?_
  rintro e w2 ⟨rfl, hz2⟩
  go_upto_region 6 with (fail)
  have hb2 : Below w.heap.size w w2 := below_trans (((Below.refl _ w).alloc (Nat.le_refl _) (hbox k g)).alloc (by simp) (hbox 0 0)) hz2 (by simp; omega)
  have hb3 : Below w.heap.size w (w2.alloc (gbox ⟨x0, x1, x2, x3⟩)) := hb2.alloc hb2.size _
  have hZ : Hx (w2.alloc (gbox ⟨x0, x1, x2, x3⟩)) w.heap.size k g := (((Hx.new w k g).alloc _).behind hz2).alloc _
  have hY : Hx (w2.alloc (gbox ⟨x0, x1, x2, x3⟩)) (w.heap.size + 1) 0 0 := ((Hx.new1 w (hbox k g) 0 0).behind hz2).alloc _
  have hU := Gx.new w2 ⟨x0, x1, x2, x3⟩
  obtain ⟨w3, hw3⟩ : ∃ w3, w3 = w2.alloc (gbox ⟨x0, x1, x2, x3⟩) := ⟨_, rfl⟩
  obtain ⟨z, hz⟩ : ∃ z, z = w.heap.size := ⟨_, rfl⟩
  obtain ⟨y, hy⟩ : ∃ y, y = w.heap.size + 1 := ⟨_, rfl⟩
  obtain ⟨u, hu⟩ : ∃ u, u = w2.heap.size := ⟨_, rfl⟩
  rw [show w2.alloc (Obj.cells #[Value.int IntKind.i64 x1, Value.int IntKind.i64 x2, Value.int IntKind.i64 x3] 71) = w3 from hw3.symm]
  rw [← hw3] at hb3 hZ hY hU
  rw [← hy, ← hz, ← hu]
  rw [← hz] at hZ
  rw [← hy] at hY
  rw [← hu] at hU
  have hpl := HT.out.has.lt
  have htl := HT.out.lt
  have hzz := hb2.size
  have nz : ¬ z = p := by omega
  have ny : ¬ y = p := by omega
  have nu : ¬ u = p := by omega
  have nyz : ¬ y = z := by omega
  have nyu : ¬ y = u := by have := hz2.size; simp at this; omega
  have nyt : ¬ y = t := by omega
  have HNP := Lib.hid (And.intro nz (And.intro ny nu))
  have HB3 := Lib.hid hb3; have HZ := Lib.hid hZ; have HY := Lib.hid hY; have HU := Lib.hid hU
  have Hy := Lib.hid hy
  have HTD : Hid (TrX w3.drew base t p s) := Lib.hid ((HT.out.behind hb3).behind (below_drew (Below.refl _ w3)))
  clear hz2 hw3 hz hy hu hb3 hZ hY hU hb2 hpl htl hzz nz ny nu
  obtain ⟨z0, z1⟩ := HZ.out.c2
  obtain ⟨u0, u1, u2⟩ := HU.out.c3
  have hwr : IntKind.i64.wrap (x3 + 1) = x3 + 1 := IntWalk.i64_in _ (by omega)
  have tc : w3.cell? ⟨t, 0, none⟩ = some (.pointer (some ⟨p, 0, none⟩)) := HTD.out.cell
  have HPUT := Lib.hid (HPU.out w3.drew HTD.out)
  have HS := Lib.hid (fun (w4 : World) (hs : PoolStep base p w3.drew w4) => show ((w4.cell? ⟨t, 0, none⟩ = some (.pointer (some ⟨p, 0, none⟩)) ∧ w4.cell? ⟨z, 0, none⟩ = some (.int .i64 k) ∧ w4.cell? ⟨z, 1, none⟩ = some (.int .i64 g) ∧ w4.cell? ⟨u, 2, none⟩ = some (.int .i64 x3)) ∧ Hx w4 y 0 0) from by
    obtain ⟨n1, n2, n3⟩ := HNP.out
    have hz4 := Hx.step (w := w3.drew) HZ.out.drew hs n1
    have hu4 := Gx.step (w := w3.drew) (x := ⟨x0, x1, x2, x3⟩) HU.out hs n3
    have hy4 := Hx.step (w := w3.drew) HY.out.drew hs n2
    have ht4 : w4.heap[t]? = _ := hs.same HTD.out.tb HTD.out.ne (by decide)
    exact ⟨⟨by simp [World.cell?, ht4], hz4.c2.1, hz4.c2.2, hu4.c3.2.2⟩, hy4⟩)
  go_region_held3 (fun w' => w'.cell? ⟨t, 0, none⟩ = some (.pointer (some ⟨p, 0, none⟩)) ∧ w'.cell? ⟨z, 0, none⟩ = some (.int .i64 k) ∧ w'.cell? ⟨z, 1, none⟩ = some (.int .i64 g) ∧ w'.cell? ⟨u, 2, none⟩ = some (.int .i64 x3))
    (first | exact ⟨tc, z0, z1, u2⟩ | assumption | (refine ⟨?_, ?_, ?_, ?_⟩; (rw [far_cell _ _ _ _ _ _ nyt, far_cell _ _ _ _ _ _ nyt]; exact hS4.1); (rw [far_cell _ _ _ _ _ _ nyz, far_cell _ _ _ _ _ _ nyz]; exact hS4.2.1); (rw [far_cell _ _ _ _ _ _ nyz, far_cell _ _ _ _ _ _ nyz]; exact hS4.2.2.1); (rw [far_cell _ _ _ _ _ _ nyu, far_cell _ _ _ _ _ _ nyu]; exact hS4.2.2.2)))
    (first | (go_at_call 39; refine HPUT.out.mono ?_; rintro e w4 ⟨rfl, hp4, hs4⟩; obtain ⟨hS4, hY4⟩ := HS.out w4 hs4; obtain ⟨y0, y1⟩ := hY4.c2; have yf := hY4.frz))
  clear hS4
  go_wp2
  refine bodyPost_ret (v := .tuple #[.agg #[.int .i64 (pi : Nat), .int .i64 pg], .int .i64 pe]) (by simp [results, Try.results20, go_sem, y0, y1]) rfl ⟨rfl, ?_, ?_⟩
  · exact ((HTD.out.step hs4 hp4).farH hY4 _ _).farH (hY4.set0 _) _ _
  · have hbw := HT.out.base_le
    have h1 : PoolStep base p w w3.drew := PoolStep.of_below (below_drew HB3.out) hbw
    exact ((h1.trans hs4).set hbw (by rw [Hy.out]; omega)).set hbw (by rw [Hy.out]; omega)
/-- Create -/
theorem create_any (i g : Int) (b : Nat) (w : World) (base t p : Nat) (s : Ps) (h : TrX w base t p s) (ho : s.Ok 32 b) (hb : b ≤ 1000) (htr : Tr s.l) :
    Calls Try.prog 20 #[.pointer (some ⟨t, 0, none⟩), .agg #[.int .i64 i, .int .i64 g]] w fun e w' => e = .returned (.tuple #[.agg #[.int .i64 (s.creI i g : Nat), .int .i64 (s.creG i g)], .int .i64 (s.creE i g)]) ∧ TrX w' base t p (s.cre i g) ∧ PoolStep base p w w' := by
  unfold Ps.cre Ps.creI Ps.creG Ps.creE
  cases hk : s.find i g with
  | none =>
    refine (create_two i g w _ (fun W hW => ?_)).mono ?_
    · have := tat_any i g b W base t p s (h.behind hW) ho hb
      rwa [(getV_no hk).1, (getV_no hk).2] at this
    · rintro e w' ⟨rfl, hz⟩
      exact ⟨rfl, h.behind hz, PoolStep.of_below hz h.base_le⟩
  | some k =>
    obtain ⟨q, rfl, hk1, hk2, rfl, _, h6⟩ := find_some hk
    obtain ⟨d1, d2, d3, d4⟩ := htr.dp hk1 hk2
    by_cases hd : dep s.l k = 8
    · simp only [if_pos hd]
      exact (create_deep k q b w base t p s h ho hb hk1 hk2 (by omega)).mono fun e w' ⟨h1, h2⟩ => ⟨h1, h.behind h2, PoolStep.of_below h2 h.base_le⟩
    · simp only [if_neg hd]
      rw [← d4]
      exact create_yes k q b w base t p s h ho hb htr hk1 hk2 (by omega)
end Go.Proofs.Ytnbljnpfmeidfaa
