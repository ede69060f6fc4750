/- What lies in memory in the law ArenaPlays: the program's pool, the document's in a box, the handles told, a deed. -/
import Derived.Test.YtdkfdpiikhgfiaaPlayWhich
namespace Go.Proofs.Ytdkfdpiikhgfiaa
open Go Go.RowKit Go.ChangeShapes Go.WideShapes
set_option linter.unusedVariables false

/-- a slice's value -/
structure Sv where
  a : Option Addr
  n : Nat
  c : Nat
abbrev vcl (room : Int) (v1 v2 v3 v4 : Sv) : Array Value := #[.int .i64 room, .slice v1.a v1.n v1.c, .slice v2.a v2.n v2.c, .slice v3.a v3.n v3.c, .slice v4.a v4.n v4.c]
/-- the document's pool as five cells -/
def RfV (w : World) (room : Int) (s : Ps) (v1 v2 v3 v4 : Sv) : Prop := ∃ a1 c1 a2 c2 a3 c3 a4 c4, vcl room v1 v2 v3 v4 = rcl room s a1 c1 a2 c2 a3 c3 a4 c4 ∧ RfX w room s a1 c1 a2 c2 a3 c3 a4 c4
theorem RfV.mk {w : World} {room : Int} {s : Ps} {a1 : Option Addr} {c1 : Nat} {a2 : Option Addr} {c2 : Nat} {a3 : Option Addr} {c3 : Nat} {a4 : Option Addr} {c4 : Nat} (h : RfX w room s a1 c1 a2 c2 a3 c3 a4 c4) :
    RfV w room s ⟨a1, (s.rp room).vals.length, c1⟩ ⟨a2, (s.rp room).used.length, c2⟩ ⟨a3, (s.rp room).gens.length, c3⟩ ⟨a4, (s.rp room).freed.length, c4⟩ := ⟨a1, c1, a2, c2, a3, c3, a4, c4, rfl, h⟩
theorem RfV.behind {w w' : World} {room : Int} {s : Ps} {v1 v2 v3 v4 : Sv} (h : RfV w room s v1 v2 v3 v4) (hb : Below w.heap.size w w') : RfV w' room s v1 v2 v3 v4 := by
  obtain ⟨a1, c1, a2, c2, a3, c3, a4, c4, e, h⟩ := h
  exact ⟨a1, c1, a2, c2, a3, c3, a4, c4, e, RefP.behind h hb⟩
theorem RfV.far {w : World} {p : Nat} {cs : Array Value} {room : Int} {s : Ps} {v1 v2 v3 v4 : Sv} (h : RfV w room s v1 v2 v3 v4) (x : Px w p cs) (o : Nat) (u : Value) : RfV (w.setCell ⟨p, o, none⟩ u) room s v1 v2 v3 v4 := by
  obtain ⟨a1, c1, a2, c2, a3, c3, a4, c4, e, h⟩ := h
  exact ⟨a1, c1, a2, c2, a3, c3, a4, c4, e, RefP.far h x o u⟩
theorem RfV.prog {w w' : World} {base p : Nat} {s0 : Ps} {room : Int} {s : Ps} {v1 v2 v3 v4 : Sv} (h : RfV w room s v1 v2 v3 v4) (hp : PlX w base p room s0) (hs : PoolStep base p w w') : RfV w' room s v1 v2 v3 v4 := by
  obtain ⟨a1, c1, a2, c2, a3, c3, a4, c4, e, h⟩ := h
  obtain ⟨v, hp⟩ := hp
  exact ⟨a1, c1, a2, c2, a3, c3, a4, c4, e, ⟨ownsRow_step h.vals hs (by decide) (hp.notRow _ (by decide)), ownsRow_step h.used hs (by decide) (hp.notRow _ (by decide)), ownsRow_step h.gens hs (by decide) (hp.notRow _ (by decide)), ownsRow_step h.freed hs (by decide) (hp.notRow _ (by decide))⟩⟩
theorem row_two {w : World} {base base2 : Nat} {e e2 : TypeId} {size size2 n n2 : Nat} {v v2 : Value} {xs xs2 : List Value} (h : w.ownsRow base e size v n xs) (h2 : w.ownsRow base2 e2 size2 v2 n2 xs2) (he : e ≠ e2) {k : Nat} (hk : v2.ownBlock = some k) : v.ownBlock ≠ some k := by
  intro hv
  rcases h.2 with ⟨rfl, _⟩ | ⟨g, cap, cur, rfl, _, hh, _⟩
  · simp [Value.ownBlock] at hv
  · rcases h2.2 with ⟨rfl, _⟩ | ⟨g2, cap2, cur2, rfl, _, hh2, _⟩
    · simp [Value.ownBlock] at hk
    · simp [Value.ownBlock] at hv hk
      subst hv hk
      rw [hh] at hh2
      simp only [Option.some.injEq, Obj.cells.injEq] at hh2
      exact he hh2.2.1
/-- a row behind the growth of another -/
theorem row_keep {w w' : World} {base base2 : Nat} {e e2 : TypeId} {size size2 n n2 : Nat} {v v2 : Value} {xs xs2 : List Value} (h : w.ownsRow base e size v n xs) (h2 : w.ownsRow base2 e2 size2 v2 n2 xs2) (he : e ≠ e2) (hg : w.grownBy w' v2.ownBlock) : w'.ownsRow base e size v n xs := by
  refine ⟨h.1, ?_⟩
  rcases h.2 with hn | ⟨g, cap, cur, hv, hb, hh, hr⟩
  · exact .inl hn
  · refine .inr ⟨g, cap, cur, hv, hb, ?_, hr⟩
    rw [hg.block g (Array.getElem?_eq_some_iff.1 hh).1 ?_]
    · exact hh
    · intro hk
      exact row_two h h2 he hk.symm (by rw [hv]; rfl)
theorem px_keep {w w' : World} {base2 : Nat} {e2 : TypeId} {size2 n2 x : Nat} {v2 : Value} {xs2 : List Value} {cs : Array Value} (h : Px w x cs) (h2 : w.ownsRow base2 e2 size2 v2 n2 xs2) (he : e2 ≠ 45) (hg : w.grownBy w' v2.ownBlock) : Px w' x cs := by
  unfold Px
  rw [hg.block x h.lt ?_]
  · exact h
  · intro hk
    rcases h2.2 with ⟨rfl, _⟩ | ⟨g2, cap2, cur2, rfl, _, hh2, _⟩
    · simp [Value.ownBlock] at hk
    · simp [Value.ownBlock] at hk
      subst hk
      unfold Px at h
      rw [h] at hh2
      simp only [Option.some.injEq, Obj.cells.injEq] at hh2
      exact he hh2.2.1.symm
theorem RfV.keep {w w' : World} {base2 : Nat} {e2 : TypeId} {size2 n2 : Nat} {v : Value} {xs2 : List Value} {room : Int} {s : Ps} {v1 v2 v3 v4 : Sv} (h : RfV w room s v1 v2 v3 v4) (h2 : w.ownsRow base2 e2 size2 v n2 xs2) (he : 3 ≠ e2) (he' : 4 ≠ e2) (hg : w.grownBy w' v.ownBlock) : RfV w' room s v1 v2 v3 v4 := by
  obtain ⟨a1, c1, a2, c2, a3, c3, a4, c4, e, h⟩ := h
  exact ⟨a1, c1, a2, c2, a3, c3, a4, c4, e, ⟨row_keep h.vals h2 he hg, row_keep h.used h2 he' hg, row_keep h.gens h2 he hg, row_keep h.freed h2 he hg⟩⟩
theorem rv_put (x : Int) (b : Nat) (w : World) (room : Int) (s : Ps) (v1 v2 v3 v4 : Sv) (h : RfV w room s v1 v2 v3 v4) (ho : s.Ok room b) (hb : b ≤ 1000) :
    Calls Try.prog 18 #[.agg (vcl room v1 v2 v3 v4), .int .i64 x] w fun e w' => ∃ u1 u2 u3 u4, e = .returned (.tuple #[.agg (vcl room u1 u2 u3 u4), .agg #[.int .i64 (s.putI room : Nat), .int .i64 (s.putG room)], .int .i64 (s.putE room)]) ∧ RfV w' room (s.put room x) u1 u2 u3 u4 ∧ Below w.heap.size w w' := by
  obtain ⟨a1, c1, a2, c2, a3, c3, a4, c4, e, h⟩ := h
  rw [e]
  exact (rl_put x b w room s a1 c1 a2 c2 a3 c3 a4 c4 h ho hb).mono fun e w' ⟨a1, d1, a2, d2, a3, d3, a4, d4, he, h1, h2⟩ => ⟨⟨a1, _, d1⟩, ⟨a2, _, d2⟩, ⟨a3, _, d3⟩, ⟨a4, _, d4⟩, he, RfV.mk h1, h2⟩
theorem rv_get (i g : Int) (b : Nat) (w : World) (room : Int) (s : Ps) (v1 v2 v3 v4 : Sv) (h : RfV w room s v1 v2 v3 v4) (ho : s.Ok room b) (hb : b ≤ 1000) :
    Calls Try.prog 19 #[.agg (vcl room v1 v2 v3 v4), .agg #[.int .i64 i, .int .i64 g]] w fun e w' => e = .returned (.tuple #[.int .i64 (s.getV i g), .int .i64 (s.namE i g)]) ∧ Below w.heap.size w w' := by
  obtain ⟨a1, c1, a2, c2, a3, c3, a4, c4, e, h⟩ := h
  rw [e]
  exact rl_get i g b w room s a1 c1 a2 c2 a3 c3 a4 c4 h ho hb
theorem rv_set (i g x : Int) (b : Nat) (w : World) (room : Int) (s : Ps) (v1 v2 v3 v4 : Sv) (h : RfV w room s v1 v2 v3 v4) (ho : s.Ok room b) (hb : b ≤ 1000) :
    Calls Try.prog 20 #[.agg (vcl room v1 v2 v3 v4), .agg #[.int .i64 i, .int .i64 g], .int .i64 x] w fun e w' => ∃ u1 u2 u3 u4, e = .returned (.tuple #[.agg (vcl room u1 u2 u3 u4), .int .i64 (s.namE i g)]) ∧ RfV w' room (s.set i g x) u1 u2 u3 u4 ∧ Below w.heap.size w w' := by
  obtain ⟨a1, c1, a2, c2, a3, c3, a4, c4, e, h⟩ := h
  rw [e]
  exact (rl_set i g x b w room s a1 c1 a2 c2 a3 c3 a4 c4 h ho hb).mono fun e w' ⟨a1, d1, a2, d2, a3, d3, a4, d4, he, h1, h2⟩ => ⟨⟨a1, _, d1⟩, ⟨a2, _, d2⟩, ⟨a3, _, d3⟩, ⟨a4, _, d4⟩, he, RfV.mk h1, h2⟩
theorem rv_free (i g : Int) (b : Nat) (w : World) (room : Int) (s : Ps) (v1 v2 v3 v4 : Sv) (h : RfV w room s v1 v2 v3 v4) (ho : s.Ok room b) (hb : b ≤ 1000) :
    Calls Try.prog 21 #[.agg (vcl room v1 v2 v3 v4), .agg #[.int .i64 i, .int .i64 g]] w fun e w' => ∃ u1 u2 u3 u4, e = .returned (.tuple #[.agg (vcl room u1 u2 u3 u4), .int .i64 (s.getV i g), .int .i64 (s.namE i g)]) ∧ RfV w' room (s.fre i g) u1 u2 u3 u4 ∧ Below w.heap.size w w' := by
  obtain ⟨a1, c1, a2, c2, a3, c3, a4, c4, e, h⟩ := h
  rw [e]
  exact (rl_free i g b w room s a1 c1 a2 c2 a3 c3 a4 c4 h ho hb).mono fun e w' ⟨a1, d1, a2, d2, a3, d3, a4, d4, he, h1, h2⟩ => ⟨⟨a1, _, d1⟩, ⟨a2, _, d2⟩, ⟨a3, _, d3⟩, ⟨a4, _, d4⟩, he, RfV.mk h1, h2⟩
theorem rv_all (b : Nat) (w : World) (room : Int) (s : Ps) (v1 v2 v3 v4 : Sv) (h : RfV w room s v1 v2 v3 v4) (ho : s.Ok room b) (hb : b ≤ 1000) :
    Calls Try.prog 22 #[.agg (vcl room v1 v2 v3 v4)] w fun e w' => ∃ a c, e = .returned (.slice a (allL s.l).length c) ∧ w'.ownsRow w.heap.size 31 2 (.slice a (allL s.l).length c) (allL s.l).length (hcl (allL s.l)) ∧ Below w.heap.size w w' := by
  obtain ⟨a1, c1, a2, c2, a3, c3, a4, c4, e, h⟩ := h
  rw [e]
  refine (rall_any w (s.rp room) a1 c1 a2 c2 a3 c3 a4 c4 h (ho.rp hb)).mono ?_
  rintro e w' ⟨v, he, h1, h2⟩
  rw [allL_rp] at h1
  obtain ⟨a, c, rfl⟩ := hrow_nil h1
  exact ⟨a, c, he, h1, h2⟩
theorem pv_all (b : Nat) (w : World) (base p : Nat) (room : Int) (s : Ps) (h : PlX w base p room s) (ho : s.Ok room b) (hb : b ≤ 1000) :
    Calls Try.prog 24 #[.pointer (some ⟨p, 0, none⟩)] w fun e w' => ∃ a c, e = .returned (.slice a (allL s.l).length c) ∧ w'.ownsRow w.heap.size 31 2 (.slice a (allL s.l).length c) (allL s.l).length (hcl (allL s.l)) ∧ Below w.heap.size w w' := by
  obtain ⟨v, h⟩ := h
  obtain ⟨b1, _⟩ := ho.lo hb
  refine (pall_any w base p v room s.many s.free s.l h (by omega)).mono ?_
  rintro e w' ⟨v, he, h1, h2⟩
  obtain ⟨a, c, rfl⟩ := hrow_nil h1
  exact ⟨a, c, he, h1, h2⟩
theorem pv_len (b : Nat) (w : World) (base p : Nat) (room : Int) (s : Ps) (h : PlX w base p room s) (ho : s.Ok room b) :
    Calls Try.prog 14 #[.pointer (some ⟨p, 0, none⟩)] w fun e w' => e = .returned (.int .i64 ((allL s.l).length : Nat)) ∧ w = w' := by
  obtain ⟨v, h⟩ := h
  rw [← ho.all]
  exact len_any w base p v room s.many s.free s.l h
/-- the program's pool at p, the document's in the box x, the handles told -/
structure Sit (w : World) (base p x : Nat) (room : Int) (s s2 : Ps) (v1 v2 v3 v4 : Sv) (vt : Value) (T : List (Nat × Int)) : Prop where
  has : PlX w base p room s
  box : Px w x (vcl room v1 v2 v3 v4)
  ref : RfV w room s2 v1 v2 v3 v4
  told : w.ownsRow base 31 2 vt T.length (hcl T)
  ne : x ≠ p
theorem PlX.behind {w w' : World} {base p : Nat} {room : Int} {s : Ps} (h : PlX w base p room s) (hb : Below w.heap.size w w') : PlX w' base p room s := by
  obtain ⟨v, h⟩ := h; exact ⟨v, h.behind hb⟩
theorem PlX.lt {w : World} {base p : Nat} {room : Int} {s : Ps} (h : PlX w base p room s) : p < w.heap.size := by
  obtain ⟨v, h⟩ := h; exact h.lt
theorem Sit.behind {w w' : World} {base p x : Nat} {room : Int} {s s2 : Ps} {v1 v2 v3 v4 : Sv} {vt : Value} {T : List (Nat × Int)} (h : Sit w base p x room s s2 v1 v2 v3 v4 vt T) (hb : Below w.heap.size w w') : Sit w' base p x room s s2 v1 v2 v3 v4 vt T :=
  ⟨h.has.behind hb, h.box.behind hb, h.ref.behind hb, ownsRow_below h.told hb, h.ne⟩
theorem Sit.prog {w w' : World} {base p x : Nat} {room : Int} {s s2 s' : Ps} {v1 v2 v3 v4 : Sv} {vt : Value} {T : List (Nat × Int)} (h : Sit w base p x room s s2 v1 v2 v3 v4 vt T) (hp : PlX w' base p room s') (hs : PoolStep base p w w') : Sit w' base p x room s' s2 v1 v2 v3 v4 vt T := by
  have h0 := h.has
  obtain ⟨v, hq⟩ := h.has
  exact ⟨hp, hs.same h.box h.ne (by decide), h.ref.prog h0 hs, ownsRow_step h.told hs (by decide) (hq.notRow _ (by decide)), h.ne⟩
theorem HasPool.px {w : World} {base p x : Nat} {v : Value} {room many free : Int} {l : List Pl} {cs : Array Value} (h : HasPool w base p v room many free l) (hx : Px w x cs) : v.ownBlock ≠ some x := by
  rcases h.own.2 with ⟨rfl, _⟩ | ⟨g, cap, cur, rfl, _, hh, _⟩
  · simp [Value.ownBlock]
  · intro hk
    simp [Value.ownBlock] at hk
    subst hk
    unfold Px at hx
    rw [hx] at hh
    simp only [Option.some.injEq, Obj.cells.injEq] at hh
    exact absurd hh.2.1 (by decide)
theorem row2_px {w : World} {base p : Nat} {e : TypeId} {size : Nat} {v : Value} {n : Nat} {xs : List Value} {cs : Array Value} (h : w.ownsRow base e size v n xs) (x : Px w p cs) (he : e ≠ 45) : v.ownBlock ≠ some p := by
  rcases h.2 with ⟨rfl, _⟩ | ⟨g, cap, cur, rfl, _, hh, _⟩
  · simp [Value.ownBlock]
  · intro hv
    simp [Value.ownBlock] at hv
    subst hv
    unfold Px at x
    rw [x] at hh
    simp only [Option.some.injEq, Obj.cells.injEq] at hh
    exact absurd hh.2.1.symm he
theorem Sit.set1 {w : World} {base p x o : Nat} {room : Int} {s s2 : Ps} {u : Value} (h : PlX w base p room s) {cs : Array Value} (hx : Px w x cs) (hne : x ≠ p) : PlX (w.setCell ⟨x, o, none⟩ u) base p room s := by
  obtain ⟨v, h⟩ := h
  exact ⟨v, h.far hne (h.px hx)⟩
/-- the five stores that lay another pool into the box -/
def put5 (w : World) (x : Nat) (room : Int) (v1 v2 v3 v4 : Sv) : World :=
  ((((w.setCell ⟨x, 0, none⟩ (.int .i64 room)).setCell ⟨x, 1, none⟩ (.slice v1.a v1.n v1.c)).setCell ⟨x, 2, none⟩ (.slice v2.a v2.n v2.c)).setCell ⟨x, 3, none⟩ (.slice v3.a v3.n v3.c)).setCell ⟨x, 4, none⟩ (.slice v4.a v4.n v4.c)
theorem px_five {w : World} {x : Nat} {room : Int} {v1 v2 v3 v4 u1 u2 u3 u4 : Sv} (h : Px w x (vcl room v1 v2 v3 v4)) : Px (put5 w x room u1 u2 u3 u4) x (vcl room u1 u2 u3 u4) := ((((h.set _).set _).set _).set _).set _
theorem Sit.store {w : World} {base p x : Nat} {room : Int} {s s2 s3 : Ps} {v1 v2 v3 v4 u1 u2 u3 u4 : Sv} {vt : Value} {T : List (Nat × Int)} (h : Sit w base p x room s s2 v1 v2 v3 v4 vt T) (hr : RfV w room s3 u1 u2 u3 u4) : Sit (put5 w x room u1 u2 u3 u4) base p x room s s3 u1 u2 u3 u4 vt T := by
  have b0 := h.box
  have b1 := b0.set (o := 0) (.int .i64 room)
  have b2 := b1.set (o := 1) (.slice u1.a u1.n u1.c)
  have b3 := b2.set (o := 2) (.slice u2.a u2.n u2.c)
  have b4 := b3.set (o := 3) (.slice u3.a u3.n u3.c)
  have hne := row2_px h.told b0 (by decide)
  exact ⟨Sit.set1 (s2 := s) (Sit.set1 (s2 := s) (Sit.set1 (s2 := s) (Sit.set1 (s2 := s) (Sit.set1 (s2 := s) h.has b0 h.ne) b1 h.ne) b2 h.ne) b3 h.ne) b4 h.ne, px_five b0,
    ((((hr.far b0 0 _).far b1 1 _).far b2 2 _).far b3 3 _).far b4 4 _,
    row_other (row_other (row_other (row_other (row_other h.told hne) hne) hne) hne) hne, h.ne⟩
theorem put5_below {B : Nat} {a w : World} {x : Nat} (h : Below B a w) (hx : B ≤ x) (room : Int) (v1 v2 v3 v4 : Sv) : Below B a (put5 w x room v1 v2 v3 v4) :=
  ((((h.setCell hx _).setCell hx _).setCell hx _).setCell hx _).setCell hx _
theorem Hx.put5 {w : World} {k x : Nat} {i g : Int} {room : Int} {v1 v2 v3 v4 : Sv} (h : Hx w k i g) (hne : k ≠ x) : Hx (put5 w x room v1 v2 v3 v4) k i g :=
  ((((h.far hne).far hne).far hne).far hne).far hne
theorem Hx.step {w w' : World} {base p k : Nat} {i g : Int} (h : Hx w k i g) (hs : PoolStep base p w w') (hp : k ≠ p) : Hx w' k i g := hs.same h hp (by decide)
theorem Dx.step {w w' : World} {base p k : Nat} {d : Ded} (h : Dx w k d) (hs : PoolStep base p w w') (hp : k ≠ p) : Dx w' k d := hs.same h hp (by decide)
theorem Sit.tell {w w' : World} {base p x : Nat} {room : Int} {s s2 : Ps} {v1 v2 v3 v4 : Sv} {vt vt' : Value} {T : List (Nat × Int)} {o : Obj} {k : Nat} {g : Int} (h : Sit w base p x room s s2 v1 v2 v3 v4 vt T) (hg : (w.alloc o).grownBy w' vt.ownBlock)
    (ho : w'.ownsRow base 31 2 vt' (T.length + 1) (hcl T ++ [.int .i64 k, .int .i64 g])) : Sit w' base p x room s s2 v1 v2 v3 v4 vt' (T ++ [(k, g)]) := by
  have h1 := h.behind (below_alloc w o)
  obtain ⟨v, hp⟩ := h1.has
  refine ⟨⟨v, hp.rowGrown hg h1.told (by decide) (by decide)⟩, px_keep h1.box h1.told (by decide) hg, h1.ref.keep h1.told (by decide) (by decide) hg, ?_, h1.ne⟩
  rw [hcl_app] at ho
  simpa using ho
/-- what a slice of Deed holds -/
def DeedsAt (w : World) (a : Option Addr) (len : Nat) (f : Nat → Ded) : Prop := ∀ j, j < len → ∃ b off, a = some ⟨b, off, none⟩ ∧ b < w.heap.size ∧
  w.cell? ⟨b, off + j * 5, none⟩ = some (.int .i64 (f j).kd) ∧ w.cell? ⟨b, off + j * 5 + 1, none⟩ = some (.int .i64 (f j).n) ∧ w.cell? ⟨b, off + j * 5 + 2, none⟩ = some (.int .i64 (f j).old) ∧ w.cell? ⟨b, off + j * 5 + 3, none⟩ = some (.int .i64 (f j).i) ∧ w.cell? ⟨b, off + j * 5 + 4, none⟩ = some (.int .i64 (f j).g)
theorem deedsAt_of {w : World} {a : Option Addr} {len : Nat} (h : FlatSlice [some .i64, some .i64, some .i64, some .i64, some .i64] w a len) : ∃ f, DeedsAt w a len f := by
  have g : ∀ j, ∃ x : Ded, j < len → ∃ b off, a = some ⟨b, off, none⟩ ∧ b < w.heap.size ∧
      w.cell? ⟨b, off + j * 5, none⟩ = some (.int .i64 x.kd) ∧ w.cell? ⟨b, off + j * 5 + 1, none⟩ = some (.int .i64 x.n) ∧ w.cell? ⟨b, off + j * 5 + 2, none⟩ = some (.int .i64 x.old) ∧ w.cell? ⟨b, off + j * 5 + 3, none⟩ = some (.int .i64 x.i) ∧ w.cell? ⟨b, off + j * 5 + 4, none⟩ = some (.int .i64 x.g) := by
    intro j
    by_cases hj : j < len
    · obtain ⟨b, off, cs, ha, hb, hf, hc⟩ := h.2 j hj
      obtain ⟨v0, v1, v2, v3, v4, rfl, w0, w1, w2, w3, w4⟩ := flat_int5 hf
      have c0 := hc 0 (by simp)
      have c1 := hc 1 (by simp)
      have c2 := hc 2 (by simp)
      have c3 := hc 3 (by simp)
      have c4 := hc 4 (by simp)
      exact ⟨⟨v0, v1, v2, v3, v4⟩, fun _ => ⟨b, off, ha, hb, by simpa using c0, by simpa [Nat.add_assoc] using c1, by simpa [Nat.add_assoc] using c2, by simpa [Nat.add_assoc] using c3, by simpa [Nat.add_assoc] using c4⟩⟩
    · exact ⟨⟨0, 0, 0, 0, 0⟩, fun h => absurd h hj⟩
  exact ⟨fun j => (g j).choose, fun j hj => (g j).choose_spec hj⟩
end Go.Proofs.Ytdkfdpiikhgfiaa
