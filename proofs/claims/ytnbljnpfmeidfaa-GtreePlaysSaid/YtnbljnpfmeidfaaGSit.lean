/- What lies in memory in the law GtreePlays: the program's tree, the document's in a box, the handles told, a deed; and a handle that was told. Conditions: as in each statement. -/
import Derived.Test.YtnbljnpfmeidfaaDocS
import Derived.Test.YtnbljnpfmeidfaaAw
import Derived.Test.YtnbljnpfmeidfaaFlat
namespace Go.Proofs.Ytnbljnpfmeidfaa
open Go Go.RowKit Go.ChangeShapes Go.WideShapes
set_option linter.unusedVariables false

structure Ded where
  kd : Int
  a : Int
  b : Int
  wild : Bool
  hi : Int
  hg : Int
  gi : Int
  gg : Int
abbrev dcells (d : Ded) : Array Value := #[.int .i64 d.kd, .int .i64 d.a, .int .i64 d.b, .bool d.wild, .int .i64 d.hi, .int .i64 d.hg, .int .i64 d.gi, .int .i64 d.gg]
def DedOk (d : Ded) : Prop := -9223372036854775808 ≤ d.a ∧ d.a ≤ 9223372036854775807 ∧ -9223372036854775808 ≤ d.b ∧ d.b ≤ 9223372036854775807
/-- a deed in its box -/
def Dx (w : World) (y : Nat) (d : Ded) : Prop := w.heap[y]? = some (.cells (dcells d) 59 (0, 0))
theorem Dx.new (w : World) (d : Ded) : Dx (w.alloc (.cells (dcells d) 59)) w.heap.size d := heap_alloc_new w _
theorem Dx.lt {w : World} {y : Nat} {d : Ded} (h : Dx w y d) : y < w.heap.size := (Array.getElem?_eq_some_iff.1 h).1
theorem Dx.c8 {w : World} {y : Nat} {d : Ded} (h : Dx w y d) : w.cell? ⟨y, 0, none⟩ = some (.int .i64 d.kd) ∧ w.cell? ⟨y, 1, none⟩ = some (.int .i64 d.a) ∧ w.cell? ⟨y, 2, none⟩ = some (.int .i64 d.b) ∧ w.cell? ⟨y, 3, none⟩ = some (.bool d.wild) ∧ w.cell? ⟨y, 4, none⟩ = some (.int .i64 d.hi) ∧ w.cell? ⟨y, 5, none⟩ = some (.int .i64 d.hg) ∧ w.cell? ⟨y, 6, none⟩ = some (.int .i64 d.gi) ∧ w.cell? ⟨y, 7, none⟩ = some (.int .i64 d.gg) := by
  unfold Dx at h
  refine ⟨?_, ?_, ?_, ?_, ?_, ?_, ?_, ?_⟩ <;> simp [World.cell?, h]
theorem Dx.behind {w w' : World} {y : Nat} {d : Ded} (h : Dx w y d) (hb : Below w.heap.size w w') : Dx w' y d := by unfold Dx; rw [hb.block y h.lt]; exact h
theorem Dx.alloc {w : World} {y : Nat} {d : Ded} (h : Dx w y d) (o : Obj) : Dx (w.alloc o) y d := h.behind (below_alloc w o)
/-- a handle that was told, by a number -/
def wnum (n : Int) : Nat := if n < 0 then (-(n + 1)).toNat else n.toNat
def wh (T : List (Nat × Int)) (n : Int) : Nat × Int := T.getD (wnum n % T.length) (0, 0)
set_option maxHeartbeats 1000000 in
theorem which_nat (neg : Bool) (m : Nat) (w : World) (base : Nat) (a : Option Addr) (c n : Nat) (T : List (Nat × Int)) (hn : n = T.length) (h0 : 0 < n) (i : Nat) (g : Int) (hT : T[m % n]? = some (i, g)) (ht : w.ownsRow base 30 2 (.slice a n c) n (hcl T)) (hn1 : n ≤ 1000) (hm : m ≤ 9223372036854775807) :
    Calls Try.prog 23 #[.slice a n c, .int .i64 (if neg = true then -(m : Int) - 1 else m)] w fun e w' => e = .returned (.agg #[.int .i64 i, .int .i64 g]) ∧ Below w.heap.size w w' := by
  obtain ⟨W0, hW0⟩ : ∃ W0, W0 = w.alloc (hbox 0 0) := ⟨_, rfl⟩
  have H0 : Hid (Hx W0 w.heap.size 0 0) := Lib.hid (by rw [hW0]; exact Hx.new w 0 0)
  have Z0 : Hid (Below w.heap.size w W0) := Lib.hid (by rw [hW0]; exact below_alloc w _)
  have T0 : Hid (W0.ownsRow base 30 2 (.slice a n c) n (hcl T)) := Lib.hid (by rw [hW0]; exact ht.alloc _)
  obtain ⟨x0, x1⟩ := H0.out.c2
  have f0 := H0.out.frz
  have l1 := H0.out.lt
  have HW := Lib.hid hW0
  have hmn : m % n < n := Nat.mod_lt _ h0
  obtain ⟨tt, rfl⟩ := hrow_some T0.out h0
  obtain ⟨hh0, hh1, htz⟩ := hcl_cell T0.out (m % n) i g hT hmn
  have HT := Lib.hid hT
  have HN := Lib.hid hn
  clear hT hn ht hW0
  obtain ⟨x, hx⟩ : ∃ x, x = w.heap.size := ⟨_, rfl⟩
  rw [← hx] at H0 x0 x1 f0 l1
  have HX := Lib.hid hx
  clear hx
  have hxt : ¬ x = tt ∨ x = tt := by omega
  have HB : Hid (Below w.heap.size w ((W0.setCell ⟨x, 0, none⟩ (.int .i64 i)).setCell ⟨x, 1, none⟩ (.int .i64 g))) := Lib.hid ((Z0.out.setCell (by rw [HX.out]; exact Nat.le_refl _) _).setCell (by rw [HX.out]; exact Nat.le_refl _) _)
  have HXX : Hid (Hx ((W0.setCell ⟨x, 0, none⟩ (.int .i64 i)).setCell ⟨x, 1, none⟩ (.int .i64 g)) x i g) := Lib.hid ((H0.out.set0 i).set1 g)
  clear hxt
  cases neg
  all_goals
    simp only [if_true, Bool.false_eq_true, if_false]
    go_enter Try.func23, Try.ntmps23
    go_upto_region 1 with (fail)
    rw [← HW.out, ← HX.out]
    go_wp2_with fail
    obtain ⟨z0, z1⟩ := HXX.out.c2
    refine bodyPost_ret (v := .agg #[.int .i64 i, .int .i64 g]) (by simp [results, Try.results23, go_sem, z0, z1]) rfl ⟨rfl, HB.out⟩
theorem which_any (k : Int) (hk : -9223372036854775808 ≤ k ∧ k ≤ 9223372036854775807) (w : World) (base : Nat) (a : Option Addr) (c n : Nat) (T : List (Nat × Int)) (hn : n = T.length) (h0 : 0 < n) (ht : w.ownsRow base 30 2 (.slice a n c) n (hcl T)) (hn1 : n ≤ 1000) :
    Calls Try.prog 23 #[.slice a n c, .int .i64 k] w fun e w' => e = .returned (.agg #[.int .i64 (wh T k).1, .int .i64 (wh T k).2]) ∧ Below w.heap.size w w' := by
  have hmn : wnum k % n < n := Nat.mod_lt _ h0
  obtain ⟨p, hp⟩ : ∃ p, T[wnum k % n]? = some p := ⟨_, List.getElem?_eq_getElem (by rw [← hn]; exact hmn)⟩
  obtain ⟨i, g⟩ := p
  have e : wh T k = (i, g) := by unfold wh; rw [← hn, List.getD_eq_getElem?_getD, hp]; rfl
  rw [e]
  by_cases hneg : k < 0
  · have e2 : wnum k = (-(k + 1)).toNat := if_pos hneg
    have := which_nat true (wnum k) w base a c n T hn h0 i g hp ht hn1 (by rw [e2]; omega)
    rwa [if_pos rfl, show -(wnum k : Int) - 1 = k by rw [e2]; omega] at this
  · have e2 : wnum k = k.toNat := if_neg hneg
    have := which_nat false (wnum k) w base a c n T hn h0 i g hp ht hn1 (by rw [e2]; omega)
    rwa [if_neg (by decide), show (wnum k : Int) = k by rw [e2]; omega] at this
/-- the program's tree at t, the document's in the box x, the handles told -/
structure Sit (w : World) (base t p x : Nat) (s s2 : Ps) (v1 v2 v3 v4 : Sv) (vt : Value) (T : List (Nat × Int)) : Prop where
  has : TrX w base t p s
  box : Ux w x (vcl 32 v1 v2 v3 v4)
  ref : RfV w 32 s2 v1 v2 v3 v4
  told : w.ownsRow base 30 2 vt T.length (hcl T)
  ne : x ≠ p
theorem Sit.behind {w w' : World} {base t p x : Nat} {s s2 : Ps} {v1 v2 v3 v4 : Sv} {vt : Value} {T : List (Nat × Int)} (h : Sit w base t p x s s2 v1 v2 v3 v4 vt T) (hb : Below w.heap.size w w') : Sit w' base t p x s s2 v1 v2 v3 v4 vt T :=
  ⟨h.has.behind hb, h.box.behind hb, h.ref.behind hb, ownsRow_below h.told hb, h.ne⟩
theorem RfV.prog {w w' : World} {base t p : Nat} {s0 : Ps} {room : Int} {s : Ps} {v1 v2 v3 v4 : Sv} (h : RfV w room s v1 v2 v3 v4) (ht : TrX w base t p s0) (hs : PoolStep base p w w') : RfV w' room s v1 v2 v3 v4 := by
  obtain ⟨a1, c1, a2, c2, a3, c3, a4, c4, e, h⟩ := h
  exact ⟨a1, c1, a2, c2, a3, c3, a4, c4, e, ⟨ownsRow_step h.vals hs (by decide) (ht.notRow _ (by decide)), ownsRow_step h.used hs (by decide) (ht.notRow _ (by decide)), ownsRow_step h.gens hs (by decide) (ht.notRow _ (by decide)), ownsRow_step h.freed hs (by decide) (ht.notRow _ (by decide))⟩⟩
theorem Sit.prog {w w' : World} {base t p x : Nat} {s s2 s' : Ps} {v1 v2 v3 v4 : Sv} {vt : Value} {T : List (Nat × Int)} (h : Sit w base t p x s s2 v1 v2 v3 v4 vt T) (hp : TrX w' base t p s') (hs : PoolStep base p w w') : Sit w' base t p x s' s2 v1 v2 v3 v4 vt T :=
  ⟨hp, hs.same h.box h.ne (by decide), h.ref.prog h.has hs, ownsRow_step h.told hs (by decide) (h.has.notRow _ (by decide)), h.ne⟩
theorem TrX.farU {w : World} {base t p : Nat} {s : Ps} (h : TrX w base t p s) {y : Nat} {cs : Array Value} (hy : Ux w y cs) (o : Nat) (u : Value) : TrX (w.setCell ⟨y, o, none⟩ u) base t p s := h.far hy (by decide) (by decide) (by decide) o u
theorem TrX.five {w : World} {base t p : Nat} {s : Ps} (h : TrX w base t p s) {y : Nat} {cs : Array Value} (hy : Ux w y cs) (u1 u2 u3 u4 : Sv) : TrX (put5 w y u1 u2 u3 u4) base t p s :=
  ((((h.farU hy 0 _).farU (hy.set _) 1 _).farU ((hy.set _).set _) 2 _).farU (((hy.set _).set _).set _) 3 _).farU ((((hy.set _).set _).set _).set _) 4 _
theorem Sit.store {w : World} {base t p x : Nat} {s s2 s3 : Ps} {v1 v2 v3 v4 u1 u2 u3 u4 : Sv} {vt : Value} {T : List (Nat × Int)} (h : Sit w base t p x s s2 v1 v2 v3 v4 vt T) (hr : RfV w 32 s3 u1 u2 u3 u4) : Sit (put5 w x u1 u2 u3 u4) base t p x s s3 u1 u2 u3 u4 vt T :=
  ⟨h.has.five h.box _ _ _ _, ux_five h.box, hr.five h.box _ _ _ _, row_five h.told h.box (by decide) _ _ _ _, h.ne⟩
theorem Hx.five {w : World} {k x : Nat} {i g : Int} (h : Hx w k i g) (hne : k ≠ x) (v1 v2 v3 v4 : Sv) : Hx (put5 w x v1 v2 v3 v4) k i g :=
  ((((h.far hne).far hne).far hne).far hne).far hne
theorem Dx.far {w : World} {k c o : Nat} {d : Ded} {u : Value} (h : Dx w k d) (hne : k ≠ c) : Dx (w.setCell ⟨c, o, none⟩ u) k d := by unfold Dx; rw [Below.heap_setCell _ _ _ _ (by exact hne)]; exact h
theorem Sit.tell {w w' : World} {base t p x : Nat} {s s2 : Ps} {v1 v2 v3 v4 : Sv} {vt vt' : Value} {T : List (Nat × Int)} {o : Obj} {k : Nat} {g : Int} (h : Sit w base t p x s s2 v1 v2 v3 v4 vt T) (hg : (w.alloc o).grownBy w' vt.ownBlock)
    (ho : w'.ownsRow base 30 2 vt' (T.length + 1) (hcl T ++ [.int .i64 k, .int .i64 g])) : Sit w' base t p x s s2 v1 v2 v3 v4 vt' (T ++ [(k, g)]) := by
  have h1 := h.behind (below_alloc w o)
  obtain ⟨a1, c1, a2, c2, a3, c3, a4, c4, e, hr⟩ := h1.ref
  have keep : ∀ {b2 : Nat} {e2 : TypeId} {sz n2 : Nat} {v2 : Value} {xs2 : List Value}, (w.alloc o).ownsRow b2 e2 sz v2 n2 xs2 → e2 ≠ 30 → w'.ownsRow b2 e2 sz v2 n2 xs2 := by
    intro b2 e2 sz n2 v2 xs2 h2 he
    refine ⟨h2.1, ?_⟩
    rcases h2.2 with hn | ⟨gg, cap, cur, hv, hb, hh, hr⟩
    · exact .inl hn
    · exact .inr ⟨gg, cap, cur, hv, hb, grown_same hg h1.told hh he, hr⟩
  refine ⟨h1.has.rowGrown hg h1.told (by decide) (by decide) (by decide), grown_same hg h1.told h1.box (by decide), ⟨a1, c1, a2, c2, a3, c3, a4, c4, e, ⟨keep hr.vals (by decide), keep hr.used (by decide), keep hr.gens (by decide), keep hr.freed (by decide)⟩⟩, ?_, h1.ne⟩
  rw [hcl_app] at ho
  simpa using ho
theorem Hx.growT {w w' : World} {vr : Value} {base2 : Nat} {n : Nat} {xs : List Value} {k : Nat} {i g : Int} (h : Hx w k i g) (hg : w.grownBy w' vr.ownBlock) (hr : w.ownsRow base2 30 2 vr n xs) (hne : vr.ownBlock ≠ some k) : Hx w' k i g := by
  unfold Hx; rw [hg.block k h.lt (fun e => hne e.symm)]; exact h
/-- what a slice of Deed holds -/
def DeedsAt (w : World) (a : Option Addr) (len : Nat) (f : Nat → Ded) : Prop := ∀ j, j < len → ∃ b off, a = some ⟨b, off, none⟩ ∧ b < w.heap.size ∧ DedOk (f j) ∧
  w.cell? ⟨b, off + j * 8, none⟩ = some (.int .i64 (f j).kd) ∧ w.cell? ⟨b, off + j * 8 + 1, none⟩ = some (.int .i64 (f j).a) ∧ w.cell? ⟨b, off + j * 8 + 2, none⟩ = some (.int .i64 (f j).b) ∧ w.cell? ⟨b, off + j * 8 + 3, none⟩ = some (.bool (f j).wild) ∧ w.cell? ⟨b, off + j * 8 + 4, none⟩ = some (.int .i64 (f j).hi) ∧ w.cell? ⟨b, off + j * 8 + 5, none⟩ = some (.int .i64 (f j).hg) ∧ w.cell? ⟨b, off + j * 8 + 6, none⟩ = some (.int .i64 (f j).gi) ∧ w.cell? ⟨b, off + j * 8 + 7, none⟩ = some (.int .i64 (f j).gg)
theorem flat_cons {k : Option IntKind} {ks : List (Option IntKind)} {cs : List Value} (h : Flat (k :: ks) cs) : ∃ v vs, cs = v :: vs ∧ CellIs k v ∧ Flat ks vs := by
  cases cs with
  | nil => simp [Flat] at h
  | cons v vs => simp only [Flat] at h; exact ⟨v, vs, rfl, h.1, h.2⟩
theorem flat_nil {cs : List Value} (h : Flat [] cs) : cs = [] := by
  cases cs with
  | nil => rfl
  | cons v vs => simp [Flat] at h
theorem flat_deed {cs : List Value} (h : Flat [some .i64, some .i64, some .i64, .none, some .i64, some .i64, some .i64, some .i64] cs) : ∃ d : Ded, cs = [.int .i64 d.kd, .int .i64 d.a, .int .i64 d.b, .bool d.wild, .int .i64 d.hi, .int .i64 d.hg, .int .i64 d.gi, .int .i64 d.gg] ∧ DedOk d := by
  obtain ⟨_, _, rfl, ⟨a, rfl, ha⟩, h21⟩ := flat_cons h
  obtain ⟨_, _, rfl, ⟨b, rfl, hb⟩, h22⟩ := flat_cons h21
  obtain ⟨_, _, rfl, ⟨c, rfl, hc⟩, h23⟩ := flat_cons h22
  obtain ⟨_, _, rfl, ⟨d, rfl⟩, h24⟩ := flat_cons h23
  obtain ⟨_, _, rfl, ⟨e, rfl, _⟩, h25⟩ := flat_cons h24
  obtain ⟨_, _, rfl, ⟨f, rfl, _⟩, h26⟩ := flat_cons h25
  obtain ⟨_, _, rfl, ⟨g, rfl, _⟩, h27⟩ := flat_cons h26
  obtain ⟨_, _, rfl, ⟨k, rfl, _⟩, h28⟩ := flat_cons h27
  rw [flat_nil h28]
  have h1 := i64_of_wf hb
  have h2 := i64_of_wf hc
  exact ⟨⟨a, b, c, d, e, f, g, k⟩, rfl, h1.1, h1.2, h2.1, h2.2⟩
theorem deedsAt_of {w : World} {a : Option Addr} {len : Nat} (h : FlatSlice [some .i64, some .i64, some .i64, .none, some .i64, some .i64, some .i64, some .i64] w a len) : ∃ f, DeedsAt w a len f := by
  have g : ∀ j, ∃ x : Ded, j < len → ∃ b off, a = some ⟨b, off, none⟩ ∧ b < w.heap.size ∧ DedOk x ∧
      w.cell? ⟨b, off + j * 8, none⟩ = some (.int .i64 x.kd) ∧ w.cell? ⟨b, off + j * 8 + 1, none⟩ = some (.int .i64 x.a) ∧ w.cell? ⟨b, off + j * 8 + 2, none⟩ = some (.int .i64 x.b) ∧ w.cell? ⟨b, off + j * 8 + 3, none⟩ = some (.bool x.wild) ∧ w.cell? ⟨b, off + j * 8 + 4, none⟩ = some (.int .i64 x.hi) ∧ w.cell? ⟨b, off + j * 8 + 5, none⟩ = some (.int .i64 x.hg) ∧ w.cell? ⟨b, off + j * 8 + 6, none⟩ = some (.int .i64 x.gi) ∧ w.cell? ⟨b, off + j * 8 + 7, none⟩ = some (.int .i64 x.gg) := by
    intro j
    by_cases hj : j < len
    · obtain ⟨b, off, cs, ha, hb, hf, hc⟩ := h.2 j hj
      obtain ⟨d, rfl, hd⟩ := flat_deed hf
      have c0 := hc 0 (by simp)
      have c1 := hc 1 (by simp)
      have c2 := hc 2 (by simp)
      have c3 := hc 3 (by simp)
      have c4 := hc 4 (by simp)
      have c5 := hc 5 (by simp)
      have c6 := hc 6 (by simp)
      have c7 := hc 7 (by simp)
      exact ⟨d, fun _ => ⟨b, off, ha, hb, hd, by simpa using c0, by simpa [Nat.add_assoc] using c1, by simpa [Nat.add_assoc] using c2, by simpa [Nat.add_assoc] using c3, by simpa [Nat.add_assoc] using c4, by simpa [Nat.add_assoc] using c5, by simpa [Nat.add_assoc] using c6, by simpa [Nat.add_assoc] using c7⟩⟩
    · exact ⟨⟨0, 0, 0, false, 0, 0, 0, 0⟩, fun h => absurd h hj⟩
  exact ⟨fun j => (g j).choose, fun j hj => (g j).choose_spec hj⟩
end Go.Proofs.Ytnbljnpfmeidfaa
