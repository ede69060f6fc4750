/- Contract of the program's package gtree: Move, where it is refused. Conditions: the tree lies in memory as TrX says, its pool within bounds, its groups within one another. -/
import Derived.Test.YtnbljnpfmeidfaaTreeL
import Derived.Test.YtnbljnpfmeidfaaGtMove
namespace Go.Proofs.Ytnbljnpfmeidfaa
open Go Go.RowKit Go.ChangeShapes Go.WideShapes
set_option linter.unusedVariables false

theorem move_two (i g i2 g2 n1 n2 : Int) (x1 x2 : Pay) (hn : n1 = 2 ∨ (n1 = 0 ∧ n2 = 2)) (w : World) (tv : Option Addr)
    (hc : ∀ W, Below w.heap.size w W → Calls Try.prog 31 #[.pointer tv, .agg #[.int .i64 i, .int .i64 g]] W fun e w' => e = .returned (.tuple #[.agg (gcells x1), .int .i64 n1]) ∧ Below W.heap.size W w')
    (hc2 : ∀ W, Below w.heap.size w W → Calls Try.prog 31 #[.pointer tv, .agg #[.int .i64 i2, .int .i64 g2]] W fun e w' => e = .returned (.tuple #[.agg (gcells x2), .int .i64 n2]) ∧ Below W.heap.size W w') :
    Calls Try.prog 15 #[.pointer tv, .agg #[.int .i64 i, .int .i64 g], .agg #[.int .i64 i2, .int .i64 g2]] w fun e w' => e = .returned (.int .i64 2) ∧ Below w.heap.size w w' := by
  have HC := Lib.hid (hc ((w.alloc (hbox i g)).alloc (hbox i2 g2)) ((below_alloc w _).alloc (by simp) _))
  have HC2 := Lib.hid hc2
  clear hc hc2
  rcases hn with rfl | ⟨rfl, rfl⟩
  all_goals
    go_enter Try.func15, Try.ntmps15
    go_wp2_with fail
    refine HC.out.mono ?_
    rintro e w2 ⟨rfl, hz2⟩
    have HB2 : Hid (Below w.heap.size w w2) := Lib.hid (below_trans ((below_alloc w _).alloc (by simp) _) hz2 (by simp; omega))
    have HP2 : Hid (Hx w2 (w.heap.size + 1) i2 g2) := Lib.hid ((Hx.new1 w _ _ _).behind hz2)
    clear hz2
    obtain ⟨pb, hpb⟩ : ∃ pb, pb = w.heap.size + 1 := ⟨_, rfl⟩
    rw [← hpb] at HP2 ⊢
    clear hpb
    obtain ⟨p0, p1⟩ := HP2.out.c2
    have pl := HP2.out.lt
    go_wp2_with fail
    refine (HC2.out _ (HB2.out.alloc HB2.out.size _)).mono ?_
    rintro e w3 ⟨rfl, hz3⟩
    have HB3 := Lib.hid (below_trans (HB2.out.alloc HB2.out.size (gbox x1)) hz3 (by have := HB2.out.size; simp; omega))
    clear hz3 p0 p1 pl
    go_wp2
    go_ret
    exact ⟨rfl, HB3.out.alloc HB3.out.size _⟩
theorem move_nil (i g i2 g2 : Int) (w : World) :
    Calls Try.prog 15 #[.pointer none, .agg #[.int .i64 i, .int .i64 g], .agg #[.int .i64 i2, .int .i64 g2]] w fun e w' => e = .returned (.int .i64 2) ∧ Below w.heap.size w w' :=
  move_two i g i2 g2 2 2 .zero .zero (.inl rfl) w none (fun W _ => tat_nil i g W) (fun W _ => tat_nil i2 g2 W)
theorem move_err (i g i2 g2 : Int) (b : Nat) (w : World) (base t p : Nat) (s : Ps) (h : TrX w base t p s) (ho : s.Ok 32 b) (hb : b ≤ 1000) (hn : s.find i g = none ∨ s.find i2 g2 = none) :
    Calls Try.prog 15 #[.pointer (some ⟨t, 0, none⟩), .agg #[.int .i64 i, .int .i64 g], .agg #[.int .i64 i2, .int .i64 g2]] w fun e w' => e = .returned (.int .i64 2) ∧ Below w.heap.size w w' := by
  refine move_two i g i2 g2 (s.namE i g) (s.namE i2 g2) (s.getV i g) (s.getV i2 g2) ?_ w _ (fun W hW => tat_any i g b W base t p s (h.behind hW) ho hb) (fun W hW => tat_any i2 g2 b W base t p s (h.behind hW) ho hb)
  rcases hn with hn | hn
  · exact .inl (getV_no hn).2
  · cases hk : s.find i g with
    | none => exact .inl (getV_no hk).2
    | some k => exact .inr ⟨(find_some hk).choose_spec.2.2.2.2.2, (getV_no hn).2⟩
set_option maxHeartbeats 1000000 in
theorem move_root (i2 g2 : Int) (b : Nat) (w : World) (base t p : Nat) (s : Ps) (h : TrX w base t p s) (ho : s.Ok 32 b) (hb : b ≤ 1000) (hn : s.namE 0 0 = 0) (hn2 : s.namE i2 g2 = 0) :
    Calls Try.prog 15 #[.pointer (some ⟨t, 0, none⟩), .agg #[.int .i64 0, .int .i64 0], .agg #[.int .i64 i2, .int .i64 g2]] w fun e w' => e = .returned (.int .i64 1) ∧ Below w.heap.size w w' := by
  have HC := Lib.hid (tat_any 0 0 b ((w.alloc (hbox 0 0)).alloc (hbox i2 g2)) base t p s ((h.alloc _).alloc _) ho hb)
  have HC2 := Lib.hid (fun W (hW : TrX W base t p s) => tat_any i2 g2 b W base t p s hW ho hb)
  have HT := Lib.hid h
  rw [hn] at HC
  rw [hn2] at HC2
  generalize s.getV 0 0 = x1 at HC
  generalize s.getV i2 g2 = x2 at HC2
  clear h ho hn hn2
  go_enter Try.func15, Try.ntmps15
  go_wp2_with fail
  refine HC.out.mono ?_
  rintro e w2 ⟨rfl, hz2⟩
  have HB2 : Hid (Below w.heap.size w w2) := Lib.hid (below_trans ((below_alloc w _).alloc (by simp) _) hz2 (by simp; omega))
  have HP2 : Hid (Hx w2 (w.heap.size + 1) i2 g2) := Lib.hid ((Hx.new1 w _ _ _).behind hz2)
  have HH2 : Hid (Hx w2 w.heap.size 0 0) := Lib.hid (((Hx.new w _ _).alloc _).behind hz2)
  clear hz2
  obtain ⟨pb, hpb⟩ : ∃ pb, pb = w.heap.size + 1 := ⟨_, rfl⟩
  obtain ⟨hx, hhx⟩ : ∃ hx, hx = w.heap.size := ⟨_, rfl⟩
  rw [← hpb] at HP2 ⊢
  rw [← hhx] at HH2 ⊢
  have HXN := Lib.hid hhx
  clear hpb hhx
  obtain ⟨p0, p1⟩ := HP2.out.c2
  have pl := HP2.out.lt
  go_wp2_with fail
  refine (HC2.out _ (((HT.out.behind HB2.out)).alloc _)).mono ?_
  rintro e w3 ⟨rfl, hz3⟩
  go_upto_region 5 with (fail)
  have HB4 := Lib.hid ((below_trans (HB2.out.alloc HB2.out.size (gbox x1)) hz3 (by have := HB2.out.size; simp; omega)).alloc (by have := HB2.out.size; have := hz3.size; simp at this; omega) (gbox x2))
  have HH4 := Lib.hid (((HH2.out.alloc (gbox x1)).behind hz3).alloc (gbox x2))
  obtain ⟨w4, hw4⟩ : ∃ w4, w4 = w3.alloc (gbox x2) := ⟨_, rfl⟩
  rw [show w3.alloc (Obj.cells #[Value.int IntKind.i64 x2.ui, Value.int IntKind.i64 x2.ug, Value.int IntKind.i64 x2.dp] 71) = w4 from hw4.symm]
  rw [← hw4] at HB4 HH4
  clear hz3 p0 p1 pl hw4
  obtain ⟨z0, z1⟩ := HH4.out.c2
  go_region_held3 (fun w' => w'.cell? ⟨hx, 0, none⟩ = some (.int .i64 0) ∧ w'.cell? ⟨hx, 1, none⟩ = some (.int .i64 0)) (go_keep)
    (first | (go_at_call 35; refine (root_any _).mono ?_; rintro e w4 ⟨rfl, rfl⟩))
  rename_i hHeld
  clear hHeld
  go_wp2
  go_ret
  exact ⟨rfl, below_drew (HB4.out.alloc HB4.out.size _)⟩
end Go.Proofs.Ytnbljnpfmeidfaa
