/- Contracts of the program's package gtree: up, and the function that it hands back. Conditions: the tree lies in memory as TrX says, its pool within bounds. -/
import Derived.Test.YtnbljnpfmeidfaaTreeD
namespace Go.Proofs.Ytnbljnpfmeidfaa
open Go Go.RowKit Go.ChangeShapes Go.WideShapes
set_option linter.unusedVariables false

/-- what the function that up hands back has caught: the tree, the next handle, whether it is over -/
structure Itr (w : World) (a hb ob : Nat) (tv : Option Addr) (i g : Int) (over : Bool) : Prop where
  ta : w.heap[a]? = some (.cells #[.pointer tv] 25 (0, 0))
  hx : Hx w hb i g
  ox : w.heap[ob]? = some (.cells #[.bool over] 4 (0, 0))
theorem Itr.ne {w : World} {a hb ob : Nat} {tv : Option Addr} {i g : Int} {over : Bool} (h : Itr w a hb ob tv i g over) : a ≠ hb ∧ a ≠ ob ∧ ob ≠ hb := by
  have h1 := h.ta
  have h2 : w.heap[hb]? = _ := h.hx
  have h3 := h.ox
  refine ⟨?_, ?_, ?_⟩ <;> (rintro rfl; simp_all)
theorem Itr.lt {w : World} {a hb ob : Nat} {tv : Option Addr} {i g : Int} {over : Bool} (h : Itr w a hb ob tv i g over) : a < w.heap.size ∧ hb < w.heap.size ∧ ob < w.heap.size :=
  ⟨(Array.getElem?_eq_some_iff.1 h.ta).1, h.hx.lt, (Array.getElem?_eq_some_iff.1 h.ox).1⟩
theorem Itr.behind {w w' : World} {a hb ob : Nat} {tv : Option Addr} {i g : Int} {over : Bool} (h : Itr w a hb ob tv i g over) (hz : Below w.heap.size w w') : Itr w' a hb ob tv i g over :=
  ⟨by rw [hz.block a h.lt.1]; exact h.ta, h.hx.behind hz, by rw [hz.block ob h.lt.2.2]; exact h.ox⟩
theorem Itr.cells {w : World} {a hb ob : Nat} {tv : Option Addr} {i g : Int} {over : Bool} (h : Itr w a hb ob tv i g over) : w.cell? ⟨a, 0, none⟩ = some (.pointer tv) ∧ w.cell? ⟨hb, 0, none⟩ = some (.int .i64 i) ∧ w.cell? ⟨hb, 1, none⟩ = some (.int .i64 g) ∧ w.cell? ⟨ob, 0, none⟩ = some (.bool over) := by
  refine ⟨?_, h.hx.c2.1, h.hx.c2.2, ?_⟩
  · simp [World.cell?, h.ta]
  · simp [World.cell?, h.ox]
theorem Itr.frz {w : World} {a hb ob : Nat} {tv : Option Addr} {i g : Int} {over : Bool} (h : Itr w a hb ob tv i g over) : (∀ j, w.frozen? ⟨hb, j, none⟩ = false) ∧ (∀ j, w.frozen? ⟨ob, j, none⟩ = false) := by
  refine ⟨h.hx.frz, ?_⟩
  intro j
  simp [World.frozen?, h.ox]
/-- the caught variables set anew -/
theorem Itr.setO {w : World} {a hb ob : Nat} {tv : Option Addr} {i g : Int} {over : Bool} (h : Itr w a hb ob tv i g over) (o' : Bool) : Itr (w.setCell ⟨ob, 0, none⟩ (.bool o')) a hb ob tv i g o' := by
  obtain ⟨n1, n2, n3⟩ := h.ne
  refine ⟨?_, h.hx.far (fun e => n3 e.symm), ?_⟩
  · rw [Below.heap_setCell _ _ _ _ (by exact n2)]; exact h.ta
  · rw [heap_set_same h.ox]; rfl
theorem Itr.setH {w : World} {a hb ob : Nat} {tv : Option Addr} {i g : Int} {over : Bool} (h : Itr w a hb ob tv i g over) (i' g' : Int) : Itr ((w.setCell ⟨hb, 0, none⟩ (.int .i64 i')).setCell ⟨hb, 1, none⟩ (.int .i64 g')) a hb ob tv i' g' over := by
  obtain ⟨n1, n2, n3⟩ := h.ne
  refine ⟨?_, (h.hx.set0 i').set1 g', ?_⟩
  · rw [Below.heap_setCell _ _ _ _ (by exact n1), Below.heap_setCell _ _ _ _ (by exact n1)]; exact h.ta
  · rw [Below.heap_setCell _ _ _ _ (by exact n3), Below.heap_setCell _ _ _ _ (by exact n3)]; exact h.ox
theorem Itr.far {w : World} {a hb ob : Nat} {tv : Option Addr} {i g : Int} {over : Bool} (h : Itr w a hb ob tv i g over) {c o : Nat} {u : Value} (h1 : c ≠ a) (h2 : c ≠ hb) (h3 : c ≠ ob) : Itr (w.setCell ⟨c, o, none⟩ u) a hb ob tv i g over :=
  ⟨by rw [Below.heap_setCell _ _ _ _ (by exact h1.symm)]; exact h.ta, h.hx.far (fun e => h2 e.symm), by rw [Below.heap_setCell _ _ _ _ (by exact h3.symm)]; exact h.ox⟩
theorem Gx.far {w : World} {k c o : Nat} {x : Pay} {u : Value} (h : Gx w k x) (hne : k ≠ c) : Gx (w.setCell ⟨c, o, none⟩ u) k x := by unfold Gx; rw [Below.heap_setCell _ _ _ _ (by exact hne)]; exact h
abbrev itv (a hb ob : Nat) : Value := .func (.func 55) #[] #[.pointer (some ⟨a, 0, none⟩), .pointer (some ⟨hb, 0, none⟩), .pointer (some ⟨ob, 0, none⟩)]
theorem up_any (tv : Option Addr) (i g : Int) (w : World) :
    Calls Try.prog 32 #[.pointer tv, .agg #[.int .i64 i, .int .i64 g]] w fun e w' => e = .returned (itv w.heap.size (w.heap.size + 1) (w.heap.size + 2)) ∧ Itr w' w.heap.size (w.heap.size + 1) (w.heap.size + 2) tv i g false ∧ Below w.heap.size w w' := by
  go_enter Try.func32, Try.ntmps32
  go_wp2
  go_ret
  have e : w.heap.size + 1 + 1 = w.heap.size + 2 := rfl
  refine ⟨rfl, ⟨?_, ?_, ?_⟩, ((((Below.refl _ w).alloc (Nat.le_refl _) _).alloc (by simp) _).alloc (by simp; omega) _)⟩
  · rw [Below.heap_alloc _ _ _ (by simp; omega), Below.heap_alloc _ _ _ (by simp)]
    exact heap_alloc_new w _
  · exact (Hx.new1 w _ i g).alloc _
  · have := heap_alloc_new ((w.alloc (.cells #[.pointer tv] 25)).alloc (hbox i g)) (.cells #[.bool false] 4)
    simpa using this
/-- what the closure answers where it goes on, and what it leaves -/
theorem next_yes (i g : Int) (x : Pay) (w : World) (a hb ob : Nat) (tv : Option Addr) (h : Itr w a hb ob tv i g false)
    (hc : ∀ W, Below w.heap.size w W → Calls Try.prog 31 #[.pointer tv, .agg #[.int .i64 i, .int .i64 g]] W fun e w' => e = .returned (.tuple #[.agg (gcells x), .int .i64 0]) ∧ Below W.heap.size W w') :
    Calls Try.prog 55 #[.pointer (some ⟨a, 0, none⟩), .pointer (some ⟨hb, 0, none⟩), .pointer (some ⟨ob, 0, none⟩)] w fun e w' => e = .returned (.tuple #[.agg #[.int .i64 i, .int .i64 g], .bool true]) ∧ Itr w' a hb ob tv x.ui x.ug (decide (i = 0 ∧ g = 0)) ∧ Tch (fun z => z = hb ∨ z = ob) w w' := by
  obtain ⟨x0, x1, x2, x3⟩ := x
  obtain ⟨r, hr⟩ : ∃ r, r = decide (i = 0 ∧ g = 0) := ⟨_, rfl⟩
  rw [← hr]
  have HC := Lib.hid (hc (w.alloc (hbox 0 0)) (below_alloc w _))
  clear hc
  have HI := Lib.hid h
  have HR := Lib.hid hr
  obtain ⟨a0, h0, h1, o0⟩ := h.cells
  obtain ⟨al, hl, ol⟩ := h.lt
  clear h hr
  go_enter Try.func55, Try.ntmps55
  go_wp2_with fail
  refine HC.out.mono ?_
  rintro e w2 ⟨rfl, hz2⟩
  have HI2 := Lib.hid ((HI.out.behind (below_alloc w (hbox 0 0))).behind hz2)
  have HB2 := Lib.hid (below_trans (below_alloc w (hbox 0 0)) hz2 (by simp))
  have HY2 := Lib.hid ((Hx.new w 0 0).behind hz2)
  clear hz2 a0 h0 h1 o0 al hl ol
  obtain ⟨a0, h0, h1, o0⟩ := HI2.out.cells
  obtain ⟨al, hl, ol⟩ := HI2.out.lt
  go_upto_region 5 with (fail)
  obtain ⟨w3, hw3⟩ : ∃ w3, w3 = ((w2.alloc (gbox ⟨x0, x1, x2, x3⟩)).alloc (hbox i g)) := ⟨_, rfl⟩
  have hb3 : Below w2.heap.size w2 w3 := by rw [hw3]; exact (below_alloc w2 _).alloc (by simp) _
  have hU : Gx w3 w2.heap.size ⟨x0, x1, x2, x3⟩ := by rw [hw3]; exact (Gx.new w2 _).alloc _
  have hV : Hx w3 (w2.heap.size + 1) i g := by rw [hw3]; exact Hx.new1 w2 _ i g
  rw [show ((w2.alloc (Obj.cells #[Value.int IntKind.i64 x1, Value.int IntKind.i64 x2, Value.int IntKind.i64 x3] 71)).alloc (Obj.cells #[Value.int IntKind.i64 i, Value.int IntKind.i64 g] 30)) = w3 from hw3.symm]
  clear hw3
  have HI3 := Lib.hid (HI2.out.behind hb3)
  have HY3 := HY2.out.behind hb3
  have HB3 := Lib.hid (below_trans HB2.out hb3 HB2.out.size)
  obtain ⟨y, hy⟩ : ∃ y, y = w.heap.size := ⟨_, rfl⟩
  obtain ⟨u, hu⟩ : ∃ u, u = w2.heap.size := ⟨_, rfl⟩
  obtain ⟨v, hv⟩ : ∃ v, v = w2.heap.size + 1 := ⟨_, rfl⟩
  rw [← hu] at hU; rw [← hv] at hV; rw [← hy] at HY3
  rw [← hv, ← hu, ← hy]
  have HU := Lib.hid hU; have HV := Lib.hid hV; have HY := Lib.hid HY3; have Hy := Lib.hid hy
  have n1 : ¬ u = ob := by have := HI2.out.lt.2.2; omega
  have n2 : ¬ v = ob := by have := HI2.out.lt.2.2; omega
  have n3 : ¬ y = ob := by have := HI.out.lt.2.2; omega
  have n4 : ¬ u = hb := by have := HI2.out.lt.2.1; omega
  have n5 : ¬ v = hb := by have := HI2.out.lt.2.1; omega
  have n6 : ¬ y = hb := by have := HI.out.lt.2.1; omega
  have n7 : ¬ ob = hb := HI.out.ne.2.2
  have N := Lib.hid (And.intro n1 (And.intro n2 (And.intro n3 (And.intro n4 (And.intro n5 n6)))))
  clear hb3 hU hV HY3 hy hu hv a0 h0 h1 o0 al hl ol n1 n2 n3 n4 n5 n6
  obtain ⟨a0, h0, h1, o0⟩ := HI3.out.cells
  obtain ⟨al, hl, ol⟩ := HI3.out.lt
  obtain ⟨fh, fo⟩ := HI3.out.frz
  by_cases hi : i = 0
  · subst hi
    by_cases hg : g = 0
    · subst hg
      have hr : r = true := by rw [HR.out]; simp
      subst hr
      go_region_held3 (fun w' => w'.cell? ⟨hb, 0, none⟩ = some (.int .i64 0) ∧ w'.cell? ⟨hb, 1, none⟩ = some (.int .i64 0)) (go_keep)
        (first | (go_at_call 35; refine (root_any _).mono ?_; rintro e w4 ⟨rfl, rfl⟩))
      rename_i hHeld
      clear hHeld a0 h0 h1 o0 al hl ol fh fo
      obtain ⟨w4, hw4⟩ : ∃ w4, w4 = ((w3.setCell ⟨ob, 0, none⟩ (.bool true)).alloc (hbox 0 0)).drew := ⟨_, rfl⟩
      rw [show ((w3.setCell ⟨ob, 0, none⟩ (.bool true)).alloc (Obj.cells #[Value.int IntKind.i64 0, Value.int IntKind.i64 0] 30)).drew = w4 from hw4.symm]
      obtain ⟨n1, n2, n3, n4, n5, n6⟩ := N.out
      have hb4 : Below (w3.setCell ⟨ob, 0, none⟩ (.bool true)).heap.size (w3.setCell ⟨ob, 0, none⟩ (.bool true)) w4 := by rw [hw4]; exact below_drew (below_alloc _ _)
      have HI4 := Lib.hid ((HI3.out.setO true).behind hb4)
      have HU4 := Lib.hid ((HU.out.far (o := 0) (u := .bool true) (by exact n1)).behind hb4)
      have HV4 := Lib.hid ((HV.out.far (o := 0) (u := .bool true) (by exact n2)).behind hb4)
      have HY4 := Lib.hid ((HY.out.far (o := 0) (u := .bool true) (by exact n3)).behind hb4)
      have HT4 : Hid (Tch (fun z => z = hb ∨ z = ob) w w4) := Lib.hid (by rw [hw4]; exact (((Tch.of_below HB3.out).setCell (.inl (.inr rfl)) _).alloc _).drew)
      clear hb4 hw4 n1 n2 n3
      obtain ⟨a0, h0, h1, o0⟩ := HI4.out.cells
      obtain ⟨al, hl, ol⟩ := HI4.out.lt
      obtain ⟨fh, fo⟩ := HI4.out.frz
      obtain ⟨u0, u1, u2⟩ := HU4.out.c3
      obtain ⟨v0, v1⟩ := HV4.out.c2
      obtain ⟨y0, y1⟩ := HY4.out.c2
      have fy := HY4.out.frz
      go_wp2
      refine bodyPost_ret (v := .tuple #[.agg #[.int .i64 0, .int .i64 0], .bool true]) (by simp [results, Try.results55, go_sem, y0, y1]) rfl ⟨rfl, ?_, ?_⟩
      · have := HY4.out.lt
        have hya : y ≠ a := by have := HI.out.lt.1; have := Hy.out; omega
        obtain ⟨_, _, n3, _, _, n6⟩ := N.out
        exact ((HI4.out.setH x1 x2).far hya n6 n3).far hya n6 n3
      · exact (((HT4.out.setCell (.inl (.inl rfl)) _).setCell (.inl (.inl rfl)) _).setCell (.inr (by rw [Hy.out]; exact Nat.le_refl _)) _).setCell (.inr (by rw [Hy.out]; exact Nat.le_refl _)) _
    · have hr : r = false := by rw [HR.out]; simp [hg]
      subst hr
      have hgb : (g == 0) = false := beq_eq_false_iff_ne.2 hg
      clear hg
      go_region_held3 (fun w' => w'.cell? ⟨hb, 0, none⟩ = some (.int .i64 0) ∧ w'.cell? ⟨hb, 1, none⟩ = some (.int .i64 g)) (go_keep)
        (first | (go_at_call 35; refine (root_any _).mono ?_; rintro e w4 ⟨rfl, rfl⟩))
      rename_i hHeld
      clear hHeld a0 h0 h1 o0 al hl ol fh fo
      obtain ⟨w4, hw4⟩ : ∃ w4, w4 = ((w3.setCell ⟨ob, 0, none⟩ (.bool false)).alloc (hbox 0 0)).drew := ⟨_, rfl⟩
      rw [show ((w3.setCell ⟨ob, 0, none⟩ (.bool false)).alloc (Obj.cells #[Value.int IntKind.i64 0, Value.int IntKind.i64 0] 30)).drew = w4 from hw4.symm]
      obtain ⟨n1, n2, n3, n4, n5, n6⟩ := N.out
      have hb4 : Below (w3.setCell ⟨ob, 0, none⟩ (.bool false)).heap.size (w3.setCell ⟨ob, 0, none⟩ (.bool false)) w4 := by rw [hw4]; exact below_drew (below_alloc _ _)
      have HI4 := Lib.hid ((HI3.out.setO false).behind hb4)
      have HU4 := Lib.hid ((HU.out.far (o := 0) (u := .bool false) (by exact n1)).behind hb4)
      have HV4 := Lib.hid ((HV.out.far (o := 0) (u := .bool false) (by exact n2)).behind hb4)
      have HY4 := Lib.hid ((HY.out.far (o := 0) (u := .bool false) (by exact n3)).behind hb4)
      have HT4 : Hid (Tch (fun z => z = hb ∨ z = ob) w w4) := Lib.hid (by rw [hw4]; exact (((Tch.of_below HB3.out).setCell (.inl (.inr rfl)) _).alloc _).drew)
      clear hb4 hw4 n1 n2 n3
      obtain ⟨a0, h0, h1, o0⟩ := HI4.out.cells
      obtain ⟨al, hl, ol⟩ := HI4.out.lt
      obtain ⟨fh, fo⟩ := HI4.out.frz
      obtain ⟨u0, u1, u2⟩ := HU4.out.c3
      obtain ⟨v0, v1⟩ := HV4.out.c2
      obtain ⟨y0, y1⟩ := HY4.out.c2
      have fy := HY4.out.frz
      go_wp2
      refine bodyPost_ret (v := .tuple #[.agg #[.int .i64 0, .int .i64 g], .bool true]) (by simp [results, Try.results55, go_sem, y0, y1]) rfl ⟨rfl, ?_, ?_⟩
      · have := HY4.out.lt
        have hya : y ≠ a := by have := HI.out.lt.1; have := Hy.out; omega
        obtain ⟨_, _, n3, _, _, n6⟩ := N.out
        exact ((HI4.out.setH x1 x2).far hya n6 n3).far hya n6 n3
      · exact (((HT4.out.setCell (.inl (.inl rfl)) _).setCell (.inl (.inl rfl)) _).setCell (.inr (by rw [Hy.out]; exact Nat.le_refl _)) _).setCell (.inr (by rw [Hy.out]; exact Nat.le_refl _)) _
  · have hr : r = false := by rw [HR.out]; simp [hi]
    subst hr
    have hib : (i == 0) = false := beq_eq_false_iff_ne.2 hi
    clear hi
    go_region_held3 (fun w' => w'.cell? ⟨hb, 0, none⟩ = some (.int .i64 i) ∧ w'.cell? ⟨hb, 1, none⟩ = some (.int .i64 g)) (go_keep)
      (first | (go_at_call 35; refine (root_any _).mono ?_; rintro e w4 ⟨rfl, rfl⟩))
    rename_i hHeld
    clear hHeld a0 h0 h1 o0 al hl ol fh fo
    obtain ⟨w4, hw4⟩ : ∃ w4, w4 = ((w3.setCell ⟨ob, 0, none⟩ (.bool false)).alloc (hbox 0 0)).drew := ⟨_, rfl⟩
    rw [show ((w3.setCell ⟨ob, 0, none⟩ (.bool false)).alloc (Obj.cells #[Value.int IntKind.i64 0, Value.int IntKind.i64 0] 30)).drew = w4 from hw4.symm]
    obtain ⟨n1, n2, n3, n4, n5, n6⟩ := N.out
    have hb4 : Below (w3.setCell ⟨ob, 0, none⟩ (.bool false)).heap.size (w3.setCell ⟨ob, 0, none⟩ (.bool false)) w4 := by rw [hw4]; exact below_drew (below_alloc _ _)
    have HI4 := Lib.hid ((HI3.out.setO false).behind hb4)
    have HU4 := Lib.hid ((HU.out.far (o := 0) (u := .bool false) (by exact n1)).behind hb4)
    have HV4 := Lib.hid ((HV.out.far (o := 0) (u := .bool false) (by exact n2)).behind hb4)
    have HY4 := Lib.hid ((HY.out.far (o := 0) (u := .bool false) (by exact n3)).behind hb4)
    have HT4 : Hid (Tch (fun z => z = hb ∨ z = ob) w w4) := Lib.hid (by rw [hw4]; exact (((Tch.of_below HB3.out).setCell (.inl (.inr rfl)) _).alloc _).drew)
    clear hb4 hw4 n1 n2 n3
    obtain ⟨a0, h0, h1, o0⟩ := HI4.out.cells
    obtain ⟨al, hl, ol⟩ := HI4.out.lt
    obtain ⟨fh, fo⟩ := HI4.out.frz
    obtain ⟨u0, u1, u2⟩ := HU4.out.c3
    obtain ⟨v0, v1⟩ := HV4.out.c2
    obtain ⟨y0, y1⟩ := HY4.out.c2
    have fy := HY4.out.frz
    go_wp2
    refine bodyPost_ret (v := .tuple #[.agg #[.int .i64 i, .int .i64 g], .bool true]) (by simp [results, Try.results55, go_sem, y0, y1]) rfl ⟨rfl, ?_, ?_⟩
    · have := HY4.out.lt
      have hya : y ≠ a := by have := HI.out.lt.1; have := Hy.out; omega
      obtain ⟨_, _, n3, _, _, n6⟩ := N.out
      exact ((HI4.out.setH x1 x2).far hya n6 n3).far hya n6 n3
    · exact (((HT4.out.setCell (.inl (.inl rfl)) _).setCell (.inl (.inl rfl)) _).setCell (.inr (by rw [Hy.out]; exact Nat.le_refl _)) _).setCell (.inr (by rw [Hy.out]; exact Nat.le_refl _)) _
/-- what the closure answers where it is over -/
theorem next_over (i g n : Int) (x : Pay) (w : World) (a hb ob : Nat) (tv : Option Addr) (h : Itr w a hb ob tv i g true)
    (hc : ∀ W, Below w.heap.size w W → Calls Try.prog 31 #[.pointer tv, .agg #[.int .i64 i, .int .i64 g]] W fun e w' => e = .returned (.tuple #[.agg (gcells x), .int .i64 n]) ∧ Below W.heap.size W w') :
    Calls Try.prog 55 #[.pointer (some ⟨a, 0, none⟩), .pointer (some ⟨hb, 0, none⟩), .pointer (some ⟨ob, 0, none⟩)] w fun e w' => e = .returned (.tuple #[.agg #[.int .i64 0, .int .i64 0], .bool false]) ∧ Below w.heap.size w w' := by
  obtain ⟨x0, x1, x2, x3⟩ := x
  have HC := Lib.hid (hc (w.alloc (hbox 0 0)) (below_alloc w _))
  clear hc
  have HI := Lib.hid h
  obtain ⟨a0, h0, h1, o0⟩ := h.cells
  obtain ⟨al, hl, ol⟩ := h.lt
  clear h
  go_enter Try.func55, Try.ntmps55
  go_wp2_with fail
  refine HC.out.mono ?_
  rintro e w2 ⟨rfl, hz2⟩
  have HI2 := Lib.hid ((HI.out.behind (below_alloc w (hbox 0 0))).behind hz2)
  have HB2 := Lib.hid (below_trans (below_alloc w (hbox 0 0)) hz2 (by simp))
  have HY2 := (Hx.new w 0 0).behind hz2
  clear hz2 a0 h0 h1 o0 al hl ol
  obtain ⟨y, hy⟩ : ∃ y, y = w.heap.size := ⟨_, rfl⟩
  rw [← hy] at HY2 ⊢
  have Hy := Lib.hid hy
  clear hy
  have HY := Lib.hid HY2
  clear HY2
  obtain ⟨a0, h0, h1, o0⟩ := HI2.out.cells
  obtain ⟨al, hl, ol⟩ := HI2.out.lt
  obtain ⟨y0, y1⟩ := HY.out.c2
  have fy := HY.out.frz
  have yl := HY.out.lt
  go_wp2
  refine bodyPost_ret (v := .tuple #[.agg #[.int .i64 0, .int .i64 0], .bool false]) (by simp [results, Try.results55, go_sem, y0, y1, yl]) rfl ⟨rfl, ?_⟩
  exact ((HB2.out.setCell (by show w.heap.size ≤ y; rw [Hy.out]; exact Nat.le_refl _) _).setCell (by show w.heap.size ≤ y; rw [Hy.out]; exact Nat.le_refl _) _).alloc (by have := HB2.out.size; simpa using this) _
/-- what the closure answers where the handle names nothing -/
theorem next_err (i g : Int) (x : Pay) (w : World) (a hb ob : Nat) (tv : Option Addr) (h : Itr w a hb ob tv i g false)
    (hc : ∀ W, Below w.heap.size w W → Calls Try.prog 31 #[.pointer tv, .agg #[.int .i64 i, .int .i64 g]] W fun e w' => e = .returned (.tuple #[.agg (gcells x), .int .i64 2]) ∧ Below W.heap.size W w') :
    Calls Try.prog 55 #[.pointer (some ⟨a, 0, none⟩), .pointer (some ⟨hb, 0, none⟩), .pointer (some ⟨ob, 0, none⟩)] w fun e w' => e = .returned (.tuple #[.agg #[.int .i64 0, .int .i64 0], .bool false]) ∧ Below w.heap.size w w' := by
  obtain ⟨x0, x1, x2, x3⟩ := x
  have HC := Lib.hid (hc (w.alloc (hbox 0 0)) (below_alloc w _))
  clear hc
  have HI := Lib.hid h
  obtain ⟨a0, h0, h1, o0⟩ := h.cells
  obtain ⟨al, hl, ol⟩ := h.lt
  clear h
  go_enter Try.func55, Try.ntmps55
  go_wp2_with fail
  refine HC.out.mono ?_
  rintro e w2 ⟨rfl, hz2⟩
  have HI2 := Lib.hid ((HI.out.behind (below_alloc w (hbox 0 0))).behind hz2)
  have HB2 := Lib.hid (below_trans (below_alloc w (hbox 0 0)) hz2 (by simp))
  have HY2 := (Hx.new w 0 0).behind hz2
  clear hz2 a0 h0 h1 o0 al hl ol
  obtain ⟨y, hy⟩ : ∃ y, y = w.heap.size := ⟨_, rfl⟩
  rw [← hy] at HY2 ⊢
  have Hy := Lib.hid hy
  clear hy
  have HY := Lib.hid HY2
  clear HY2
  obtain ⟨a0, h0, h1, o0⟩ := HI2.out.cells
  obtain ⟨al, hl, ol⟩ := HI2.out.lt
  obtain ⟨y0, y1⟩ := HY.out.c2
  have fy := HY.out.frz
  have yl := HY.out.lt
  go_wp2
  refine bodyPost_ret (v := .tuple #[.agg #[.int .i64 0, .int .i64 0], .bool false]) (by simp [results, Try.results55, go_sem, y0, y1, yl]) rfl ⟨rfl, ?_⟩
  exact ((HB2.out.setCell (by show w.heap.size ≤ y; rw [Hy.out]; exact Nat.le_refl _) _).setCell (by show w.heap.size ≤ y; rw [Hy.out]; exact Nat.le_refl _) _).alloc (by have := HB2.out.size; simpa using this) _
end Go.Proofs.Ytnbljnpfmeidfaa
