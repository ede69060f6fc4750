/- Contracts of the program's package gtree: Kids, Destroy. Conditions: the tree lies in memory as TrX says, its pool within bounds, its groups within one another. -/
import Derived.Test.YtnbljnpfmeidfaaTreeK
namespace Go.Proofs.Ytnbljnpfmeidfaa
open Go Go.RowKit Go.ChangeShapes Go.WideShapes
set_option linter.unusedVariables false

theorem kids_two (i g : Int) (w : World) (tv : Option Addr) (hc : ∀ W, Below w.heap.size w W → Calls Try.prog 31 #[.pointer tv, .agg #[.int .i64 i, .int .i64 g]] W fun e w' => e = .returned (.tuple #[.agg (gcells .zero), .int .i64 2]) ∧ Below W.heap.size W w') :
    Calls Try.prog 30 #[.pointer tv, .agg #[.int .i64 i, .int .i64 g]] w fun e w' => e = .returned (.slice none 0 0) ∧ Below w.heap.size w w' := by
  have HC := Lib.hid (hc (w.alloc (hbox i g)) (below_alloc w _))
  clear hc
  go_enter Try.func30, Try.ntmps30
  go_wp2_with fail
  refine HC.out.mono ?_
  rintro e w2 ⟨rfl, hz2⟩
  have HB2 : Hid (Below w.heap.size w w2) := Lib.hid (below_trans (below_alloc w _) hz2 (by simp))
  clear hz2
  go_wp2
  go_ret
  exact ⟨rfl, HB2.out.alloc HB2.out.size _⟩
theorem kids_nil (i g : Int) (w : World) :
    Calls Try.prog 30 #[.pointer none, .agg #[.int .i64 i, .int .i64 g]] w fun e w' => e = .returned (.slice none 0 0) ∧ Below w.heap.size w w' :=
  kids_two i g w none (fun W _ => tat_nil i g W)
theorem kids_yes (j : Nat) (qj : Pl) (b : Nat) (w : World) (base t p : Nat) (s : Ps) (h : TrX w base t p s) (ho : s.Ok 32 b) (hb : b ≤ 1000) (htr : Tr s.l) (hj : s.l[j]? = some qj) (hju : qj.used = true) :
    Calls Try.prog 30 #[.pointer (some ⟨t, 0, none⟩), .agg #[.int .i64 j, .int .i64 qj.gen]] w fun e w' => ∃ a c, e = .returned (.slice a (selL s.l (kidP s j qj.gen)).length c) ∧ w'.ownsRow w.heap.size 30 2 (.slice a (selL s.l (kidP s j qj.gen)).length c) (selL s.l (kidP s j qj.gen)).length (hcl (selL s.l (kidP s j qj.gen))) ∧ Below w.heap.size w w' := by
  have HC := Lib.hid (tat_place j qj b (w.alloc (hbox j qj.gen)) base t p s (h.alloc _) ho hb hj hju)
  have hP : kidP s j qj.gen = fun k => decide (k ≠ 0 ∧ upI s.l k = j) := by
    unfold kidP
    rw [(find_of hj hju).1]
  rw [hP]
  have HS := Lib.hid (fun (c0 : Nat) (W : World) (hW : Below w.heap.size w W) (hx : Hx W c0 j qj.gen) => some_kids c0 (fun k => decide (k ≠ 0 ∧ upI s.l k = j)) b W base t p s (h.behind hW) ho hb (fun W2 hW2 k q h1 h2 =>
    kids_clo j qj k c0 q b W2 s htr h1 h2 hj hju (hx.behind hW2)))
  generalize selL s.l (fun k => decide (k ≠ 0 ∧ upI s.l k = j)) = L at HS ⊢
  generalize qj.gen = g at *
  clear h ho htr hj hju hP
  go_enter Try.func30, Try.ntmps30
  go_wp2_with fail
  refine HC.out.mono ?_
  rintro e w2 ⟨rfl, hz2⟩
  have HB2 : Hid (Below w.heap.size w w2) := Lib.hid (below_trans (below_alloc w _) hz2 (by simp))
  have HX2 := Lib.hid ((Hx.new w j g).behind hz2)
  clear hz2
  obtain ⟨z, hz⟩ : ∃ z, z = w.heap.size := ⟨_, rfl⟩
  rw [← hz] at HX2 ⊢
  have HZ := Lib.hid hz
  clear hz
  go_wp2_with fail
  refine (HS.out z _ (HB2.out.alloc HB2.out.size _) (HX2.out.alloc _)).mono ?_
  rintro e w3 ⟨a, c, rfl, hr3, hz3⟩
  have HR3 := Lib.hid hr3; have HB3 := Lib.hid (below_trans (HB2.out.alloc HB2.out.size _) hz3 (by have := HB2.out.size; simp; omega))
  clear hr3 hz3
  go_wp2
  go_ret
  exact ⟨a, c, rfl, row_base HR3.out (by have := HB2.out.size; have := HZ.out; simp; omega), HB3.out⟩
theorem selL_no (l : List Pl) : selL l (fun _ => false) = [] := by simp [selL]
theorem kids_any (i g : Int) (b : Nat) (w : World) (base t p : Nat) (s : Ps) (h : TrX w base t p s) (ho : s.Ok 32 b) (hb : b ≤ 1000) (htr : Tr s.l) :
    Calls Try.prog 30 #[.pointer (some ⟨t, 0, none⟩), .agg #[.int .i64 i, .int .i64 g]] w fun e w' => ∃ a c, e = .returned (.slice a (selL s.l (kidP s i g)).length c) ∧ w'.ownsRow w.heap.size 30 2 (.slice a (selL s.l (kidP s i g)).length c) (selL s.l (kidP s i g)).length (hcl (selL s.l (kidP s i g))) ∧ Below w.heap.size w w' := by
  cases hk : s.find i g with
  | none =>
    have hP : kidP s i g = fun _ => false := by unfold kidP; rw [hk]
    rw [hP, selL_no]
    refine (kids_two i g w _ (fun W hW => ?_)).mono ?_
    · have := tat_any i g b W base t p s (h.behind hW) ho hb
      rwa [(getV_no hk).1, (getV_no hk).2] at this
    · rintro e w' ⟨rfl, hz⟩
      exact ⟨none, 0, rfl, World.ownsRow_nil _ _ _ _, hz⟩
  | some j =>
    obtain ⟨qj, rfl, hj1, hj2, rfl, _, _⟩ := find_some hk
    exact kids_yes j qj b w base t p s h ho hb htr hj1 hj2
/-- Destroy -/
def Ps.desE (s : Ps) (i g : Int) : Int := match s.find i g with
  | none => 2
  | some k => if k = 0 then 1 else if (selL s.l (kidP s i g)).length = 0 then 0 else 6
def Ps.des (s : Ps) (i g : Int) : Ps := match s.find i g with
  | none => s
  | some k => if k = 0 then s else if (selL s.l (kidP s i g)).length = 0 then s.fre i g else s
theorem destroy_two (i g : Int) (w : World) (tv : Option Addr) (hc : ∀ W, Below w.heap.size w W → Calls Try.prog 31 #[.pointer tv, .agg #[.int .i64 i, .int .i64 g]] W fun e w' => e = .returned (.tuple #[.agg (gcells .zero), .int .i64 2]) ∧ Below W.heap.size W w') :
    Calls Try.prog 21 #[.pointer tv, .agg #[.int .i64 i, .int .i64 g]] w fun e w' => e = .returned (.int .i64 2) ∧ Below w.heap.size w w' := by
  have HC := Lib.hid (hc (w.alloc (hbox i g)) (below_alloc w _))
  clear hc
  go_enter Try.func21, Try.ntmps21
  go_wp2_with fail
  refine HC.out.mono ?_
  rintro e w2 ⟨rfl, hz2⟩
  have HB2 : Hid (Below w.heap.size w w2) := Lib.hid (below_trans (below_alloc w _) hz2 (by simp))
  clear hz2
  go_wp2
  go_ret
  exact ⟨rfl, HB2.out.alloc HB2.out.size _⟩
theorem destroy_nil (i g : Int) (w : World) :
    Calls Try.prog 21 #[.pointer none, .agg #[.int .i64 i, .int .i64 g]] w fun e w' => e = .returned (.int .i64 2) ∧ Below w.heap.size w w' :=
  destroy_two i g w none (fun W _ => tat_nil i g W)
theorem destroy_root (b : Nat) (w : World) (base t p : Nat) (s : Ps) (h : TrX w base t p s) (ho : s.Ok 32 b) (hb : b ≤ 1000) (hn : s.namE 0 0 = 0) :
    Calls Try.prog 21 #[.pointer (some ⟨t, 0, none⟩), .agg #[.int .i64 0, .int .i64 0]] w fun e w' => e = .returned (.int .i64 1) ∧ Below w.heap.size w w' := by
  have HC := Lib.hid (tat_any 0 0 b (w.alloc (hbox 0 0)) base t p s (h.alloc _) ho hb)
  rw [hn] at HC
  generalize s.getV 0 0 = x at HC ⊢
  clear h ho hn
  go_enter Try.func21, Try.ntmps21
  go_wp2_with fail
  refine HC.out.mono ?_
  rintro e w2 ⟨rfl, hz2⟩
  go_upto_region 4 with (fail)
  have hb2 : Below w.heap.size w w2 := below_trans (below_alloc w _) hz2 (by simp)
  have hb3 : Below w.heap.size w (w2.alloc (gbox x)) := hb2.alloc hb2.size _
  have hZ : Hx (w2.alloc (gbox x)) w.heap.size 0 0 := ((Hx.new w 0 0).behind hz2).alloc _
  obtain ⟨w3, hw3⟩ : ∃ w3, w3 = w2.alloc (gbox x) := ⟨_, rfl⟩
  obtain ⟨z, hz⟩ : ∃ z, z = w.heap.size := ⟨_, rfl⟩
  rw [show w2.alloc (Obj.cells #[Value.int IntKind.i64 x.ui, Value.int IntKind.i64 x.ug, Value.int IntKind.i64 x.dp] 71) = w3 from hw3.symm]
  rw [← hw3] at hb3 hZ
  rw [← hz]
  rw [← hz] at hZ
  have HB3 := Lib.hid hb3
  obtain ⟨z0, z1⟩ := hZ.c2
  clear hz2 hb2 hb3 hw3 hz hZ
  go_region_held3 (fun w' => w'.cell? ⟨z, 0, none⟩ = some (.int .i64 0) ∧ w'.cell? ⟨z, 1, none⟩ = some (.int .i64 0)) (go_keep)
    (first | (go_at_call 35; refine (root_any _).mono ?_; rintro e w4 ⟨rfl, rfl⟩))
  rename_i hHeld
  clear hHeld
  go_wp2
  go_ret
  exact ⟨rfl, below_drew (HB3.out.alloc HB3.out.size _)⟩
set_option maxHeartbeats 1000000 in
set_option maxRecDepth 100000 in
theorem destroy_some (k : Nat) (q : Pl) (b : Nat) (w : World) (base t p : Nat) (s : Ps) (h : TrX w base t p s) (ho : s.Ok 32 b) (hb : b ≤ 1000) (htr : Tr s.l) (hk : s.l[k]? = some q) (hku : q.used = true) (hk0 : k ≠ 0) :
    Calls Try.prog 21 #[.pointer (some ⟨t, 0, none⟩), .agg #[.int .i64 k, .int .i64 q.gen]] w fun e w' => e = .returned (.int .i64 (if (selL s.l (kidP s k q.gen)).length = 0 then 0 else 6)) ∧ TrX w' base t p (if (selL s.l (kidP s k q.gen)).length = 0 then s.fre k q.gen else s) ∧ PoolStep base p w w' := by
  have HC := Lib.hid (tat_place k q b (w.alloc (hbox k q.gen)) base t p s (h.alloc _) ho hb hk hku)
  have HK := Lib.hid (fun (W : World) (hW : TrX W base t p s) => kids_yes k q b W base t p s hW ho hb htr hk hku)
  have HF := Lib.hid (fun (W : World) (hW : TrX W base t p s) => pl_free k q.gen b W base p 32 s hW.has ho hb hW.base_le)
  have HT := Lib.hid h
  obtain ⟨s2, hs2⟩ : ∃ s2, s2 = s.fre k q.gen := ⟨_, rfl⟩
  rw [← hs2] at HF ⊢
  generalize s.getV k q.gen = fv at HF
  generalize s.namE k q.gen = fe at HF
  have hlen : (selL s.l (kidP s k q.gen)).length ≤ 1000 := by
    have h1 : (selL s.l (kidP s k q.gen)).length ≤ (allL s.l).length := List.length_filter_le _ _
    have := allL_len s.l
    have := (ho.lo hb).1
    omega
  generalize selL s.l (kidP s k q.gen) = L at HK hlen ⊢
  obtain ⟨n, hn⟩ : ∃ n, n = L.length := ⟨_, rfl⟩
  rw [← hn] at HK hlen ⊢
  have hkb : ((k : Int) == 0) = false := beq_eq_false_iff_ne.2 (by omega)
  generalize q.gen = g at *
  generalize q.x = x at *
  clear h ho htr hk hku hs2 hk0 hn
  go_enter Try.func21, Try.ntmps21
  go_wp2_with fail
  refine HC.out.mono ?_
  rintro e w2 ⟨rfl, hz2⟩
  go_upto_region 4 with (fail)
  have hb2 : Below w.heap.size w w2 := below_trans (below_alloc w _) hz2 (by simp)
  have hb3 : Below w.heap.size w (w2.alloc (gbox x)) := hb2.alloc hb2.size _
  have hZ : Hx (w2.alloc (gbox x)) w.heap.size k g := ((Hx.new w k g).behind hz2).alloc _
  obtain ⟨w3, hw3⟩ : ∃ w3, w3 = w2.alloc (gbox x) := ⟨_, rfl⟩
  obtain ⟨z, hz⟩ : ∃ z, z = w.heap.size := ⟨_, rfl⟩
  rw [show w2.alloc (Obj.cells #[Value.int IntKind.i64 x.ui, Value.int IntKind.i64 x.ug, Value.int IntKind.i64 x.dp] 71) = w3 from hw3.symm]
  rw [← hw3] at hb3 hZ
  rw [← hz]
  rw [← hz] at hZ
  have HB3 := Lib.hid hb3
  have HZ := Lib.hid hZ
  have HZN := Lib.hid hz
  obtain ⟨z0, z1⟩ := hZ.c2
  clear hz2 hb2 hb3 hw3 hz hZ
  go_region_held3 (fun w' => w'.cell? ⟨z, 0, none⟩ = some (.int .i64 k) ∧ w'.cell? ⟨z, 1, none⟩ = some (.int .i64 g)) (go_keep)
    (first | (go_at_call 35; refine (root_any _).mono ?_; rintro e w4 ⟨rfl, rfl⟩))
  rename_i hHeld
  clear hHeld z0 z1
  obtain ⟨w5, hw5⟩ : ∃ w5, w5 = (w3.alloc (hbox 0 0)).drew := ⟨_, rfl⟩
  have hb5 : Below w3.heap.size w3 w5 := by rw [hw5]; exact below_drew (below_alloc _ _)
  rw [show (w3.alloc (Obj.cells #[Value.int IntKind.i64 0, Value.int IntKind.i64 0] 30)).drew = w5 from hw5.symm]
  clear hw5
  have HZ5 := Lib.hid (HZ.out.behind hb5)
  have HB5 := Lib.hid (below_trans HB3.out hb5 HB3.out.size)
  clear hb5
  obtain ⟨z0, z1⟩ := HZ5.out.c2
  have zl := HZ5.out.lt
  go_wp2_with fail
  refine (HK.out _ (HT.out.behind HB5.out)).mono ?_
  rintro e w6 ⟨a, c, rfl, hr6, hz6⟩
  have HB6 := Lib.hid (below_trans HB5.out hz6 HB5.out.size)
  have HZ6 := Lib.hid (HZ5.out.behind hz6)
  clear hr6 hz6 z0 z1 zl
  by_cases hn0 : n = 0
  · subst hn0
    go_upto_region 8 with (fail)
    obtain ⟨z0, z1⟩ := HZ6.out.c2
    have HT6 : Hid (TrX w6.drew base t p s) := Lib.hid ((HT.out.behind HB6.out).behind (below_drew (Below.refl _ w6)))
    have tc : w6.cell? ⟨t, 0, none⟩ = some (.pointer (some ⟨p, 0, none⟩)) := HT6.out.cell
    have nz : z ≠ p := by have := HT.out.has.lt; have := HZN.out; omega
    have HFR := Lib.hid (HF.out w6.drew HT6.out)
    have HS := Lib.hid (fun (w7 : World) (hs : PoolStep base p w6.drew w7) => show (w7.cell? ⟨t, 0, none⟩ = some (.pointer (some ⟨p, 0, none⟩)) ∧ w7.cell? ⟨z, 0, none⟩ = some (.int .i64 k) ∧ w7.cell? ⟨z, 1, none⟩ = some (.int .i64 g)) from by
      have hz4 := Hx.step (w := w6.drew) HZ6.out.drew hs nz
      have ht4 : w7.heap[t]? = _ := hs.same HT6.out.tb HT6.out.ne (by decide)
      exact ⟨by simp [World.cell?, ht4], hz4.c2.1, hz4.c2.2⟩)
    go_region_held3 (fun w' => w'.cell? ⟨t, 0, none⟩ = some (.pointer (some ⟨p, 0, none⟩)) ∧ w'.cell? ⟨z, 0, none⟩ = some (.int .i64 k) ∧ w'.cell? ⟨z, 1, none⟩ = some (.int .i64 g))
      (first | exact ⟨tc, z0, z1⟩ | assumption)
      (first | (go_at_call 40; refine HFR.out.mono ?_; rintro e w7 ⟨rfl, hp7, hs7⟩; have hS7 := HS.out w7 hs7))
    rename_i hHeld
    clear hHeld hS7
    go_wp2
    go_ret
    exact ⟨rfl, HT6.out.step hs7 hp7, (PoolStep.of_below (below_drew HB6.out) HT.out.base_le).trans hs7⟩
  · have hn1 : 0 < n := by omega
    clear hn0
    go_wp2
    go_ret
    exact ⟨rfl, HT.out.behind HB6.out, PoolStep.of_below HB6.out HT.out.base_le⟩
theorem zero_of {s : Ps} {k : Nat} {q : Pl} (htr : Tr s.l) (hk : s.l[k]? = some q) (h0 : k = 0) : q.gen = 0 := by
  subst h0
  obtain ⟨q0, h1, _, h2, _⟩ := htr.root
  rw [hk] at h1
  cases h1
  exact h2
theorem destroy_any (i g : Int) (b : Nat) (w : World) (base t p : Nat) (s : Ps) (h : TrX w base t p s) (ho : s.Ok 32 b) (hb : b ≤ 1000) (htr : Tr s.l) :
    Calls Try.prog 21 #[.pointer (some ⟨t, 0, none⟩), .agg #[.int .i64 i, .int .i64 g]] w fun e w' => e = .returned (.int .i64 (s.desE i g)) ∧ TrX w' base t p (s.des i g) ∧ PoolStep base p w w' := by
  unfold Ps.des Ps.desE
  cases hk : s.find i g with
  | none =>
    refine (destroy_two i g w _ (fun W hW => ?_)).mono ?_
    · have := tat_any i g b W base t p s (h.behind hW) ho hb
      rwa [(getV_no hk).1, (getV_no hk).2] at this
    · rintro e w' ⟨rfl, hz⟩
      exact ⟨rfl, h.behind hz, PoolStep.of_below hz h.base_le⟩
  | some k =>
    obtain ⟨q, rfl, hk1, hk2, rfl, _, h6⟩ := find_some hk
    by_cases hk0 : k = 0
    · have hg := zero_of htr hk1 hk0
      subst hk0
      simp only [if_true]
      rw [hg] at h6 ⊢
      exact (destroy_root b w base t p s h ho hb h6).mono fun e w' ⟨h1, h2⟩ => ⟨h1, h.behind h2, PoolStep.of_below h2 h.base_le⟩
    · simp only [if_neg hk0]
      exact destroy_some k q b w base t p s h ho hb htr hk1 hk2 hk0
end Go.Proofs.Ytnbljnpfmeidfaa
