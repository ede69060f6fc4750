/- Contracts of the program's package gtree: Below, Kids. Conditions: the tree lies in memory as TrX says, its pool within bounds, its groups within one another. -/
import Derived.Test.YtnbljnpfmeidfaaTreeS
namespace Go.Proofs.Ytnbljnpfmeidfaa
open Go Go.RowKit Go.ChangeShapes Go.WideShapes
set_option linter.unusedVariables false

/-- who is below a handle; who is a kid of it -/
def belP (s : Ps) (i g : Int) (k : Nat) : Bool := match s.find i g with
  | none => false
  | some j => und s.l k j
def kidP (s : Ps) (i g : Int) (k : Nat) : Bool := match s.find i g with
  | none => false
  | some j => decide (k ≠ 0 ∧ upI s.l k = j)
theorem undH_place {s : Ps} {k : Nat} {q : Pl} (h1 : s.l[k]? = some q) (h2 : q.used = true) (i g : Int) : undH s k q.gen i g = belP s i g k := by
  unfold undH belP
  rw [(find_of h1 h2).1]
  cases s.find i g <;> rfl
theorem below_clo (i g : Int) (k tb hb : Nat) (q : Pl) (b : Nat) (w : World) (base t p : Nat) (s : Ps) (h : TrX w base t p s) (ho : s.Ok 32 b) (hbb : b ≤ 1000) (htr : Tr s.l) (hk : s.l[k]? = some q) (hu : q.used = true)
    (ht : w.heap[tb]? = some (.cells #[.pointer (some ⟨t, 0, none⟩)] 25 (0, 0))) (hh : Hx w hb i g) :
    Calls Try.prog 34 #[.agg #[.int .i64 k, .int .i64 q.gen], .agg (gcells q.x), .pointer (some ⟨tb, 0, none⟩), .pointer (some ⟨hb, 0, none⟩)] w fun e w' => e = .returned (.bool (belP s i g k)) ∧ Below w.heap.size w w' := by
  have HC := Lib.hid (under_any k q.gen i g b ((w.alloc (hbox k q.gen)).alloc (gbox q.x)) base t p s ((h.alloc _).alloc _) ho hbb htr)
  rw [undH_place hk hu] at HC
  have c0 : w.cell? ⟨tb, 0, none⟩ = some (.pointer (some ⟨t, 0, none⟩)) := by simp [World.cell?, ht]
  have l0 : tb < w.heap.size := (Array.getElem?_eq_some_iff.1 ht).1
  have l1 := hh.lt
  obtain ⟨h0, h1⟩ := hh.c2
  generalize belP s i g k = r at HC ⊢
  clear h ho htr hk hu ht hh
  go_enter Try.func34, Try.ntmps34
  go_wp2_with fail
  refine HC.out.mono ?_
  rintro e w2 ⟨rfl, hz2⟩
  go_wp2
  go_ret
  exact ⟨rfl, below_trans (((Below.refl _ w).alloc (Nat.le_refl _) (hbox k q.gen)).alloc (by simp) (gbox q.x)) hz2 (by simp; omega)⟩
theorem below_any (i g : Int) (b : Nat) (w : World) (base t p : Nat) (s : Ps) (h : TrX w base t p s) (ho : s.Ok 32 b) (hb : b ≤ 1000) (htr : Tr s.l) :
    Calls Try.prog 12 #[.pointer (some ⟨t, 0, none⟩), .agg #[.int .i64 i, .int .i64 g]] w fun e w' => ∃ a c, e = .returned (.slice a (selL s.l (belP s i g)).length c) ∧ w'.ownsRow w.heap.size 30 2 (.slice a (selL s.l (belP s i g)).length c) (selL s.l (belP s i g)).length (hcl (selL s.l (belP s i g))) ∧ Below w.heap.size w w' := by
  obtain ⟨w1, hw1⟩ : ∃ w1, w1 = (w.alloc (.cells #[.pointer (some ⟨t, 0, none⟩)] 25)).alloc (hbox i g) := ⟨_, rfl⟩
  have hb1 : Below w.heap.size w w1 := by rw [hw1]; exact (below_alloc w _).alloc (by simp) _
  have ht1 : w1.heap[w.heap.size]? = some (.cells #[.pointer (some ⟨t, 0, none⟩)] 25 (0, 0)) := by
    rw [hw1, Below.heap_alloc _ _ _ (by simp)]; exact heap_alloc_new w _
  have hh1 : Hx w1 (w.heap.size + 1) i g := by rw [hw1]; exact Hx.new1 w _ i g
  have hs := some_below w.heap.size (w.heap.size + 1) (belP s i g) b w1 base t p s (h.behind hb1) ho hb (fun W hW k q h1 h2 =>
    below_clo i g k w.heap.size (w.heap.size + 1) q b W base t p s ((h.behind hb1).behind hW) ho hb htr h1 h2 (by rw [hW.block _ (Array.getElem?_eq_some_iff.1 ht1).1]; exact ht1) (hh1.behind hW))
  obtain ⟨tb, htb⟩ : ∃ tb, tb = w.heap.size := ⟨_, rfl⟩
  obtain ⟨hx, hhx⟩ : ∃ hx, hx = w.heap.size + 1 := ⟨_, rfl⟩
  have c0 : w1.cell? ⟨tb, 0, none⟩ = some (.pointer (some ⟨t, 0, none⟩)) := by rw [htb]; simp [World.cell?, ht1]
  have hz1 := hb1.size
  rw [← hhx, ← htb] at hs
  have HS := Lib.hid hs
  have HW := Lib.hid hw1
  have HB1 := Lib.hid hb1
  have HTB := Lib.hid (And.intro htb hhx)
  generalize selL s.l (belP s i g) = L at HS ⊢
  clear hs h ho htr ht1 hh1 hw1 hb1 htb hhx
  go_enter Try.func12, Try.ntmps12
  go_upto_region 1 with (fail)
  rw [show (w.alloc (.cells #[.pointer (some ⟨t, 0, none⟩)] 25)).alloc (.cells #[.int .i64 i, .int .i64 g] 30) = w1 from HW.out.symm, ← HTB.out.2, ← HTB.out.1]
  go_wp2_with fail
  refine HS.out.mono ?_
  rintro e w2 ⟨a, c, rfl, hr2, hz2⟩
  have HR2 := Lib.hid hr2; have HZ2 := Lib.hid hz2
  clear hr2 hz2
  go_wp2
  go_ret
  exact ⟨a, c, rfl, row_base HR2.out HB1.out.size, below_trans HB1.out HZ2.out HB1.out.size⟩
set_option maxHeartbeats 1000000 in
theorem kids_clo (j : Nat) (qj : Pl) (k hb : Nat) (q : Pl) (b : Nat) (w : World) (s : Ps) (htr : Tr s.l) (hk : s.l[k]? = some q) (hu : q.used = true) (hj : s.l[j]? = some qj) (hju : qj.used = true) (hh : Hx w hb j qj.gen) :
    Calls Try.prog 53 #[.agg #[.int .i64 k, .int .i64 q.gen], .agg (gcells q.x), .pointer (some ⟨hb, 0, none⟩)] w fun e w' => e = .returned (.bool (decide (k ≠ 0 ∧ upI s.l k = j))) ∧ Below w.heap.size w w' := by
  have hup : (k = 0 ∧ q.gen = 0) ∨ (k ≠ 0 ∧ ∃ (d : Nat) (pd : Pl), q.x.ui = d ∧ q.x.ug = pd.gen ∧ upI s.l k = d ∧ (d = j → pd.gen = qj.gen)) := by
    by_cases h0 : k = 0
    · subst h0
      obtain ⟨q0, h1, _, h2, _⟩ := htr.root
      rw [hk] at h1
      cases h1
      exact .inl ⟨rfl, h2⟩
    · obtain ⟨d, pd, h1, h2, h3, h4, h5, _⟩ := htr.up_eq hk hu h0
      exact .inr ⟨h0, d, pd, h3, h4, h5, by rintro rfl; rw [hj] at h1; cases h1; rfl⟩
  obtain ⟨w3, hw3⟩ : ∃ w3, w3 = (w.alloc (hbox k q.gen)).alloc (gbox q.x) := ⟨_, rfl⟩
  have hb3 : Below w.heap.size w w3 := by rw [hw3]; exact (below_alloc w _).alloc (by simp) _
  have hz3 : Hx w3 w.heap.size k q.gen := by rw [hw3]; exact (Hx.new w _ _).alloc _
  have hu3 : Gx w3 (w.heap.size + 1) q.x := by
    rw [hw3]
    have := Gx.new (w.alloc (hbox k q.gen)) q.x
    simpa using this
  have hh3 := hh.behind hb3
  obtain ⟨z, hz⟩ : ∃ z, z = w.heap.size := ⟨_, rfl⟩
  obtain ⟨u, huu⟩ : ∃ u, u = w.heap.size + 1 := ⟨_, rfl⟩
  rw [← hz] at hz3
  rw [← huu] at hu3
  have HZ := Lib.hid (And.intro hz huu)
  have HW := Lib.hid hw3
  have HB3 := Lib.hid hb3
  obtain ⟨z0, z1⟩ := hz3.c2
  have zl := hz3.lt
  obtain ⟨u0, u1, u2⟩ := hu3.c3
  obtain ⟨h0, h1⟩ := hh3.c2
  generalize q.gen = kg at *
  generalize q.x = x at *
  obtain ⟨x0, x1, x2, x3⟩ := x
  obtain ⟨gj, hgj⟩ : ∃ gj, gj = qj.gen := ⟨_, rfl⟩
  rw [← hgj] at h1 hup
  obtain ⟨r, hr⟩ : ∃ r, r = decide (k ≠ 0 ∧ upI s.l k = j) := ⟨_, rfl⟩
  rw [← hr]
  have HU := Lib.hid hup; have HR := Lib.hid hr
  clear htr hk hu hj hju hh hw3 hb3 hz3 hu3 hh3 hz huu hgj hup hr
  go_enter Try.func53, Try.ntmps53
  go_upto_region 1 with (fail)
  rw [show (w.alloc (Obj.cells #[Value.int IntKind.i64 k, Value.int IntKind.i64 kg] 30)).alloc (Obj.cells #[Value.int IntKind.i64 x1, Value.int IntKind.i64 x2, Value.int IntKind.i64 x3] 71) = w3 from HW.out.symm, ← HZ.out.2, ← HZ.out.1]
  simp only at u0 u1 u2
  rcases HU.out with ⟨hk0, hkg⟩ | ⟨hk0, d, pd, hd1, hd2, hd3, hd4⟩
  · subst hk0
    subst hkg
    have hr : r = false := by rw [HR.out]; simp
    subst hr
    clear HU HR
    refine wp_region_noPanic ?_
    refine wp_region_held_drew (S := fun w' => w'.cell? ⟨z, 0, none⟩ = some (.int .i64 0) ∧ w'.cell? ⟨z, 1, none⟩ = some (.int .i64 0)) (by kernel_rfl) ⟨z0, z1⟩ (fun hHeld => ?_)
    refine wpAnyH_take (i := 0) (v := .agg #[.int .i64 0, .int .i64 0]) rfl (by kernel_rfl) (by kernel_rfl) (by kernel_rfl) (fun _ _ _ h => h) (Or.inl ⟨by rfl, ?_⟩) hHeld ?_
    · intro w' hS; go_simp
    refine wpAnyH_ready (rs := [1]) (by kernel_rfl) (by simp) ?_
    refine AllReadyH.cons rfl (fun K hK => ?_) AllReadyH.nil
    go_simp
    refine (root_any _).mono ?_
    rintro e w4 ⟨rfl, rfl⟩
    have hS4 : (w3.drew.alloc (hbox 0 0)).cell? ⟨z, 0, none⟩ = some (.int .i64 0) ∧ (w3.drew.alloc (hbox 0 0)).cell? ⟨z, 1, none⟩ = some (.int .i64 0) := by
      have h := bcell (below_alloc w3.drew (hbox 0 0))
      exact ⟨(h.1 z 0 zl).trans z0, (h.1 z 1 zl).trans z1⟩
    refine hK.out _ _ hS4 (fun hHeld2 => ?_)
    clear hK K
    refine wpAnyH_take (i := 2) (v := .bool false) rfl (by kernel_rfl) (by kernel_rfl) (by kernel_rfl) (fun _ _ _ h => h) (Or.inl ⟨by rfl, ?_⟩) hHeld2 ?_
    · intro w' hS; go_simp
    refine wpAnyH_take (i := 3) (v := .bool false) rfl (by kernel_rfl) (by kernel_rfl) (by kernel_rfl) (fun _ _ _ h => h) (Or.inl ⟨by rfl, ?_⟩) hHeld2 ?_
    · intro w' hS; go_simp
    refine wpAnyH_take (i := 4) (v := undef) rfl (by kernel_rfl) (by kernel_rfl) (by kernel_rfl) (fun _ _ _ h => h) (Or.inr ⟨by rfl, rfl⟩) hHeld2 ?_
    refine wpAnyH_take (i := 5) (v := undef) rfl (by kernel_rfl) (by kernel_rfl) (by kernel_rfl) (fun _ _ _ h => h) (Or.inr ⟨by rfl, rfl⟩) hHeld2 ?_
    refine wpAnyH_take (i := 6) (v := undef) rfl (by kernel_rfl) (by kernel_rfl) (by kernel_rfl) (fun _ _ _ h => h) (Or.inr ⟨by rfl, rfl⟩) hHeld2 ?_
    refine wpAnyH_take (i := 7) (v := undef) rfl (by kernel_rfl) (by kernel_rfl) (by kernel_rfl) (fun _ _ _ h => h) (Or.inr ⟨by rfl, rfl⟩) hHeld2 ?_
    refine wpAnyH_take (i := 8) (v := .bool false) rfl (by kernel_rfl) (by kernel_rfl) (by kernel_rfl) (fun _ _ _ h => h) (Or.inl ⟨by rfl, ?_⟩) hHeld2 ?_
    · intro w' hS; go_simp
    refine wpAnyH_take (i := 9) (v := .bool false) rfl (by kernel_rfl) (by kernel_rfl) (by kernel_rfl) (fun _ _ _ h => h) (Or.inl ⟨by rfl, ?_⟩) hHeld2 ?_
    · intro w' hS; go_simp
    refine wpAnyH_done (by kernel_rfl) ?_ _
    change NoPanic (Exit.then _ _) Exit.normal ({ tmps := #[.agg #[.int .i64 0, .int .i64 0], .agg (gcells ⟨x0, x1, x2, x3⟩), .pointer (some ⟨hb, 0, none⟩), .pointer (some ⟨z, 0, none⟩), .pointer (some ⟨u, 0, none⟩), .bool false, .agg #[.int .i64 0, .int .i64 0], .agg #[.int .i64 0, .int .i64 0], .bool false, .bool false, undef, undef, undef, undef, .bool false], defers := [] } : Act) _
    refine NoPanic.normal ?_
    go_wp2
    go_ret
    exact ⟨rfl, (below_drew HB3.out).alloc HB3.out.size _⟩
  · have hkb : ((k : Int) == 0) = false := beq_eq_false_iff_ne.2 (by omega)
    have hkn : ((k : Int) != 0) = true := by simp; omega
    simp only at hd1 hd2
    subst hd1 hd2
    by_cases hdj : d = j
    · have hg := hd4 hdj
      subst hdj
      have hr : r = true := by rw [HR.out]; exact decide_eq_true ⟨hk0, hd3⟩
      subst hr
      rw [hg] at u1
      clear HU HR hk0 hd3 hd4 hg
      go_region_held3 (fun w' => w'.cell? ⟨z, 0, none⟩ = some (.int .i64 k) ∧ w'.cell? ⟨z, 1, none⟩ = some (.int .i64 kg) ∧ w'.cell? ⟨u, 0, none⟩ = some (.int .i64 d) ∧ w'.cell? ⟨u, 1, none⟩ = some (.int .i64 gj) ∧ w'.cell? ⟨hb, 0, none⟩ = some (.int .i64 d) ∧ w'.cell? ⟨hb, 1, none⟩ = some (.int .i64 gj)) (go_keep)
        (first | (go_at_call 35; refine (root_any _).mono ?_; rintro e w4 ⟨rfl, rfl⟩))
      rename_i hHeld
      clear hHeld
      go_wp2
      go_ret
      refine ⟨rfl, ?_⟩
      have hb := HB3.out
      exact below_drew (hb.alloc hb.size _)
    · have hr : r = false := by rw [HR.out]; exact decide_eq_false (fun e => hdj (hd3.symm.trans e.2))
      subst hr
      have hdb : ((d : Int) == (j : Int)) = false := beq_eq_false_iff_ne.2 (by omega)
      clear HU HR hk0 hd3 hd4 hdj
      go_region_held3 (fun w' => w'.cell? ⟨z, 0, none⟩ = some (.int .i64 k) ∧ w'.cell? ⟨z, 1, none⟩ = some (.int .i64 kg) ∧ w'.cell? ⟨u, 0, none⟩ = some (.int .i64 d) ∧ w'.cell? ⟨u, 1, none⟩ = some (.int .i64 pd.gen) ∧ w'.cell? ⟨hb, 0, none⟩ = some (.int .i64 j) ∧ w'.cell? ⟨hb, 1, none⟩ = some (.int .i64 gj)) (go_keep)
        (first | (go_at_call 35; refine (root_any _).mono ?_; rintro e w4 ⟨rfl, rfl⟩))
      rename_i hHeld
      clear hHeld
      go_wp2
      go_ret
      refine ⟨rfl, ?_⟩
      have hb := HB3.out
      exact below_drew (hb.alloc hb.size _)
end Go.Proofs.Ytnbljnpfmeidfaa
