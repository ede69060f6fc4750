/- The document's tree of groups, told by value: Kids, Under. Condition: the tree is within bounds, its groups within one another. -/
import Derived.Test.YtnbljnpfmeidfaaDocC
import Derived.Test.YtnbljnpfmeidfaaTreeL
namespace Go.Proofs.Ytnbljnpfmeidfaa
open Go Go.RowKit Go.ChangeShapes Go.WideShapes
set_option linter.unusedVariables false

theorem RfV.wlt {w : World} {s : Ps} {g1 nv cv : Nat} {v2 v3 v4 : Sv} (h : RfV w 32 s ⟨some ⟨g1, 0, none⟩, nv, cv⟩ v2 v3 v4) (htr : Tr s.l) : g1 < w.heap.size := by
  obtain ⟨g, e, hg, _⟩ := h.words htr
  simp at e
  rw [e]
  exact hg
theorem kidP_wrd {s : Ps} {i g : Int} {j : Nat} (hf : s.find i g = some j) (htr : Tr s.l) {k : Nat} (hk : Usd s.l k) : kidP s i g k = decide (wrd s.l k = (j : Int)) := by
  unfold kidP wrd
  rw [hf]
  by_cases h0 : k = 0
  · subst h0
    simp
  · simp [h0]
    omega
set_option maxHeartbeats 4000000 in
set_option maxRecDepth 100000 in
theorem runder_none (b : Nat) (w : World) (s : Ps) (v1 v2 v3 v4 : Sv) (h : RfV w 32 s v1 v2 v3 v4) (ho : s.Ok 32 b) (hb : b ≤ 1000) (htr : Tr s.l) (i g : Int) (hf : s.find i g = none) :
    Calls Try.prog 48 #[.agg (vcl 32 v1 v2 v3 v4), .agg #[.int .i64 i, .int .i64 g]] w fun e w' => ∃ a c, e = .returned (.slice a (selL s.l (fun _ => false)).length c) ∧ w'.ownsRow w.heap.size 30 2 (.slice a (selL s.l (fun _ => false)).length c) (selL s.l (fun _ => false)).length (hcl (selL s.l (fun _ => false))) ∧ Below w.heap.size w w' := by
  obtain ⟨i0, hi, hq0, hq1, hq2⟩ := info_parts rinfo_handle
  obtain ⟨g1, e1, hg, hw⟩ := h.words htr
  obtain ⟨av, nv, cv⟩ := v1
  simp only at e1 hw
  subst e1
  have HR := Lib.hid h; have HO := Lib.hid ho; have HTR := Lib.hid htr; have HF := Lib.hid hf; have HW := Lib.hid hw
  have hln := allL_len s.l
  have hlo := (ho.lo hb).1
  obtain ⟨L, hL⟩ : ∃ L, L = allL s.l := ⟨_, rfl⟩
  have hM : ∀ k g, (k, g) ∈ L → ∃ q, s.l[k]? = some q ∧ q.used = true ∧ q.gen = g := by rw [hL]; exact fun k g => allL_mem
  have HM := Lib.hid hM
  have HA := Lib.hid (fun (W : World) h => rv_all b W 32 s ⟨some ⟨g1, 0, none⟩, nv, cv⟩ v2 v3 v4 h ho hb)
  unfold selL
  rw [← hL] at HA hln ⊢
  have hl1 : L.length ≤ 1000 := by omega
  generalize hP : (fun _ : Nat => false) = P
  have HP : Hid (∀ k, P k = false) := Lib.hid (by rw [← hP]; intro k; rfl)
  clear hP
  clear h ho htr hf hw hM hL hln hlo
  go_enter Try.func48, Try.ntmps48
  go_upto_region 1 with (fail)
  obtain ⟨w0, hw0⟩ : ∃ w0, w0 = (w.alloc (ubox ⟨some ⟨g1, 0, none⟩, nv, cv⟩ v2 v3 v4)).alloc (hbox i g) := ⟨_, rfl⟩
  have HX : Hid (Ux w0 w.heap.size (vcl 32 ⟨some ⟨g1, 0, none⟩, nv, cv⟩ v2 v3 v4)) := Lib.hid (by rw [hw0]; exact (Ux.new w _).alloc _)
  have HY : Hid (Hx w0 (w.heap.size + 1) i g) := Lib.hid (by rw [hw0]; exact Hx.new1 w _ _ _)
  have HB : Hid (Below w.heap.size w w0) := Lib.hid (by rw [hw0]; exact (below_alloc w _).alloc (by simp) _)
  rw [← hw0]
  clear hw0
  obtain ⟨x, hx⟩ : ∃ x, x = w.heap.size := ⟨_, rfl⟩
  obtain ⟨y, hy⟩ : ∃ y, y = w.heap.size + 1 := ⟨_, rfl⟩
  rw [← hy, ← hx]
  rw [← hx] at HX; rw [← hy] at HY
  clear hx hy
  obtain ⟨x0, x1, x2, x3, x4⟩ := HX.out.c5
  have xl := HX.out.lt
  go_wp2_with fail
  refine (HA.out _ (HR.out.behind HB.out)).mono ?_
  rintro e w1 ⟨a1, cc1, rfl, hr1, hz1⟩
  have HR1 := Lib.hid hr1
  replace HB := Lib.hid (below_trans HB.out hz1 HB.out.size)
  replace HX := Lib.hid (HX.out.behind hz1)
  replace HY := Lib.hid (HY.out.behind hz1)
  clear hr1 hz1 x0 x1 x2 x3 x4 xl
  obtain ⟨N, hN⟩ : ∃ N, N = L.length := ⟨_, rfl⟩
  rw [← hN] at HR1 hl1 ⊢
  have HN := Lib.hid hN
  clear hN HA
  go_wp2_with fail
  go_loopg [6, 7] N (fun n vl vi wr => ∃ (j m : Nat) (ar : Option Addr) (cr : Nat), vl = .slice ar m cr ∧ vi = .int .i64 j ∧ j ≤ N ∧ N - j ≤ n ∧ m ≤ j ∧ m = ((L.take j).filter (fun x => P x.1)).length ∧ wr.ownsRow w1.heap.size 30 2 (.slice ar m cr) m (hcl ((L.take j).filter (fun x => P x.1))) ∧ Below w1.heap.size w1 wr)
  case atStart => exact ⟨0, 0, none, 0, rfl, rfl, by omega, by omega, by omega, by simp, by simpa [hcl] using World.ownsRow_nil _ _ _ _, Below.refl _ _⟩
  case round =>
    obtain ⟨j, m, ar, cr, rfl, rfl, hj, hn, hmj, hm, hrow, hbr⟩ := hrel
    have HM2 := Lib.hid hm; have HRW := Lib.hid hrow; have HBR := Lib.hid hbr; have HGN := Lib.hid hn
    clear hm hrow hbr hn
    by_cases hjn : j < N
    · obtain ⟨kg, hkg⟩ : ∃ kg, L[j]? = some kg := ⟨_, List.getElem?_eq_getElem (by have := HN.out; omega)⟩
      obtain ⟨k, gk⟩ := kg
      obtain ⟨q, hq1', hq2', hq3'⟩ := HM.out k gk (List.mem_of_getElem? hkg)
      subst hq3'
      obtain ⟨tt, rfl⟩ := hrow_some HR1.out (by omega)
      have HR1r := Lib.hid (ownsRow_below HR1.out HBR.out)
      obtain ⟨z0, z1, zl⟩ := hcl_cell HR1r.out j k q.gen hkg hjn
      have hsel : (L.take (j + 1)).filter (fun x => P x.1) = (L.take j).filter (fun x => P x.1) ++ (if P k = true then [(k, q.gen)] else []) := by
        have hjl : j < L.length := (List.getElem?_eq_some_iff.1 hkg).1
        have e : L[j] = (k, q.gen) := by have := List.getElem?_eq_getElem hjl; rw [hkg] at this; simpa using this.symm
        rw [← List.take_append_getElem hjl, List.filter_append, e]
        cases hP : P k <;> simp [hP]
      have HSEL := Lib.hid hsel
      have HQ := Lib.hid (show Usd s.l k from ⟨q, hq1', hq2'⟩)
      have HBr := Lib.hid (below_trans HB.out HBR.out HB.out.size)
      have HXr := Lib.hid (HX.out.behind HBR.out)
      have HYr := Lib.hid (HY.out.behind HBR.out)
      have HKG := Lib.hid hkg
      obtain ⟨hkn, hkc⟩ := HW.out wr HBr.out k HQ.out
      clear hsel hkg hq1' hq2'
      obtain ⟨x0, x1, x2, x3, x4⟩ := HXr.out.c5
      obtain ⟨yy0, yy1⟩ := HYr.out.c2
      have xl := HXr.out.lt
      have yl := HYr.out.lt
      have gl : g1 < wr.heap.size := (HR.out.behind HBr.out).wlt HTR.out
      have HS := Lib.hid (fun (w' : World) (hz : Below wr.drew.heap.size wr.drew w') => show (w'.cell? ⟨x, 0, none⟩ = some (.int .i64 32) ∧ w'.cell? ⟨x, 1, none⟩ = some (.slice (some ⟨g1, 0, none⟩) nv cv) ∧ w'.cell? ⟨x, 2, none⟩ = some (.slice v2.a v2.n v2.c) ∧ w'.cell? ⟨x, 3, none⟩ = some (.slice v3.a v3.n v3.c) ∧ w'.cell? ⟨x, 4, none⟩ = some (.slice v4.a v4.n v4.c) ∧ w'.cell? ⟨y, 0, none⟩ = some (.int .i64 i) ∧ w'.cell? ⟨y, 1, none⟩ = some (.int .i64 g) ∧ w'.cell? ⟨tt, j * 2, none⟩ = some (.int .i64 k)) from by
        have c := fun (b o : Nat) (h : b < wr.heap.size) => below_cell (w := wr.drew) hz (b := b) (by exact h) o
        exact ⟨(c _ _ xl).trans x0, (c _ _ xl).trans x1, (c _ _ xl).trans x2, (c _ _ xl).trans x3, (c _ _ xl).trans x4, (c _ _ yl).trans yy0, (c _ _ yl).trans yy1, (c _ _ zl).trans z0⟩)
      have HC := Lib.hid (rv_no HF.out ((HR.out.behind HBr.out).behind (below_drew (Below.refl _ wr))) HO.out hb)
      have HE : Hid ((L.take (j + 1)).filter (fun x => P x.1) = (L.take j).filter (fun x => P x.1)) := Lib.hid (by rw [HSEL.out, HP.out]; simp)
      go_wp2_with fail
      refine wp_region_held_drew (S := fun w' => w'.cell? ⟨x, 0, none⟩ = some (.int .i64 32) ∧ w'.cell? ⟨x, 1, none⟩ = some (.slice (some ⟨g1, 0, none⟩) nv cv) ∧ w'.cell? ⟨x, 2, none⟩ = some (.slice v2.a v2.n v2.c) ∧ w'.cell? ⟨x, 3, none⟩ = some (.slice v3.a v3.n v3.c) ∧ w'.cell? ⟨x, 4, none⟩ = some (.slice v4.a v4.n v4.c) ∧ w'.cell? ⟨y, 0, none⟩ = some (.int .i64 i) ∧ w'.cell? ⟨y, 1, none⟩ = some (.int .i64 g) ∧ w'.cell? ⟨tt, j * 2, none⟩ = some (.int .i64 k)) (by kernel_rfl) (by exact ⟨x0, x1, x2, x3, x4, yy0, yy1, z0⟩) (fun hHeld => ?_)
      refine wpAnyH_take (i := 0) (v := ?_) rfl (by kernel_rfl) (by kernel_rfl) (by kernel_rfl) (fun _ _ _ h => h) (Or.inl ⟨by rfl, ?_⟩) (by assumption) ?_
      rotate_left
      · intro w hSw
        (try dsimp only at hSw)
        go_simp
        (first | done | with_reducible rfl)
      simp only [Act.put, List.setIfInBounds_toArray, List.set_cons_zero, List.set_cons_succ, List.getElem_toArray, List.getElem_cons_zero]
      refine wpAnyH_take (i := 1) (v := ?_) rfl (by kernel_rfl) (by kernel_rfl) (by kernel_rfl) (fun _ _ _ h => h) (Or.inl ⟨by rfl, ?_⟩) (by assumption) ?_
      rotate_left
      · intro w hSw
        (try dsimp only at hSw)
        go_simp
        (first | done | with_reducible rfl)
      simp only [Act.put, List.setIfInBounds_toArray, List.set_cons_zero, List.set_cons_succ, List.getElem_toArray, List.getElem_cons_succ, List.getElem_cons_zero]
      refine wpAnyH_take (i := 2) (v := ?_) rfl (by kernel_rfl) (by kernel_rfl) (by kernel_rfl) (fun _ _ _ h => h) (Or.inl ⟨by rfl, ?_⟩) (by assumption) ?_
      rotate_left
      · intro w hSw
        (try dsimp only at hSw)
        go_simp
        (first | done | with_reducible rfl)
      simp only [Act.put, List.setIfInBounds_toArray, List.set_cons_zero, List.set_cons_succ, List.getElem_toArray, List.getElem_cons_succ, List.getElem_cons_zero]
      refine wpAnyH_ready (rs := [3]) (by kernel_rfl) (by simp) ?_
      refine AllReadyH.cons rfl (fun K hK => ?_) AllReadyH.nil
      go_simp
      go_at_call 43
      refine HC.out.mono ?_
      rintro e w2 ⟨rfl, hz2⟩
      have hS2 := HS.out w2 hz2
      go_wp2_with fail
      refine hK.out _ _ (by exact hS2) (fun hHeld => ?_)
      clear hK K
      (try simp only [Act.put, List.setIfInBounds_toArray, List.set_cons_zero, List.set_cons_succ, List.getElem_toArray, List.getElem_cons_succ, List.getElem_cons_zero])
      refine wpAnyH_take (i := 4) (v := ?_) rfl (by kernel_rfl) (by kernel_rfl) (by kernel_rfl) (fun _ _ _ h => h) (Or.inl ⟨by rfl, ?_⟩) (by assumption) ?_
      rotate_left
      · intro w hSw
        (try dsimp only at hSw)
        go_simp
        (first | done | with_reducible rfl)
      simp only [Act.put, List.setIfInBounds_toArray, List.set_cons_zero, List.set_cons_succ, List.getElem_toArray, List.getElem_cons_succ, List.getElem_cons_zero]
      refine wpAnyH_take (i := 5) (v := undef) rfl (by kernel_rfl) (by kernel_rfl) (by kernel_rfl) (fun _ _ _ h => h) (Or.inr ⟨by rfl, rfl⟩) (by assumption) ?_
      simp only [Act.put, List.setIfInBounds_toArray, List.set_cons_zero, List.set_cons_succ, List.getElem_toArray, List.getElem_cons_succ, List.getElem_cons_zero]
      refine wpAnyH_take (i := 6) (v := undef) rfl (by kernel_rfl) (by kernel_rfl) (by kernel_rfl) (fun _ _ _ h => h) (Or.inr ⟨by rfl, rfl⟩) (by assumption) ?_
      simp only [Act.put, List.setIfInBounds_toArray, List.set_cons_zero, List.set_cons_succ, List.getElem_toArray, List.getElem_cons_succ, List.getElem_cons_zero]
      refine wpAnyH_take (i := 7) (v := undef) rfl (by kernel_rfl) (by kernel_rfl) (by kernel_rfl) (fun _ _ _ h => h) (Or.inr ⟨by rfl, rfl⟩) (by assumption) ?_
      simp only [Act.put, List.setIfInBounds_toArray, List.set_cons_zero, List.set_cons_succ, List.getElem_toArray, List.getElem_cons_succ, List.getElem_cons_zero]
      refine wpAnyH_take (i := 8) (v := undef) rfl (by kernel_rfl) (by kernel_rfl) (by kernel_rfl) (fun _ _ _ h => h) (Or.inr ⟨by rfl, rfl⟩) (by assumption) ?_
      simp only [Act.put, List.setIfInBounds_toArray, List.set_cons_zero, List.set_cons_succ, List.getElem_toArray, List.getElem_cons_succ, List.getElem_cons_zero]
      refine wpAnyH_take (i := 9) (v := undef) rfl (by kernel_rfl) (by kernel_rfl) (by kernel_rfl) (fun _ _ _ h => h) (Or.inr ⟨by rfl, rfl⟩) (by assumption) ?_
      simp only [Act.put, List.setIfInBounds_toArray, List.set_cons_zero, List.set_cons_succ, List.getElem_toArray, List.getElem_cons_succ, List.getElem_cons_zero]
      refine wpAnyH_take (i := 10) (v := undef) rfl (by kernel_rfl) (by kernel_rfl) (by kernel_rfl) (fun _ _ _ h => h) (Or.inr ⟨by rfl, rfl⟩) (by assumption) ?_
      simp only [Act.put, List.setIfInBounds_toArray, List.set_cons_zero, List.set_cons_succ, List.getElem_toArray, List.getElem_cons_succ, List.getElem_cons_zero]
      refine wpAnyH_take (i := 11) (v := undef) rfl (by kernel_rfl) (by kernel_rfl) (by kernel_rfl) (fun _ _ _ h => h) (Or.inr ⟨by rfl, rfl⟩) (by assumption) ?_
      simp only [Act.put, List.setIfInBounds_toArray, List.set_cons_zero, List.set_cons_succ, List.getElem_toArray, List.getElem_cons_succ, List.getElem_cons_zero]
      refine wpAnyH_take (i := 12) (v := undef) rfl (by kernel_rfl) (by kernel_rfl) (by kernel_rfl) (fun _ _ _ h => h) (Or.inr ⟨by rfl, rfl⟩) (by assumption) ?_
      simp only [Act.put, List.setIfInBounds_toArray, List.set_cons_zero, List.set_cons_succ, List.getElem_toArray, List.getElem_cons_succ, List.getElem_cons_zero]
      refine wpAnyH_take (i := 13) (v := undef) rfl (by kernel_rfl) (by kernel_rfl) (by kernel_rfl) (fun _ _ _ h => h) (Or.inr ⟨by rfl, rfl⟩) (by assumption) ?_
      simp only [Act.put, List.setIfInBounds_toArray, List.set_cons_zero, List.set_cons_succ, List.getElem_toArray, List.getElem_cons_succ, List.getElem_cons_zero]
      refine wpAnyH_take (i := 14) (v := ?_) rfl (by kernel_rfl) (by kernel_rfl) (by kernel_rfl) (fun _ _ _ h => h) (Or.inl ⟨by rfl, ?_⟩) (by assumption) ?_
      rotate_left
      · intro w hSw
        (try dsimp only at hSw)
        go_simp
        (first | done | with_reducible rfl)
      simp only [Act.put, List.setIfInBounds_toArray, List.set_cons_zero, List.set_cons_succ, List.getElem_toArray, List.getElem_cons_succ, List.getElem_cons_zero]
      refine wpAnyH_done (by kernel_rfl) ?_ _
      have HBw := Lib.hid (below_undrew hz2)
      have HR3 := Lib.hid (ownsRow_below HRW.out HBw.out)
      have HB3 := Lib.hid (below_trans HBR.out HBw.out HBR.out.size)
      have hz13 := HB3.out.size
      have hS := HS.out _ hz2
      clear hz2 hS2 x0 x1 x2 x3 x4 yy0 yy1 z0 z1 xl yl zl gl hkc
      have z0 := hS.2.2.2.2.2.2.2
      have HR1w := Lib.hid (ownsRow_below HR1.out HB3.out)
      clear hS z0
      obtain ⟨z0, z1, zl⟩ := hcl_cell HR1w.out j k q.gen HKG.out hjn
      go_wp2_with fail
      go_roundg (N - (j + 1))
      case measure => have := HGN.out; omega
      case rel => exact ⟨j + 1, m, ar, cr, rfl, by go_num, by omega, Nat.le_refl _, by omega, by rw [HE.out]; exact HM2.out, by rw [HE.out]; exact HR3.out, HB3.out⟩
    · have hjN : j = N := by omega
      subst hjN
      go_wp2
      go_ret
      have hf := HRW.out
      have hm := HM2.out
      have ht : L.take j = L := by rw [HN.out, List.take_length]
      rw [ht] at hf hm
      subst hm
      exact ⟨ar, cr, rfl, row_base hf HB.out.size, below_trans HB.out HBR.out HB.out.size⟩
set_option maxHeartbeats 4000000 in
set_option maxRecDepth 100000 in
theorem runder_some (b : Nat) (w : World) (s : Ps) (v1 v2 v3 v4 : Sv) (h : RfV w 32 s v1 v2 v3 v4) (ho : s.Ok 32 b) (hb : b ≤ 1000) (htr : Tr s.l) (jh : Nat) (qh : Pl) (hj1 : s.l[jh]? = some qh) (hj2 : qh.used = true) :
    Calls Try.prog 48 #[.agg (vcl 32 v1 v2 v3 v4), .agg #[.int .i64 jh, .int .i64 qh.gen]] w fun e w' => ∃ a c, e = .returned (.slice a (selL s.l (belP s jh qh.gen)).length c) ∧ w'.ownsRow w.heap.size 30 2 (.slice a (selL s.l (belP s jh qh.gen)).length c) (selL s.l (belP s jh qh.gen)).length (hcl (selL s.l (belP s jh qh.gen))) ∧ Below w.heap.size w w' := by
  obtain ⟨i0, hi, hq0, hq1, hq2⟩ := info_parts rinfo_handle
  obtain ⟨g1, e1, hg, hw⟩ := h.words htr
  obtain ⟨av, nv, cv⟩ := v1
  simp only at e1 hw
  subst e1
  have hf : s.find jh qh.gen = some jh := (find_of hj1 hj2).1
  have HQJ := Lib.hid (And.intro hj1 hj2)
  have HR := Lib.hid h; have HO := Lib.hid ho; have HTR := Lib.hid htr; have HF := Lib.hid hf; have HW := Lib.hid hw
  have hln := allL_len s.l
  have hlo := (ho.lo hb).1
  obtain ⟨L, hL⟩ : ∃ L, L = allL s.l := ⟨_, rfl⟩
  have hM : ∀ k g, (k, g) ∈ L → ∃ q, s.l[k]? = some q ∧ q.used = true ∧ q.gen = g := by rw [hL]; exact fun k g => allL_mem
  have HM := Lib.hid hM
  have HA := Lib.hid (fun (W : World) h => rv_all b W 32 s ⟨some ⟨g1, 0, none⟩, nv, cv⟩ v2 v3 v4 h ho hb)
  unfold selL
  rw [← hL] at HA hln ⊢
  have hl1 : L.length ≤ 1000 := by omega
  generalize hP : (belP s jh qh.gen) = P
  have HP : Hid (∀ k, Usd s.l k → P k = und s.l k jh) := Lib.hid (by
    intro k hk
    rw [← hP]
    unfold belP; rw [hf])
  generalize hg' : qh.gen = g at *
  have HG := Lib.hid hg'
  clear hj1 hj2 hP hg' 
  clear h ho htr hf hw hM hL hln hlo
  go_enter Try.func48, Try.ntmps48
  go_upto_region 1 with (fail)
  obtain ⟨w0, hw0⟩ : ∃ w0, w0 = (w.alloc (ubox ⟨some ⟨g1, 0, none⟩, nv, cv⟩ v2 v3 v4)).alloc (hbox jh g) := ⟨_, rfl⟩
  have HX : Hid (Ux w0 w.heap.size (vcl 32 ⟨some ⟨g1, 0, none⟩, nv, cv⟩ v2 v3 v4)) := Lib.hid (by rw [hw0]; exact (Ux.new w _).alloc _)
  have HY : Hid (Hx w0 (w.heap.size + 1) jh g) := Lib.hid (by rw [hw0]; exact Hx.new1 w _ _ _)
  have HB : Hid (Below w.heap.size w w0) := Lib.hid (by rw [hw0]; exact (below_alloc w _).alloc (by simp) _)
  rw [← hw0]
  clear hw0
  obtain ⟨x, hx⟩ : ∃ x, x = w.heap.size := ⟨_, rfl⟩
  obtain ⟨y, hy⟩ : ∃ y, y = w.heap.size + 1 := ⟨_, rfl⟩
  rw [← hy, ← hx]
  rw [← hx] at HX; rw [← hy] at HY
  clear hx hy
  obtain ⟨x0, x1, x2, x3, x4⟩ := HX.out.c5
  have xl := HX.out.lt
  go_wp2_with fail
  refine (HA.out _ (HR.out.behind HB.out)).mono ?_
  rintro e w1 ⟨a1, cc1, rfl, hr1, hz1⟩
  have HR1 := Lib.hid hr1
  replace HB := Lib.hid (below_trans HB.out hz1 HB.out.size)
  replace HX := Lib.hid (HX.out.behind hz1)
  replace HY := Lib.hid (HY.out.behind hz1)
  clear hr1 hz1 x0 x1 x2 x3 x4 xl
  obtain ⟨N, hN⟩ : ∃ N, N = L.length := ⟨_, rfl⟩
  rw [← hN] at HR1 hl1 ⊢
  have HN := Lib.hid hN
  clear hN HA
  go_wp2_with fail
  go_loopg [6, 7] N (fun n vl vi wr => ∃ (j m : Nat) (ar : Option Addr) (cr : Nat), vl = .slice ar m cr ∧ vi = .int .i64 j ∧ j ≤ N ∧ N - j ≤ n ∧ m ≤ j ∧ m = ((L.take j).filter (fun x => P x.1)).length ∧ wr.ownsRow w1.heap.size 30 2 (.slice ar m cr) m (hcl ((L.take j).filter (fun x => P x.1))) ∧ Below w1.heap.size w1 wr)
  case atStart => exact ⟨0, 0, none, 0, rfl, rfl, by omega, by omega, by omega, by simp, by simpa [hcl] using World.ownsRow_nil _ _ _ _, Below.refl _ _⟩
  case round =>
    obtain ⟨j, m, ar, cr, rfl, rfl, hj, hn, hmj, hm, hrow, hbr⟩ := hrel
    have HM2 := Lib.hid hm; have HRW := Lib.hid hrow; have HBR := Lib.hid hbr; have HGN := Lib.hid hn
    clear hm hrow hbr hn
    by_cases hjn : j < N
    · obtain ⟨kg, hkg⟩ : ∃ kg, L[j]? = some kg := ⟨_, List.getElem?_eq_getElem (by have := HN.out; omega)⟩
      obtain ⟨k, gk⟩ := kg
      obtain ⟨q, hq1', hq2', hq3'⟩ := HM.out k gk (List.mem_of_getElem? hkg)
      subst hq3'
      obtain ⟨tt, rfl⟩ := hrow_some HR1.out (by omega)
      have HR1r := Lib.hid (ownsRow_below HR1.out HBR.out)
      obtain ⟨z0, z1, zl⟩ := hcl_cell HR1r.out j k q.gen hkg hjn
      have hsel : (L.take (j + 1)).filter (fun x => P x.1) = (L.take j).filter (fun x => P x.1) ++ (if P k = true then [(k, q.gen)] else []) := by
        have hjl : j < L.length := (List.getElem?_eq_some_iff.1 hkg).1
        have e : L[j] = (k, q.gen) := by have := List.getElem?_eq_getElem hjl; rw [hkg] at this; simpa using this.symm
        rw [← List.take_append_getElem hjl, List.filter_append, e]
        cases hP : P k <;> simp [hP]
      have HSEL := Lib.hid hsel
      have HQ := Lib.hid (show Usd s.l k from ⟨q, hq1', hq2'⟩)
      have HBr := Lib.hid (below_trans HB.out HBR.out HB.out.size)
      have HXr := Lib.hid (HX.out.behind HBR.out)
      have HYr := Lib.hid (HY.out.behind HBR.out)
      have HKG := Lib.hid hkg
      obtain ⟨hkn, hkc⟩ := HW.out wr HBr.out k HQ.out
      clear hsel hkg hq1' hq2'
      obtain ⟨x0, x1, x2, x3, x4⟩ := HXr.out.c5
      obtain ⟨yy0, yy1⟩ := HYr.out.c2
      have xl := HXr.out.lt
      have yl := HYr.out.lt
      have gl : g1 < wr.heap.size := (HR.out.behind HBr.out).wlt HTR.out
      have HS := Lib.hid (fun (w' : World) (hz : Below wr.drew.heap.size wr.drew w') => show (w'.cell? ⟨x, 0, none⟩ = some (.int .i64 32) ∧ w'.cell? ⟨x, 1, none⟩ = some (.slice (some ⟨g1, 0, none⟩) nv cv) ∧ w'.cell? ⟨x, 2, none⟩ = some (.slice v2.a v2.n v2.c) ∧ w'.cell? ⟨x, 3, none⟩ = some (.slice v3.a v3.n v3.c) ∧ w'.cell? ⟨x, 4, none⟩ = some (.slice v4.a v4.n v4.c) ∧ w'.cell? ⟨y, 0, none⟩ = some (.int .i64 jh) ∧ w'.cell? ⟨y, 1, none⟩ = some (.int .i64 g) ∧ w'.cell? ⟨tt, j * 2, none⟩ = some (.int .i64 k)) from by
        have c := fun (b o : Nat) (h : b < wr.heap.size) => below_cell (w := wr.drew) hz (b := b) (by exact h) o
        exact ⟨(c _ _ xl).trans x0, (c _ _ xl).trans x1, (c _ _ xl).trans x2, (c _ _ xl).trans x3, (c _ _ xl).trans x4, (c _ _ yl).trans yy0, (c _ _ yl).trans yy1, (c _ _ zl).trans z0⟩)
      have HC := Lib.hid (rv_yes HF.out ((HR.out.behind HBr.out).behind (below_drew (Below.refl _ wr))) HO.out hb)
      have HD := Lib.hid (fun (W : World) h => rbelow_any k jh b W s ⟨some ⟨g1, 0, none⟩, nv, cv⟩ v2 v3 v4 h HO.out hb HTR.out HQ.out)
      have hpk := HP.out k HQ.out
      rw [← hpk] at HD
      clear hpk
      cases hPk : P k
      · have HE : Hid ((L.take (j + 1)).filter (fun x => P x.1) = (L.take j).filter (fun x => P x.1)) := Lib.hid (by rw [HSEL.out, hPk]; simp)
        rw [hPk] at HD
        clear hPk
        go_wp2_with fail
        go_region_held3 (fun w' => w'.cell? ⟨x, 0, none⟩ = some (.int .i64 32) ∧ w'.cell? ⟨x, 1, none⟩ = some (.slice (some ⟨g1, 0, none⟩) nv cv) ∧ w'.cell? ⟨x, 2, none⟩ = some (.slice v2.a v2.n v2.c) ∧ w'.cell? ⟨x, 3, none⟩ = some (.slice v3.a v3.n v3.c) ∧ w'.cell? ⟨x, 4, none⟩ = some (.slice v4.a v4.n v4.c) ∧ w'.cell? ⟨y, 0, none⟩ = some (.int .i64 jh) ∧ w'.cell? ⟨y, 1, none⟩ = some (.int .i64 g) ∧ w'.cell? ⟨tt, j * 2, none⟩ = some (.int .i64 k))
          (first | exact ⟨x0, x1, x2, x3, x4, yy0, yy1, z0⟩ | assumption)
          (first | (go_at_call 43; refine HC.out.mono ?_; rintro e w2 ⟨rfl, hz2⟩; have hS2 := HS.out w2 hz2) | (go_at_call 47; refine (HD.out _ (((HR.out.behind HBr.out).behind (below_drew (Below.refl _ wr))).behind hz2)).mono ?_; rintro e w3 ⟨rfl, hz3⟩; have hz3 := below_trans hz2 hz3 hz2.size; have hS3 := HS.out w3 hz3))
        have HBw := Lib.hid (below_undrew hz3)
        have HR3 := Lib.hid (ownsRow_below HRW.out HBw.out)
        have HB3 := Lib.hid (below_trans HBR.out HBw.out HBR.out.size)
        have hz13 := HB3.out.size
        have hS := HS.out _ hz3
        clear hz3 hz2 hS2 hS3 x0 x1 x2 x3 x4 yy0 yy1 z0 z1 xl yl zl gl hkc
        have z0 := hS.2.2.2.2.2.2.2
        have HR1w := Lib.hid (ownsRow_below HR1.out HB3.out)
        clear hS z0
        obtain ⟨z0, z1, zl⟩ := hcl_cell HR1w.out j k q.gen HKG.out hjn
        go_wp2_with fail
        go_roundg (N - (j + 1))
        case measure => have := HGN.out; omega
        case rel => exact ⟨j + 1, m, ar, cr, rfl, by go_num, by omega, Nat.le_refl _, by omega, by rw [HE.out]; exact HM2.out, by rw [HE.out]; exact HR3.out, HB3.out⟩
      · have HE : Hid ((L.take (j + 1)).filter (fun x => P x.1) = (L.take j).filter (fun x => P x.1) ++ [(k, q.gen)]) := Lib.hid (by rw [HSEL.out, hPk]; simp)
        rw [hPk] at HD
        clear hPk
        go_wp2_with fail
        go_region_held3 (fun w' => w'.cell? ⟨x, 0, none⟩ = some (.int .i64 32) ∧ w'.cell? ⟨x, 1, none⟩ = some (.slice (some ⟨g1, 0, none⟩) nv cv) ∧ w'.cell? ⟨x, 2, none⟩ = some (.slice v2.a v2.n v2.c) ∧ w'.cell? ⟨x, 3, none⟩ = some (.slice v3.a v3.n v3.c) ∧ w'.cell? ⟨x, 4, none⟩ = some (.slice v4.a v4.n v4.c) ∧ w'.cell? ⟨y, 0, none⟩ = some (.int .i64 jh) ∧ w'.cell? ⟨y, 1, none⟩ = some (.int .i64 g) ∧ w'.cell? ⟨tt, j * 2, none⟩ = some (.int .i64 k))
          (first | exact ⟨x0, x1, x2, x3, x4, yy0, yy1, z0⟩ | assumption)
          (first | (go_at_call 43; refine HC.out.mono ?_; rintro e w2 ⟨rfl, hz2⟩; have hS2 := HS.out w2 hz2) | (go_at_call 47; refine (HD.out _ (((HR.out.behind HBr.out).behind (below_drew (Below.refl _ wr))).behind hz2)).mono ?_; rintro e w3 ⟨rfl, hz3⟩; have hz3 := below_trans hz2 hz3 hz2.size; have hS3 := HS.out w3 hz3))
        have HBw := Lib.hid (below_undrew hz3)
        have HR3 := Lib.hid (ownsRow_below HRW.out HBw.out)
        have HB3 := Lib.hid (below_trans HBR.out HBw.out HBR.out.size)
        have hz13 := HB3.out.size
        have hS := HS.out _ hz3
        clear hz3 hz2 hS2 hS3 x0 x1 x2 x3 x4 yy0 yy1 z0 z1 xl yl zl gl hkc
        have z0 := hS.2.2.2.2.2.2.2
        have HR1w := Lib.hid (ownsRow_below HR1.out HB3.out)
        clear hS z0
        obtain ⟨z0, z1, zl⟩ := hcl_cell HR1w.out j k q.gen HKG.out hjn
        go_wp2_with (at_builtin; go_loud (refine wpList_append_own _ rfl _ _ 26 rfl w1.heap.size 30 i0 (.agg #[.int .i64 0, .int .i64 0]) 2 16 Try.underlying26 hi hq0 hq1 hq2 rfl (by decide) _ m (hcl ((L.take j).filter (fun x => P x.1))) rfl (HR3.out.alloc _) ⟨w3.heap.size, 0, none⟩ 1 1 [.int .i64 k, .int .i64 q.gen] rfl rfl ?c1 ?c2 ?c3 ?c4 ?c5 ?_))
        case c1 =>
          intro jj u hj'
          have hj0 : jj = 0 ∨ jj = 1 := by have := (List.getElem?_eq_some_iff.1 hj').1; simp at this; omega
          rcases hj0 with rfl | rfl
          · simp at hj'
            subst hj'
            simp [go_sem]
          · simp at hj'
            subst hj'
            simp [go_sem]
        case c2 => intro u hu; simp at hu; rcases hu with rfl | rfl <;> rfl
        case c3 => unfold maxLen; omega
        case c4 => omega
        case c5 => simp; omega
        intro v6 w6 hown6 hgrow6 _
        have HR6 : Hid (w6.ownsRow w1.heap.size 30 2 v6 (m + 1) (hcl ((L.take (j + 1)).filter (fun x => P x.1)))) := Lib.hid (by rw [HE.out, ← hcl_app]; exact hown6)
        have HB6 := Lib.hid (Below.grown (HB3.out.alloc hz13 (.cells #[.int .i64 k, .int .i64 q.gen] 30)) hgrow6 (by simp; omega) (fun kk hk' => (HR3.out.lt kk hk').1))
        obtain ⟨a6, c6, rfl⟩ := hrow_nil hown6
        clear hown6 hgrow6
        go_wp2_with fail
        go_roundg (N - (j + 1))
        case measure => have := HGN.out; omega
        case rel => exact ⟨j + 1, m + 1, a6, c6, rfl, by go_num, by omega, Nat.le_refl _, by omega, by rw [HE.out, List.length_append, ← HM2.out]; rfl, HR6.out, HB6.out⟩
    · have hjN : j = N := by omega
      subst hjN
      go_wp2
      go_ret
      have hf := HRW.out
      have hm := HM2.out
      have ht : L.take j = L := by rw [HN.out, List.take_length]
      rw [ht] at hf hm
      subst hm
      exact ⟨ar, cr, rfl, row_base hf HB.out.size, below_trans HB.out HBR.out HB.out.size⟩
theorem runder_any (i g : Int) (b : Nat) (w : World) (s : Ps) (v1 v2 v3 v4 : Sv) (h : RfV w 32 s v1 v2 v3 v4) (ho : s.Ok 32 b) (hb : b ≤ 1000) (htr : Tr s.l) :
    Calls Try.prog 48 #[.agg (vcl 32 v1 v2 v3 v4), .agg #[.int .i64 i, .int .i64 g]] w fun e w' => ∃ a c, e = .returned (.slice a (selL s.l (belP s i g)).length c) ∧ w'.ownsRow w.heap.size 30 2 (.slice a (selL s.l (belP s i g)).length c) (selL s.l (belP s i g)).length (hcl (selL s.l (belP s i g))) ∧ Below w.heap.size w w' := by
  cases hk : s.find i g with
  | none =>
    have hP : belP s i g = fun _ => false := by unfold belP; rw [hk]
    rw [hP]
    exact runder_none b w s v1 v2 v3 v4 h ho hb htr i g hk
  | some j =>
    obtain ⟨qj, rfl, hj1, hj2, rfl, _, _⟩ := find_some hk
    exact runder_some b w s v1 v2 v3 v4 h ho hb htr j qj hj1 hj2
set_option maxHeartbeats 4000000 in
set_option maxRecDepth 100000 in
theorem rkids_none (b : Nat) (w : World) (s : Ps) (v1 v2 v3 v4 : Sv) (h : RfV w 32 s v1 v2 v3 v4) (ho : s.Ok 32 b) (hb : b ≤ 1000) (htr : Tr s.l) (i g : Int) (hf : s.find i g = none) :
    Calls Try.prog 45 #[.agg (vcl 32 v1 v2 v3 v4), .agg #[.int .i64 i, .int .i64 g]] w fun e w' => ∃ a c, e = .returned (.slice a (selL s.l (fun _ => false)).length c) ∧ w'.ownsRow w.heap.size 30 2 (.slice a (selL s.l (fun _ => false)).length c) (selL s.l (fun _ => false)).length (hcl (selL s.l (fun _ => false))) ∧ Below w.heap.size w w' := by
  obtain ⟨i0, hi, hq0, hq1, hq2⟩ := info_parts rinfo_handle
  obtain ⟨g1, e1, hg, hw⟩ := h.words htr
  obtain ⟨av, nv, cv⟩ := v1
  simp only at e1 hw
  subst e1
  have HR := Lib.hid h; have HO := Lib.hid ho; have HTR := Lib.hid htr; have HF := Lib.hid hf; have HW := Lib.hid hw
  have hln := allL_len s.l
  have hlo := (ho.lo hb).1
  obtain ⟨L, hL⟩ : ∃ L, L = allL s.l := ⟨_, rfl⟩
  have hM : ∀ k g, (k, g) ∈ L → ∃ q, s.l[k]? = some q ∧ q.used = true ∧ q.gen = g := by rw [hL]; exact fun k g => allL_mem
  have HM := Lib.hid hM
  have HA := Lib.hid (fun (W : World) h => rv_all b W 32 s ⟨some ⟨g1, 0, none⟩, nv, cv⟩ v2 v3 v4 h ho hb)
  unfold selL
  rw [← hL] at HA hln ⊢
  have hl1 : L.length ≤ 1000 := by omega
  generalize hP : (fun _ : Nat => false) = P
  have HP : Hid (∀ k, P k = false) := Lib.hid (by rw [← hP]; intro k; rfl)
  clear hP
  clear h ho htr hf hw hM hL hln hlo
  go_enter Try.func45, Try.ntmps45
  go_upto_region 1 with (fail)
  obtain ⟨w0, hw0⟩ : ∃ w0, w0 = (w.alloc (ubox ⟨some ⟨g1, 0, none⟩, nv, cv⟩ v2 v3 v4)).alloc (hbox i g) := ⟨_, rfl⟩
  have HX : Hid (Ux w0 w.heap.size (vcl 32 ⟨some ⟨g1, 0, none⟩, nv, cv⟩ v2 v3 v4)) := Lib.hid (by rw [hw0]; exact (Ux.new w _).alloc _)
  have HY : Hid (Hx w0 (w.heap.size + 1) i g) := Lib.hid (by rw [hw0]; exact Hx.new1 w _ _ _)
  have HB : Hid (Below w.heap.size w w0) := Lib.hid (by rw [hw0]; exact (below_alloc w _).alloc (by simp) _)
  rw [← hw0]
  clear hw0
  obtain ⟨x, hx⟩ : ∃ x, x = w.heap.size := ⟨_, rfl⟩
  obtain ⟨y, hy⟩ : ∃ y, y = w.heap.size + 1 := ⟨_, rfl⟩
  rw [← hy, ← hx]
  rw [← hx] at HX; rw [← hy] at HY
  clear hx hy
  obtain ⟨x0, x1, x2, x3, x4⟩ := HX.out.c5
  have xl := HX.out.lt
  go_wp2_with fail
  refine (HA.out _ (HR.out.behind HB.out)).mono ?_
  rintro e w1 ⟨a1, cc1, rfl, hr1, hz1⟩
  have HR1 := Lib.hid hr1
  replace HB := Lib.hid (below_trans HB.out hz1 HB.out.size)
  replace HX := Lib.hid (HX.out.behind hz1)
  replace HY := Lib.hid (HY.out.behind hz1)
  clear hr1 hz1 x0 x1 x2 x3 x4 xl
  obtain ⟨N, hN⟩ : ∃ N, N = L.length := ⟨_, rfl⟩
  rw [← hN] at HR1 hl1 ⊢
  have HN := Lib.hid hN
  clear hN HA
  go_wp2_with fail
  go_loopg [6, 7] N (fun n vl vi wr => ∃ (j m : Nat) (ar : Option Addr) (cr : Nat), vl = .slice ar m cr ∧ vi = .int .i64 j ∧ j ≤ N ∧ N - j ≤ n ∧ m ≤ j ∧ m = ((L.take j).filter (fun x => P x.1)).length ∧ wr.ownsRow w1.heap.size 30 2 (.slice ar m cr) m (hcl ((L.take j).filter (fun x => P x.1))) ∧ Below w1.heap.size w1 wr)
  case atStart => exact ⟨0, 0, none, 0, rfl, rfl, by omega, by omega, by omega, by simp, by simpa [hcl] using World.ownsRow_nil _ _ _ _, Below.refl _ _⟩
  case round =>
    obtain ⟨j, m, ar, cr, rfl, rfl, hj, hn, hmj, hm, hrow, hbr⟩ := hrel
    have HM2 := Lib.hid hm; have HRW := Lib.hid hrow; have HBR := Lib.hid hbr; have HGN := Lib.hid hn
    clear hm hrow hbr hn
    by_cases hjn : j < N
    · obtain ⟨kg, hkg⟩ : ∃ kg, L[j]? = some kg := ⟨_, List.getElem?_eq_getElem (by have := HN.out; omega)⟩
      obtain ⟨k, gk⟩ := kg
      obtain ⟨q, hq1', hq2', hq3'⟩ := HM.out k gk (List.mem_of_getElem? hkg)
      subst hq3'
      obtain ⟨tt, rfl⟩ := hrow_some HR1.out (by omega)
      have HR1r := Lib.hid (ownsRow_below HR1.out HBR.out)
      obtain ⟨z0, z1, zl⟩ := hcl_cell HR1r.out j k q.gen hkg hjn
      have hsel : (L.take (j + 1)).filter (fun x => P x.1) = (L.take j).filter (fun x => P x.1) ++ (if P k = true then [(k, q.gen)] else []) := by
        have hjl : j < L.length := (List.getElem?_eq_some_iff.1 hkg).1
        have e : L[j] = (k, q.gen) := by have := List.getElem?_eq_getElem hjl; rw [hkg] at this; simpa using this.symm
        rw [← List.take_append_getElem hjl, List.filter_append, e]
        cases hP : P k <;> simp [hP]
      have HSEL := Lib.hid hsel
      have HQ := Lib.hid (show Usd s.l k from ⟨q, hq1', hq2'⟩)
      have HBr := Lib.hid (below_trans HB.out HBR.out HB.out.size)
      have HXr := Lib.hid (HX.out.behind HBR.out)
      have HYr := Lib.hid (HY.out.behind HBR.out)
      have HKG := Lib.hid hkg
      obtain ⟨hkn, hkc⟩ := HW.out wr HBr.out k HQ.out
      clear hsel hkg hq1' hq2'
      obtain ⟨x0, x1, x2, x3, x4⟩ := HXr.out.c5
      obtain ⟨yy0, yy1⟩ := HYr.out.c2
      have xl := HXr.out.lt
      have yl := HYr.out.lt
      have gl : g1 < wr.heap.size := (HR.out.behind HBr.out).wlt HTR.out
      generalize hwk : wrd s.l k = wk at hkc
      have HWK := Lib.hid hwk
      clear hwk
      have k0 := hkc
      have HS := Lib.hid (fun (w' : World) (hz : Below wr.drew.heap.size wr.drew w') => show (w'.cell? ⟨x, 0, none⟩ = some (.int .i64 32) ∧ w'.cell? ⟨x, 1, none⟩ = some (.slice (some ⟨g1, 0, none⟩) nv cv) ∧ w'.cell? ⟨x, 2, none⟩ = some (.slice v2.a v2.n v2.c) ∧ w'.cell? ⟨x, 3, none⟩ = some (.slice v3.a v3.n v3.c) ∧ w'.cell? ⟨x, 4, none⟩ = some (.slice v4.a v4.n v4.c) ∧ w'.cell? ⟨y, 0, none⟩ = some (.int .i64 i) ∧ w'.cell? ⟨y, 1, none⟩ = some (.int .i64 g) ∧ w'.cell? ⟨tt, j * 2, none⟩ = some (.int .i64 k) ∧ w'.cell? ⟨g1, k, none⟩ = some (.int .i64 wk)) from by
        have c := fun (b o : Nat) (h : b < wr.heap.size) => below_cell (w := wr.drew) hz (b := b) (by exact h) o
        exact ⟨(c _ _ xl).trans x0, (c _ _ xl).trans x1, (c _ _ xl).trans x2, (c _ _ xl).trans x3, (c _ _ xl).trans x4, (c _ _ yl).trans yy0, (c _ _ yl).trans yy1, (c _ _ zl).trans z0, (c _ _ gl).trans k0⟩)
      have HC := Lib.hid (rv_no HF.out ((HR.out.behind HBr.out).behind (below_drew (Below.refl _ wr))) HO.out hb)
      have HE : Hid ((L.take (j + 1)).filter (fun x => P x.1) = (L.take j).filter (fun x => P x.1)) := Lib.hid (by rw [HSEL.out, HP.out]; simp)
      go_wp2_with fail
      refine wp_region_held_drew (S := fun w' => w'.cell? ⟨x, 0, none⟩ = some (.int .i64 32) ∧ w'.cell? ⟨x, 1, none⟩ = some (.slice (some ⟨g1, 0, none⟩) nv cv) ∧ w'.cell? ⟨x, 2, none⟩ = some (.slice v2.a v2.n v2.c) ∧ w'.cell? ⟨x, 3, none⟩ = some (.slice v3.a v3.n v3.c) ∧ w'.cell? ⟨x, 4, none⟩ = some (.slice v4.a v4.n v4.c) ∧ w'.cell? ⟨y, 0, none⟩ = some (.int .i64 i) ∧ w'.cell? ⟨y, 1, none⟩ = some (.int .i64 g) ∧ w'.cell? ⟨tt, j * 2, none⟩ = some (.int .i64 k) ∧ w'.cell? ⟨g1, k, none⟩ = some (.int .i64 wk)) (by kernel_rfl) (by exact ⟨x0, x1, x2, x3, x4, yy0, yy1, z0, k0⟩) (fun hHeld => ?_)
      refine wpAnyH_take (i := 0) (v := ?_) rfl (by kernel_rfl) (by kernel_rfl) (by kernel_rfl) (fun _ _ _ h => h) (Or.inl ⟨by rfl, ?_⟩) (by assumption) ?_
      rotate_left
      · intro w hSw
        (try dsimp only at hSw)
        go_simp
        (first | done | with_reducible rfl)
      simp only [Act.put, List.setIfInBounds_toArray, List.set_cons_zero, List.set_cons_succ, List.getElem_toArray, List.getElem_cons_zero]
      refine wpAnyH_take (i := 1) (v := ?_) rfl (by kernel_rfl) (by kernel_rfl) (by kernel_rfl) (fun _ _ _ h => h) (Or.inl ⟨by rfl, ?_⟩) (by assumption) ?_
      rotate_left
      · intro w hSw
        (try dsimp only at hSw)
        go_simp
        (first | done | with_reducible rfl)
      simp only [Act.put, List.setIfInBounds_toArray, List.set_cons_zero, List.set_cons_succ, List.getElem_toArray, List.getElem_cons_succ, List.getElem_cons_zero]
      refine wpAnyH_take (i := 2) (v := ?_) rfl (by kernel_rfl) (by kernel_rfl) (by kernel_rfl) (fun _ _ _ h => h) (Or.inl ⟨by rfl, ?_⟩) (by assumption) ?_
      rotate_left
      · intro w hSw
        (try dsimp only at hSw)
        go_simp
        (first | done | with_reducible rfl)
      simp only [Act.put, List.setIfInBounds_toArray, List.set_cons_zero, List.set_cons_succ, List.getElem_toArray, List.getElem_cons_succ, List.getElem_cons_zero]
      refine wpAnyH_ready (rs := [3]) (by kernel_rfl) (by simp) ?_
      refine AllReadyH.cons rfl (fun K hK => ?_) AllReadyH.nil
      go_simp
      go_at_call 43
      refine HC.out.mono ?_
      rintro e w2 ⟨rfl, hz2⟩
      have hS2 := HS.out w2 hz2
      go_wp2_with fail
      refine hK.out _ _ (by exact hS2) (fun hHeld => ?_)
      clear hK K
      (try simp only [Act.put, List.setIfInBounds_toArray, List.set_cons_zero, List.set_cons_succ, List.getElem_toArray, List.getElem_cons_succ, List.getElem_cons_zero])
      refine wpAnyH_take (i := 4) (v := ?_) rfl (by kernel_rfl) (by kernel_rfl) (by kernel_rfl) (fun _ _ _ h => h) (Or.inl ⟨by rfl, ?_⟩) (by assumption) ?_
      rotate_left
      · intro w hSw
        (try dsimp only at hSw)
        go_simp
        (first | done | with_reducible rfl)
      simp only [Act.put, List.setIfInBounds_toArray, List.set_cons_zero, List.set_cons_succ, List.getElem_toArray, List.getElem_cons_succ, List.getElem_cons_zero]
      refine wpAnyH_take (i := 5) (v := undef) rfl (by kernel_rfl) (by kernel_rfl) (by kernel_rfl) (fun _ _ _ h => h) (Or.inr ⟨by rfl, rfl⟩) (by assumption) ?_
      simp only [Act.put, List.setIfInBounds_toArray, List.set_cons_zero, List.set_cons_succ, List.getElem_toArray, List.getElem_cons_succ, List.getElem_cons_zero]
      refine wpAnyH_take (i := 6) (v := undef) rfl (by kernel_rfl) (by kernel_rfl) (by kernel_rfl) (fun _ _ _ h => h) (Or.inr ⟨by rfl, rfl⟩) (by assumption) ?_
      simp only [Act.put, List.setIfInBounds_toArray, List.set_cons_zero, List.set_cons_succ, List.getElem_toArray, List.getElem_cons_succ, List.getElem_cons_zero]
      refine wpAnyH_take (i := 7) (v := undef) rfl (by kernel_rfl) (by kernel_rfl) (by kernel_rfl) (fun _ _ _ h => h) (Or.inr ⟨by rfl, rfl⟩) (by assumption) ?_
      simp only [Act.put, List.setIfInBounds_toArray, List.set_cons_zero, List.set_cons_succ, List.getElem_toArray, List.getElem_cons_succ, List.getElem_cons_zero]
      refine wpAnyH_take (i := 8) (v := undef) rfl (by kernel_rfl) (by kernel_rfl) (by kernel_rfl) (fun _ _ _ h => h) (Or.inr ⟨by rfl, rfl⟩) (by assumption) ?_
      simp only [Act.put, List.setIfInBounds_toArray, List.set_cons_zero, List.set_cons_succ, List.getElem_toArray, List.getElem_cons_succ, List.getElem_cons_zero]
      refine wpAnyH_take (i := 9) (v := undef) rfl (by kernel_rfl) (by kernel_rfl) (by kernel_rfl) (fun _ _ _ h => h) (Or.inr ⟨by rfl, rfl⟩) (by assumption) ?_
      simp only [Act.put, List.setIfInBounds_toArray, List.set_cons_zero, List.set_cons_succ, List.getElem_toArray, List.getElem_cons_succ, List.getElem_cons_zero]
      refine wpAnyH_take (i := 10) (v := undef) rfl (by kernel_rfl) (by kernel_rfl) (by kernel_rfl) (fun _ _ _ h => h) (Or.inr ⟨by rfl, rfl⟩) (by assumption) ?_
      simp only [Act.put, List.setIfInBounds_toArray, List.set_cons_zero, List.set_cons_succ, List.getElem_toArray, List.getElem_cons_succ, List.getElem_cons_zero]
      refine wpAnyH_take (i := 11) (v := undef) rfl (by kernel_rfl) (by kernel_rfl) (by kernel_rfl) (fun _ _ _ h => h) (Or.inr ⟨by rfl, rfl⟩) (by assumption) ?_
      simp only [Act.put, List.setIfInBounds_toArray, List.set_cons_zero, List.set_cons_succ, List.getElem_toArray, List.getElem_cons_succ, List.getElem_cons_zero]
      refine wpAnyH_take (i := 12) (v := undef) rfl (by kernel_rfl) (by kernel_rfl) (by kernel_rfl) (fun _ _ _ h => h) (Or.inr ⟨by rfl, rfl⟩) (by assumption) ?_
      simp only [Act.put, List.setIfInBounds_toArray, List.set_cons_zero, List.set_cons_succ, List.getElem_toArray, List.getElem_cons_succ, List.getElem_cons_zero]
      refine wpAnyH_take (i := 13) (v := undef) rfl (by kernel_rfl) (by kernel_rfl) (by kernel_rfl) (fun _ _ _ h => h) (Or.inr ⟨by rfl, rfl⟩) (by assumption) ?_
      simp only [Act.put, List.setIfInBounds_toArray, List.set_cons_zero, List.set_cons_succ, List.getElem_toArray, List.getElem_cons_succ, List.getElem_cons_zero]
      refine wpAnyH_take (i := 14) (v := undef) rfl (by kernel_rfl) (by kernel_rfl) (by kernel_rfl) (fun _ _ _ h => h) (Or.inr ⟨by rfl, rfl⟩) (by assumption) ?_
      simp only [Act.put, List.setIfInBounds_toArray, List.set_cons_zero, List.set_cons_succ, List.getElem_toArray, List.getElem_cons_succ, List.getElem_cons_zero]
      refine wpAnyH_take (i := 15) (v := undef) rfl (by kernel_rfl) (by kernel_rfl) (by kernel_rfl) (fun _ _ _ h => h) (Or.inr ⟨by rfl, rfl⟩) (by assumption) ?_
      simp only [Act.put, List.setIfInBounds_toArray, List.set_cons_zero, List.set_cons_succ, List.getElem_toArray, List.getElem_cons_succ, List.getElem_cons_zero]
      refine wpAnyH_take (i := 16) (v := undef) rfl (by kernel_rfl) (by kernel_rfl) (by kernel_rfl) (fun _ _ _ h => h) (Or.inr ⟨by rfl, rfl⟩) (by assumption) ?_
      simp only [Act.put, List.setIfInBounds_toArray, List.set_cons_zero, List.set_cons_succ, List.getElem_toArray, List.getElem_cons_succ, List.getElem_cons_zero]
      refine wpAnyH_take (i := 17) (v := undef) rfl (by kernel_rfl) (by kernel_rfl) (by kernel_rfl) (fun _ _ _ h => h) (Or.inr ⟨by rfl, rfl⟩) (by assumption) ?_
      simp only [Act.put, List.setIfInBounds_toArray, List.set_cons_zero, List.set_cons_succ, List.getElem_toArray, List.getElem_cons_succ, List.getElem_cons_zero]
      refine wpAnyH_take (i := 18) (v := ?_) rfl (by kernel_rfl) (by kernel_rfl) (by kernel_rfl) (fun _ _ _ h => h) (Or.inl ⟨by rfl, ?_⟩) (by assumption) ?_
      rotate_left
      · intro w hSw
        (try dsimp only at hSw)
        go_simp
        (first | done | with_reducible rfl)
      simp only [Act.put, List.setIfInBounds_toArray, List.set_cons_zero, List.set_cons_succ, List.getElem_toArray, List.getElem_cons_succ, List.getElem_cons_zero]
      refine wpAnyH_done (by kernel_rfl) ?_ _
      have HBw := Lib.hid (below_undrew hz2)
      have HR3 := Lib.hid (ownsRow_below HRW.out HBw.out)
      have HB3 := Lib.hid (below_trans HBR.out HBw.out HBR.out.size)
      have hz13 := HB3.out.size
      have hS := HS.out _ hz2
      clear hz2 hS2 x0 x1 x2 x3 x4 yy0 yy1 z0 z1 xl yl zl gl hkc k0
      have z0 := hS.2.2.2.2.2.2.2.1
      have HR1w := Lib.hid (ownsRow_below HR1.out HB3.out)
      clear hS z0
      obtain ⟨z0, z1, zl⟩ := hcl_cell HR1w.out j k q.gen HKG.out hjn
      go_wp2_with fail
      go_roundg (N - (j + 1))
      case measure => have := HGN.out; omega
      case rel => exact ⟨j + 1, m, ar, cr, rfl, by go_num, by omega, Nat.le_refl _, by omega, by rw [HE.out]; exact HM2.out, by rw [HE.out]; exact HR3.out, HB3.out⟩
    · have hjN : j = N := by omega
      subst hjN
      go_wp2
      go_ret
      have hf := HRW.out
      have hm := HM2.out
      have ht : L.take j = L := by rw [HN.out, List.take_length]
      rw [ht] at hf hm
      subst hm
      exact ⟨ar, cr, rfl, row_base hf HB.out.size, below_trans HB.out HBR.out HB.out.size⟩
set_option maxHeartbeats 4000000 in
set_option maxRecDepth 100000 in
theorem rkids_some (b : Nat) (w : World) (s : Ps) (v1 v2 v3 v4 : Sv) (h : RfV w 32 s v1 v2 v3 v4) (ho : s.Ok 32 b) (hb : b ≤ 1000) (htr : Tr s.l) (jh : Nat) (qh : Pl) (hj1 : s.l[jh]? = some qh) (hj2 : qh.used = true) :
    Calls Try.prog 45 #[.agg (vcl 32 v1 v2 v3 v4), .agg #[.int .i64 jh, .int .i64 qh.gen]] w fun e w' => ∃ a c, e = .returned (.slice a (selL s.l (kidP s jh qh.gen)).length c) ∧ w'.ownsRow w.heap.size 30 2 (.slice a (selL s.l (kidP s jh qh.gen)).length c) (selL s.l (kidP s jh qh.gen)).length (hcl (selL s.l (kidP s jh qh.gen))) ∧ Below w.heap.size w w' := by
  obtain ⟨i0, hi, hq0, hq1, hq2⟩ := info_parts rinfo_handle
  obtain ⟨g1, e1, hg, hw⟩ := h.words htr
  obtain ⟨av, nv, cv⟩ := v1
  simp only at e1 hw
  subst e1
  have hf : s.find jh qh.gen = some jh := (find_of hj1 hj2).1
  have HQJ := Lib.hid (And.intro hj1 hj2)
  have HR := Lib.hid h; have HO := Lib.hid ho; have HTR := Lib.hid htr; have HF := Lib.hid hf; have HW := Lib.hid hw
  have hln := allL_len s.l
  have hlo := (ho.lo hb).1
  obtain ⟨L, hL⟩ : ∃ L, L = allL s.l := ⟨_, rfl⟩
  have hM : ∀ k g, (k, g) ∈ L → ∃ q, s.l[k]? = some q ∧ q.used = true ∧ q.gen = g := by rw [hL]; exact fun k g => allL_mem
  have HM := Lib.hid hM
  have HA := Lib.hid (fun (W : World) h => rv_all b W 32 s ⟨some ⟨g1, 0, none⟩, nv, cv⟩ v2 v3 v4 h ho hb)
  unfold selL
  rw [← hL] at HA hln ⊢
  have hl1 : L.length ≤ 1000 := by omega
  generalize hP : (kidP s jh qh.gen) = P
  have HP : Hid (∀ k, Usd s.l k → P k = decide (wrd s.l k = (jh : Int))) := Lib.hid (by
    intro k hk
    rw [← hP]
    exact kidP_wrd hf htr hk)
  generalize hg' : qh.gen = g at *
  have HG := Lib.hid hg'
  clear hj1 hj2 hP hg' 
  clear h ho htr hf hw hM hL hln hlo
  go_enter Try.func45, Try.ntmps45
  go_upto_region 1 with (fail)
  obtain ⟨w0, hw0⟩ : ∃ w0, w0 = (w.alloc (ubox ⟨some ⟨g1, 0, none⟩, nv, cv⟩ v2 v3 v4)).alloc (hbox jh g) := ⟨_, rfl⟩
  have HX : Hid (Ux w0 w.heap.size (vcl 32 ⟨some ⟨g1, 0, none⟩, nv, cv⟩ v2 v3 v4)) := Lib.hid (by rw [hw0]; exact (Ux.new w _).alloc _)
  have HY : Hid (Hx w0 (w.heap.size + 1) jh g) := Lib.hid (by rw [hw0]; exact Hx.new1 w _ _ _)
  have HB : Hid (Below w.heap.size w w0) := Lib.hid (by rw [hw0]; exact (below_alloc w _).alloc (by simp) _)
  rw [← hw0]
  clear hw0
  obtain ⟨x, hx⟩ : ∃ x, x = w.heap.size := ⟨_, rfl⟩
  obtain ⟨y, hy⟩ : ∃ y, y = w.heap.size + 1 := ⟨_, rfl⟩
  rw [← hy, ← hx]
  rw [← hx] at HX; rw [← hy] at HY
  clear hx hy
  obtain ⟨x0, x1, x2, x3, x4⟩ := HX.out.c5
  have xl := HX.out.lt
  go_wp2_with fail
  refine (HA.out _ (HR.out.behind HB.out)).mono ?_
  rintro e w1 ⟨a1, cc1, rfl, hr1, hz1⟩
  have HR1 := Lib.hid hr1
  replace HB := Lib.hid (below_trans HB.out hz1 HB.out.size)
  replace HX := Lib.hid (HX.out.behind hz1)
  replace HY := Lib.hid (HY.out.behind hz1)
  clear hr1 hz1 x0 x1 x2 x3 x4 xl
  obtain ⟨N, hN⟩ : ∃ N, N = L.length := ⟨_, rfl⟩
  rw [← hN] at HR1 hl1 ⊢
  have HN := Lib.hid hN
  clear hN HA
  go_wp2_with fail
  go_loopg [6, 7] N (fun n vl vi wr => ∃ (j m : Nat) (ar : Option Addr) (cr : Nat), vl = .slice ar m cr ∧ vi = .int .i64 j ∧ j ≤ N ∧ N - j ≤ n ∧ m ≤ j ∧ m = ((L.take j).filter (fun x => P x.1)).length ∧ wr.ownsRow w1.heap.size 30 2 (.slice ar m cr) m (hcl ((L.take j).filter (fun x => P x.1))) ∧ Below w1.heap.size w1 wr)
  case atStart => exact ⟨0, 0, none, 0, rfl, rfl, by omega, by omega, by omega, by simp, by simpa [hcl] using World.ownsRow_nil _ _ _ _, Below.refl _ _⟩
  case round =>
    obtain ⟨j, m, ar, cr, rfl, rfl, hj, hn, hmj, hm, hrow, hbr⟩ := hrel
    have HM2 := Lib.hid hm; have HRW := Lib.hid hrow; have HBR := Lib.hid hbr; have HGN := Lib.hid hn
    clear hm hrow hbr hn
    by_cases hjn : j < N
    · obtain ⟨kg, hkg⟩ : ∃ kg, L[j]? = some kg := ⟨_, List.getElem?_eq_getElem (by have := HN.out; omega)⟩
      obtain ⟨k, gk⟩ := kg
      obtain ⟨q, hq1', hq2', hq3'⟩ := HM.out k gk (List.mem_of_getElem? hkg)
      subst hq3'
      obtain ⟨tt, rfl⟩ := hrow_some HR1.out (by omega)
      have HR1r := Lib.hid (ownsRow_below HR1.out HBR.out)
      obtain ⟨z0, z1, zl⟩ := hcl_cell HR1r.out j k q.gen hkg hjn
      have hsel : (L.take (j + 1)).filter (fun x => P x.1) = (L.take j).filter (fun x => P x.1) ++ (if P k = true then [(k, q.gen)] else []) := by
        have hjl : j < L.length := (List.getElem?_eq_some_iff.1 hkg).1
        have e : L[j] = (k, q.gen) := by have := List.getElem?_eq_getElem hjl; rw [hkg] at this; simpa using this.symm
        rw [← List.take_append_getElem hjl, List.filter_append, e]
        cases hP : P k <;> simp [hP]
      have HSEL := Lib.hid hsel
      have HQ := Lib.hid (show Usd s.l k from ⟨q, hq1', hq2'⟩)
      have HBr := Lib.hid (below_trans HB.out HBR.out HB.out.size)
      have HXr := Lib.hid (HX.out.behind HBR.out)
      have HYr := Lib.hid (HY.out.behind HBR.out)
      have HKG := Lib.hid hkg
      obtain ⟨hkn, hkc⟩ := HW.out wr HBr.out k HQ.out
      clear hsel hkg hq1' hq2'
      obtain ⟨x0, x1, x2, x3, x4⟩ := HXr.out.c5
      obtain ⟨yy0, yy1⟩ := HYr.out.c2
      have xl := HXr.out.lt
      have yl := HYr.out.lt
      have gl : g1 < wr.heap.size := (HR.out.behind HBr.out).wlt HTR.out
      generalize hwk : wrd s.l k = wk at hkc
      have HWK := Lib.hid hwk
      clear hwk
      have k0 := hkc
      have HS := Lib.hid (fun (w' : World) (hz : Below wr.drew.heap.size wr.drew w') => show (w'.cell? ⟨x, 0, none⟩ = some (.int .i64 32) ∧ w'.cell? ⟨x, 1, none⟩ = some (.slice (some ⟨g1, 0, none⟩) nv cv) ∧ w'.cell? ⟨x, 2, none⟩ = some (.slice v2.a v2.n v2.c) ∧ w'.cell? ⟨x, 3, none⟩ = some (.slice v3.a v3.n v3.c) ∧ w'.cell? ⟨x, 4, none⟩ = some (.slice v4.a v4.n v4.c) ∧ w'.cell? ⟨y, 0, none⟩ = some (.int .i64 jh) ∧ w'.cell? ⟨y, 1, none⟩ = some (.int .i64 g) ∧ w'.cell? ⟨tt, j * 2, none⟩ = some (.int .i64 k) ∧ w'.cell? ⟨g1, k, none⟩ = some (.int .i64 wk)) from by
        have c := fun (b o : Nat) (h : b < wr.heap.size) => below_cell (w := wr.drew) hz (b := b) (by exact h) o
        exact ⟨(c _ _ xl).trans x0, (c _ _ xl).trans x1, (c _ _ xl).trans x2, (c _ _ xl).trans x3, (c _ _ xl).trans x4, (c _ _ yl).trans yy0, (c _ _ yl).trans yy1, (c _ _ zl).trans z0, (c _ _ gl).trans k0⟩)
      have HC := Lib.hid (rv_yes HF.out ((HR.out.behind HBr.out).behind (below_drew (Below.refl _ wr))) HO.out hb)
      have hpk := HP.out k HQ.out
      rw [HWK.out] at hpk
      have HPK := Lib.hid hpk
      clear hpk
      cases hPk : P k
      · have HE : Hid ((L.take (j + 1)).filter (fun x => P x.1) = (L.take j).filter (fun x => P x.1)) := Lib.hid (by rw [HSEL.out, hPk]; simp)
        have hwj : (wk == (jh : Int)) = false := by have := HPK.out; rw [hPk] at this; exact beq_eq_false_iff_ne.2 (of_decide_eq_false this.symm)
        clear hPk
        go_wp2_with fail
        go_region_held3 (fun w' => w'.cell? ⟨x, 0, none⟩ = some (.int .i64 32) ∧ w'.cell? ⟨x, 1, none⟩ = some (.slice (some ⟨g1, 0, none⟩) nv cv) ∧ w'.cell? ⟨x, 2, none⟩ = some (.slice v2.a v2.n v2.c) ∧ w'.cell? ⟨x, 3, none⟩ = some (.slice v3.a v3.n v3.c) ∧ w'.cell? ⟨x, 4, none⟩ = some (.slice v4.a v4.n v4.c) ∧ w'.cell? ⟨y, 0, none⟩ = some (.int .i64 jh) ∧ w'.cell? ⟨y, 1, none⟩ = some (.int .i64 g) ∧ w'.cell? ⟨tt, j * 2, none⟩ = some (.int .i64 k) ∧ w'.cell? ⟨g1, k, none⟩ = some (.int .i64 wk))
          (first | exact ⟨x0, x1, x2, x3, x4, yy0, yy1, z0, k0⟩ | assumption)
          (first | (go_at_call 43; refine HC.out.mono ?_; rintro e w2 ⟨rfl, hz2⟩; have hS2 := HS.out w2 hz2))
        have HBw := Lib.hid (below_undrew hz2)
        have HR3 := Lib.hid (ownsRow_below HRW.out HBw.out)
        have HB3 := Lib.hid (below_trans HBR.out HBw.out HBR.out.size)
        have hz13 := HB3.out.size
        have hS := HS.out _ hz2
        clear hz2 hS2 x0 x1 x2 x3 x4 yy0 yy1 z0 z1 xl yl zl gl hkc k0
        have z0 := hS.2.2.2.2.2.2.2.1
        have HR1w := Lib.hid (ownsRow_below HR1.out HB3.out)
        clear hS z0
        obtain ⟨z0, z1, zl⟩ := hcl_cell HR1w.out j k q.gen HKG.out hjn
        go_wp2_with fail
        go_roundg (N - (j + 1))
        case measure => have := HGN.out; omega
        case rel => exact ⟨j + 1, m, ar, cr, rfl, by go_num, by omega, Nat.le_refl _, by omega, by rw [HE.out]; exact HM2.out, by rw [HE.out]; exact HR3.out, HB3.out⟩
      · have HE : Hid ((L.take (j + 1)).filter (fun x => P x.1) = (L.take j).filter (fun x => P x.1) ++ [(k, q.gen)]) := Lib.hid (by rw [HSEL.out, hPk]; simp)
        have hwj : (wk == (jh : Int)) = true := by have := HPK.out; rw [hPk] at this; exact beq_iff_eq.2 (of_decide_eq_true this.symm)
        clear hPk
        go_wp2_with fail
        go_region_held3 (fun w' => w'.cell? ⟨x, 0, none⟩ = some (.int .i64 32) ∧ w'.cell? ⟨x, 1, none⟩ = some (.slice (some ⟨g1, 0, none⟩) nv cv) ∧ w'.cell? ⟨x, 2, none⟩ = some (.slice v2.a v2.n v2.c) ∧ w'.cell? ⟨x, 3, none⟩ = some (.slice v3.a v3.n v3.c) ∧ w'.cell? ⟨x, 4, none⟩ = some (.slice v4.a v4.n v4.c) ∧ w'.cell? ⟨y, 0, none⟩ = some (.int .i64 jh) ∧ w'.cell? ⟨y, 1, none⟩ = some (.int .i64 g) ∧ w'.cell? ⟨tt, j * 2, none⟩ = some (.int .i64 k) ∧ w'.cell? ⟨g1, k, none⟩ = some (.int .i64 wk))
          (first | exact ⟨x0, x1, x2, x3, x4, yy0, yy1, z0, k0⟩ | assumption)
          (first | (go_at_call 43; refine HC.out.mono ?_; rintro e w2 ⟨rfl, hz2⟩; have hS2 := HS.out w2 hz2))
        have HBw := Lib.hid (below_undrew hz2)
        have HR3 := Lib.hid (ownsRow_below HRW.out HBw.out)
        have HB3 := Lib.hid (below_trans HBR.out HBw.out HBR.out.size)
        have hz13 := HB3.out.size
        have hS := HS.out _ hz2
        clear hz2 hS2 x0 x1 x2 x3 x4 yy0 yy1 z0 z1 xl yl zl gl hkc k0
        have z0 := hS.2.2.2.2.2.2.2.1
        have HR1w := Lib.hid (ownsRow_below HR1.out HB3.out)
        clear hS z0
        obtain ⟨z0, z1, zl⟩ := hcl_cell HR1w.out j k q.gen HKG.out hjn
        go_wp2_with (at_builtin; go_loud (refine wpList_append_own _ rfl _ _ 26 rfl w1.heap.size 30 i0 (.agg #[.int .i64 0, .int .i64 0]) 2 16 Try.underlying26 hi hq0 hq1 hq2 rfl (by decide) _ m (hcl ((L.take j).filter (fun x => P x.1))) rfl (HR3.out.alloc _) ⟨w2.heap.size, 0, none⟩ 1 1 [.int .i64 k, .int .i64 q.gen] rfl rfl ?c1 ?c2 ?c3 ?c4 ?c5 ?_))
        case c1 =>
          intro jj u hj'
          have hj0 : jj = 0 ∨ jj = 1 := by have := (List.getElem?_eq_some_iff.1 hj').1; simp at this; omega
          rcases hj0 with rfl | rfl
          · simp at hj'
            subst hj'
            simp [go_sem]
          · simp at hj'
            subst hj'
            simp [go_sem]
        case c2 => intro u hu; simp at hu; rcases hu with rfl | rfl <;> rfl
        case c3 => unfold maxLen; omega
        case c4 => omega
        case c5 => simp; omega
        intro v6 w6 hown6 hgrow6 _
        have HR6 : Hid (w6.ownsRow w1.heap.size 30 2 v6 (m + 1) (hcl ((L.take (j + 1)).filter (fun x => P x.1)))) := Lib.hid (by rw [HE.out, ← hcl_app]; exact hown6)
        have HB6 := Lib.hid (Below.grown (HB3.out.alloc hz13 (.cells #[.int .i64 k, .int .i64 q.gen] 30)) hgrow6 (by simp; omega) (fun kk hk' => (HR3.out.lt kk hk').1))
        obtain ⟨a6, c6, rfl⟩ := hrow_nil hown6
        clear hown6 hgrow6
        go_wp2_with fail
        go_roundg (N - (j + 1))
        case measure => have := HGN.out; omega
        case rel => exact ⟨j + 1, m + 1, a6, c6, rfl, by go_num, by omega, Nat.le_refl _, by omega, by rw [HE.out, List.length_append, ← HM2.out]; rfl, HR6.out, HB6.out⟩
    · have hjN : j = N := by omega
      subst hjN
      go_wp2
      go_ret
      have hf := HRW.out
      have hm := HM2.out
      have ht : L.take j = L := by rw [HN.out, List.take_length]
      rw [ht] at hf hm
      subst hm
      exact ⟨ar, cr, rfl, row_base hf HB.out.size, below_trans HB.out HBR.out HB.out.size⟩
theorem rkids_any (i g : Int) (b : Nat) (w : World) (s : Ps) (v1 v2 v3 v4 : Sv) (h : RfV w 32 s v1 v2 v3 v4) (ho : s.Ok 32 b) (hb : b ≤ 1000) (htr : Tr s.l) :
    Calls Try.prog 45 #[.agg (vcl 32 v1 v2 v3 v4), .agg #[.int .i64 i, .int .i64 g]] w fun e w' => ∃ a c, e = .returned (.slice a (selL s.l (kidP s i g)).length c) ∧ w'.ownsRow w.heap.size 30 2 (.slice a (selL s.l (kidP s i g)).length c) (selL s.l (kidP s i g)).length (hcl (selL s.l (kidP s i g))) ∧ Below w.heap.size w w' := by
  cases hk : s.find i g with
  | none =>
    have hP : kidP s i g = fun _ => false := by unfold kidP; rw [hk]
    rw [hP]
    exact rkids_none b w s v1 v2 v3 v4 h ho hb htr i g hk
  | some j =>
    obtain ⟨qj, rfl, hj1, hj2, rfl, _, _⟩ := find_some hk
    exact rkids_some b w s v1 v2 v3 v4 h ho hb htr j qj hj1 hj2
end Go.Proofs.Ytnbljnpfmeidfaa
