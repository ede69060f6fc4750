/- Contract of the program's package arena over int: Put where a new place is made. Conditions: the pool lies in memory as HasPool says. -/
import Derived.Test.YtdkfdpiikhgfiaaPoolP
import Derived.Deep.Cut
import Derived.Deep.DeepCutAuto
namespace Go.Proofs.Ytdkfdpiikhgfiaa
open Go Go.RowKit Go.ChangeShapes Go.WideShapes
set_option linter.unusedVariables false

theorem info_place : (Try.prog.info? 66).map (fun i => (i.zero, i.size, i.bytes)) = some (some (.agg #[.int .i64 0, .int .i64 0, .bool false, .int .i64 0]), 4, 32) := by kernel_rfl
set_option maxHeartbeats 2000000 in
theorem put_grow (x : Int) (w : World) (base p : Nat) (v : Value) (room many : Int) (l : List Pl) (h : HasPool w base p v room many (-1) l) (hl : l.length < 4096) (hm : -1000000 ≤ many ∧ many ≤ 4096) (hr : many < room) (hbase : base ≤ w.heap.size) :
    Calls Try.prog 11 #[.pointer (some ⟨p, 0, none⟩), .int .i64 x] w fun e w' => e = .returned (.tuple #[.agg #[.int .i64 (l.length : Nat), .int .i64 0], .int .i64 0]) ∧
      ∃ g cap, HasPool w' base p (.slice (some ⟨g, 0, none⟩) (l.length + 1) cap) room (many + 1) (-1) (l ++ [⟨x, 0, true, -1⟩]) ∧ PoolStep base p w w' := by
  obtain ⟨i0, hi, hz0, hz1, hz2⟩ := info_parts info_place
  have hp := h.lt
  obtain ⟨c0, c1, c2, c3⟩ := h.cell
  have hg1 := h.free 1
  have hg2 := h.free 2
  have hg3 := h.free 3
  have hmr : (many == room) = false := beq_eq_false_iff_ne.2 (by omega)
  obtain ⟨a, cap, hv⟩ : ∃ a cap, v = .slice a l.length cap := by
    rcases h.row with ⟨rfl, rfl⟩ | ⟨g, cap, rfl, _⟩
    · exact ⟨_, _, rfl⟩
    · exact ⟨_, _, rfl⟩
  subst hv
  have HP := Lib.hid h
  clear h
  go_enter Try.func11, Try.ntmps11
  go_wp2
  go_quiet (fail)
  have HP1 := Lib.hid (((((HP.out.alloc (.cells #[.int .i64 0, .int .i64 0] 31)).drewN nq).many_ (many + 1)).alloc (.cells #[.int .i64 0, .int .i64 0, .bool false, .int .i64 (-1)] 66)))
  go_wp2_with (at_builtin; go_loud (refine wpList_append_own _ rfl _ _ 62 rfl base 66 i0 (.agg #[.int .i64 0, .int .i64 0, .bool false, .int .i64 0]) 4 32 Try.underlying62 hi hz0 hz1 hz2 rfl (by decide) _ l.length (plc l) rfl ?c0 ⟨w.heap.size + 1, 0, none⟩ 1 1 [.int .i64 0, .int .i64 0, .bool false, .int .i64 (-1)] rfl rfl ?c1 ?c2 ?c3 ?c4 ?c5 ?_))
  case c0 => exact HP1.out.own
  case c1 =>
    intro j u hj
    have hj4 : j < 4 := by have := (List.getElem?_eq_some_iff.1 hj).1; simpa using this
    rw [add_plain, ← hj]
    simp only [World.cell?, Nat.zero_add]
    have hz : ((((w.alloc (.cells #[.int .i64 0, .int .i64 0] 31)).drewN nq).setCell ⟨p, 1, none⟩ (.int .i64 (many + 1)))).heap.size = w.heap.size + 1 := by simp
    have := heap_alloc_new ((((w.alloc (.cells #[.int .i64 0, .int .i64 0] 31)).drewN nq).setCell ⟨p, 1, none⟩ (.int .i64 (many + 1)))) (.cells #[.int .i64 0, .int .i64 0, .bool false, .int .i64 (-1)] 66)
    rw [hz] at this
    rw [this]
    simp
  case c2 => intro u hu; simp at hu; rcases hu with rfl | rfl | rfl <;> rfl
  case c3 => unfold maxLen; omega
  case c4 => omega
  case c5 => simp; omega
  intro v' w1 hown hgrow hnn
  have hne' : v'.ownBlock ≠ some p := grown_ne HP1.out.ne hgrow hown HP1.out.blk (by intro cs z; simp)
  have hfull := Lib.hid (HP1.out.grow ⟨0, 0, false, -1⟩ hgrow hown hne')
  have hblk := hgrow.block p HP1.out.lt (fun e => HP1.out.ne e.symm)
  rw [HP1.out.blk] at hblk
  have hres := hgrow.block w.heap.size (by simp; omega) (fun e => by have := (HP.out.own.lt _ e.symm).2; omega)
  have hsz := hgrow.size
  rcases hown.2 with ⟨_, hn0⟩ | ⟨g, cap', cur, rfl, hbg, hh, hnc, hcm, hcz, htk⟩
  · omega
  have hgp : g ≠ p := by simpa [Value.ownBlock] using hne'
  have hres' : w1.heap[w.heap.size]? = some (.cells #[.int .i64 0, .int .i64 0] 31 (0, 0)) := by
    rw [hres, Below.heap_alloc _ _ _ (by simp), Below.heap_setCell _ _ _ _ (by exact fun e => by simp at e; omega)]
    exact heap_alloc_new w _
  have hgr : g ≠ w.heap.size := by
    rintro rfl
    rw [hh] at hres'
    simp at hres'
  have d2 : w1.cell? ⟨p, 2, none⟩ = some (.slice a l.length cap) := by simp [World.cell?, hblk]
  have df2 : w1.frozen? ⟨p, 2, none⟩ = false := by simp [World.frozen?, hblk]
  have hs1 : w.heap.size + 2 ≤ w1.heap.size := by simpa using hsz
  have hpl : g < w.heap.size → isPl w g := fun hlt => by
    by_cases he : (Value.slice a l.length cap).ownBlock = some g
    · rcases HP.out.own.2 with ⟨hv, _⟩ | ⟨g', cap'', cur', hv, _, hh', _⟩
      · rw [hv] at he; simp [Value.ownBlock] at he
      · rw [hv] at he; simp [Value.ownBlock] at he; subst he; exact ⟨_, _, hh'⟩
    · have e := hgrow.block g (by simp; omega) (fun e => he e.symm)
      rw [hh, Below.heap_alloc _ _ _ (by simp; omega), Below.heap_setCell _ _ _ _ (by exact fun e => hgp e)] at e
      have e2 : ((w.alloc (.cells #[.int .i64 0, .int .i64 0] 31)).drewN nq).heap[g]? = w.heap[g]? := Below.heap_alloc w _ g hlt
      rw [e2] at e
      exact ⟨_, _, e.symm⟩
  have hst : PoolStep base p w w1 :=
    ⟨(Tch.alloc (Tch.setCell (F := PF p w) ((Tch.alloc (Tch.refl _ w) _).drewN nq) (.inl (.inl rfl)) _) _).grown hgrow (fun k hk => by
        by_cases hlt : k < w.heap.size
        · left; right
          rcases HP.out.own.2 with ⟨hv, _⟩ | ⟨g', cap'', cur', hv, _, hh', _⟩
          · rw [hv] at hk; simp [Value.ownBlock] at hk
          · rw [hv] at hk; simp [Value.ownBlock] at hk; subst hk; exact ⟨_, _, hh'⟩
        · right; omega),
     Below.grown (Below.alloc (Below.setCell (below_drewN (Below.alloc (Below.refl _ _) hbase _) nq) HP.out.lo _) (by simp; omega) _) hgrow (by simp; omega) (fun k hk => (HP.out.own.lt k hk).1)⟩
  have HG := Lib.hid hgrow; have HO := Lib.hid hown; have HST := Lib.hid hst; have HPL := Lib.hid hpl; have HR := Lib.hid hres'
  clear hgrow hown hst hpl hres hres' hblk hh hnn hne' hsz c0 c1 c2 c3 hg1 hg2 hg3 hcz htk hnc hcm hbg
  go_upto_region 8 with (fail)
  clear d2 df2 hbase
  obtain ⟨w2, hw2⟩ : ∃ w2, w2 = w1.setCell ⟨p, 2, none⟩ (.slice (some ⟨g, 0, none⟩) (l.length + 1) cap') := ⟨_, rfl⟩
  rw [← hw2]
  have hs2 : w2.heap.size = w1.heap.size := by rw [hw2]; simp
  have hF : HasPool w2 base p (.slice (some ⟨g, 0, none⟩) (l.length + 1) cap') room (many + 1) (-1) (l ++ [⟨0, 0, false, -1⟩]) := by rw [hw2]; exact hfull.out
  have hst2 : PoolStep base p w w2 := by
    rw [hw2]
    exact ⟨Tch.setCell (F := PF p w) HST.out.tch (.inl (.inl rfl)) _, HST.out.below.setCell HP.out.lo _⟩
  have hres2 : w2.heap[w.heap.size]? = some (.cells #[.int .i64 0, .int .i64 0] 31 (0, 0)) := by
    rw [hw2, Below.heap_setCell _ _ _ _ (by exact fun e => by simp at e; omega)]; exact HR.out
  have hs1' : w.heap.size + 2 ≤ w2.heap.size := by omega
  have HFU := Lib.hid hF; have HST2 := Lib.hid hst2
  have hp2 := hF.lt
  have hb2 := hF.lt2
  have hlen : (l ++ [(⟨0, 0, false, -1⟩ : Pl)])[l.length]? = some ⟨0, 0, false, -1⟩ := by simp
  have HLN := Lib.hid hlen
  have hF' := hF
  rw [show l.length + 1 = (l ++ [(⟨0, 0, false, -1⟩ : Pl)]).length by simp] at hF'
  have hpl' : ∀ j, j < 4 → w2.cell? ⟨g, l.length * 4 + j, none⟩ = [Value.int .i64 0, .int .i64 0, .bool false, .int .i64 (-1)][j]? := by
    intro j hj
    have := hF'.place l.length j (by simp) hj
    rw [this]
    simp [Pl.cells]
  have g0 : w2.cell? ⟨g, l.length * 4, none⟩ = some (.int .i64 0) := hpl' 0 (by omega)
  have g1 : w2.cell? ⟨g, l.length * 4 + 1, none⟩ = some (.int .i64 0) := hpl' 1 (by omega)
  have g2 : w2.cell? ⟨g, l.length * 4 + 2, none⟩ = some (.bool false) := hpl' 2 (by omega)
  have g3 : w2.cell? ⟨g, l.length * 4 + 3, none⟩ = some (.int .i64 (-1)) := hpl' 3 (by omega)
  have gf0 := hF'.placeFree (l.length * 4)
  have gf2 := hF'.placeFree (l.length * 4 + 2)
  have gf3 := hF'.placeFree (l.length * 4 + 3)
  obtain ⟨c0, c1, c2, c3⟩ := hF.cell
  have hg3 := hF.free 3
  have r0 : w2.cell? ⟨w.heap.size, 0, none⟩ = some (.int .i64 0) := by simp [World.cell?, hres2]
  have r1 : w2.cell? ⟨w.heap.size, 1, none⟩ = some (.int .i64 0) := by simp [World.cell?, hres2]
  have rf0 : w2.frozen? ⟨w.heap.size, 0, none⟩ = false := by simp [World.frozen?, hres2]
  have rf1 : w2.frozen? ⟨w.heap.size, 1, none⟩ = false := by simp [World.frozen?, hres2]
  clear hF hF' hst2 hres2 hpl' hlen hw2 hs2 hs1
  go_wp2
  refine bodyPost_ret (v := .tuple #[.agg #[.int .i64 (l.length : Nat), .int .i64 0], .int .i64 0]) (by simp [results, Try.results11, go_sem, r0, r1]) rfl ⟨rfl, g, cap', ?_⟩
  have hF := HFU.out
  have hres2 : g ≠ w.heap.size := hgr
  have hsz := HST2.out.tch.size
  refine ⟨?_, ?_⟩
  · have h1 := (((hF.free_ (-1)).store3 l.length ⟨0, 0, false, -1⟩ ⟨x, 0, true, -1⟩ HLN.out rfl).far (c := w.heap.size) (o := 0) (u := .int .i64 (l.length : Nat)) (by omega) (by simp [Value.ownBlock]; omega)).far (c := w.heap.size) (o := 1) (u := .int .i64 0) (by omega) (by simp [Value.ownBlock]; omega)
    have e : (l ++ [(⟨0, 0, false, -1⟩ : Pl)]).set l.length ⟨x, 0, true, -1⟩ = l ++ [⟨x, 0, true, -1⟩] := by
      rw [List.set_append_right _ _ (Nat.le_refl _)]; simp
    rw [e] at h1
    exact h1
  · have t1 := HST2.out.tch
    have b1 := HST2.out.below
    have hg : PF p w g ∨ w.heap.size ≤ g := by
      by_cases hlt : g < w.heap.size
      · exact .inl (.inr (HPL.out hlt))
      · exact .inr (by omega)
    have hbg := hF.base_le
    have hb0 := HP.out.lo
    exact ⟨(((((t1.setCell (.inl (.inl rfl)) _).setCell hg _).setCell hg _).setCell hg _).setCell (.inr (Nat.le_refl _)) _).setCell (.inr (Nat.le_refl _)) _,
      (((((b1.setCell hb0 _).setCell hbg _).setCell hbg _).setCell hbg _).setCell (by show base ≤ w.heap.size; omega) _).setCell (by show base ≤ w.heap.size; omega) _⟩
end Go.Proofs.Ytdkfdpiikhgfiaa
