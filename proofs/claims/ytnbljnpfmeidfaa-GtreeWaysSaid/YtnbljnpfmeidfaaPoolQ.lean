/- Contract of the program's package arena over group: Put where a new place is made. Conditions: the pool lies in memory as HasPool says. -/
import Derived.Test.YtnbljnpfmeidfaaPoolP
import Derived.Deep.Cut
import Derived.Deep.DeepCutAuto
namespace Go.Proofs.Ytnbljnpfmeidfaa
open Go Go.RowKit Go.ChangeShapes Go.WideShapes
set_option linter.unusedVariables false

theorem info_place : (Try.prog.info? 104).map (fun i => (i.zero, i.size, i.bytes)) = some (some (.agg #[.int .i64 0, .int .i64 0, .int .i64 0, .int .i64 0, .bool false, .int .i64 0]), 6, 48) := by kernel_rfl
set_option maxHeartbeats 2000000 in
theorem put_grow (x : Pay) (w : World) (base p : Nat) (v : Value) (room many : Int) (l : List Pl) (h : HasPool w base p v room many (-1) l) (hl : l.length < 4096) (hm : -1000000 ≤ many ∧ many ≤ 4096) (hr : many < room) (hbase : base ≤ w.heap.size) :
    Calls Try.prog 39 #[.pointer (some ⟨p, 0, none⟩), .agg (gcells x)] w fun e w' => e = .returned (.tuple #[.agg #[.int .i64 (l.length : Nat), .int .i64 0], .int .i64 0]) ∧
      ∃ g cap, HasPool w' base p (.slice (some ⟨g, 0, none⟩) (l.length + 1) cap) room (many + 1) (-1) (l ++ [⟨x, 0, true, -1⟩]) ∧ PoolStep base p w w' := by
  obtain ⟨i0, hi, hz0, hz1, hz2⟩ := info_parts info_place
  have hp := h.lt
  obtain ⟨c0, c1, c2, c3⟩ := h.cell
  have hg1 := h.free 1
  have hg2 := h.free 2
  have hg3 := h.free 3
  have hmr : (many == room) = false := beq_eq_false_iff_ne.2 (by omega)
  obtain ⟨a, cap, hv⟩ : ∃ a cap, v = .slice a l.length cap := by
    rcases h.row with ⟨rfl, rfl⟩ | ⟨g, cap, rfl, _⟩
    · exact ⟨_, _, rfl⟩
    · exact ⟨_, _, rfl⟩
  subst hv
  have HP := Lib.hid h
  clear h
  go_enter Try.func39, Try.ntmps39
  go_wp2
  go_quiet (fail)
  have HP1 := Lib.hid ((((((HP.out.alloc (.cells (gcells x) 71)).alloc (.cells #[.int .i64 0, .int .i64 0] 30)).drewN nq).many_ (many + 1)).alloc (.cells #[.int .i64 0, .int .i64 0, .int .i64 0, .int .i64 0, .bool false, .int .i64 (-1)] 104)))
  go_wp2_with (at_builtin; go_loud (refine wpList_append_own _ rfl _ _ 105 rfl base 104 i0 (.agg #[.int .i64 0, .int .i64 0, .int .i64 0, .int .i64 0, .bool false, .int .i64 0]) 6 48 Try.underlying105 hi hz0 hz1 hz2 rfl (by decide) _ l.length (plc l) rfl ?c0 ⟨w.heap.size + 2, 0, none⟩ 1 1 [.int .i64 0, .int .i64 0, .int .i64 0, .int .i64 0, .bool false, .int .i64 (-1)] rfl rfl ?c1 ?c2 ?c3 ?c4 ?c5 ?_))
  case c0 => exact HP1.out.own
  case c1 =>
    intro j u hj
    have hj4 : j < 6 := by have := (List.getElem?_eq_some_iff.1 hj).1; simpa using this
    rw [add_plain, ← hj]
    simp only [World.cell?, Nat.zero_add]
    have hz : (((((w.alloc (.cells (gcells x) 71)).alloc (.cells #[.int .i64 0, .int .i64 0] 30)).drewN nq).setCell ⟨p, 1, none⟩ (.int .i64 (many + 1)))).heap.size = w.heap.size + 2 := by simp
    have := heap_alloc_new (((((w.alloc (.cells (gcells x) 71)).alloc (.cells #[.int .i64 0, .int .i64 0] 30)).drewN nq).setCell ⟨p, 1, none⟩ (.int .i64 (many + 1)))) (.cells #[.int .i64 0, .int .i64 0, .int .i64 0, .int .i64 0, .bool false, .int .i64 (-1)] 104)
    rw [hz] at this
    rw [this]
    simp
  case c2 => intro u hu; simp at hu; rcases hu with rfl | rfl | rfl <;> rfl
  case c3 => unfold maxLen; omega
  case c4 => omega
  case c5 => simp; omega
  intro v' w1 hown hgrow hnn
  have hne' : v'.ownBlock ≠ some p := grown_ne HP1.out.ne hgrow hown HP1.out.blk (by intro cs z; simp)
  have hfull := Lib.hid (HP1.out.grow ⟨.zero, 0, false, -1⟩ hgrow hown hne')
  have hblk := hgrow.block p HP1.out.lt (fun e => HP1.out.ne e.symm)
  rw [HP1.out.blk] at hblk
  have hres := hgrow.block (w.heap.size + 1) (by simp) (fun e => by have := (HP.out.own.lt _ e.symm).2; omega)
  have hrex := hgrow.block w.heap.size (by simp; omega) (fun e => by have := (HP.out.own.lt _ e.symm).2; omega)
  have hsz := hgrow.size
  rcases hown.2 with ⟨_, hn0⟩ | ⟨g, cap', cur, rfl, hbg, hh, hnc, hcm, hcz, htk⟩
  · omega
  have hgp : g ≠ p := by simpa [Value.ownBlock] using hne'
  have hres' : w1.heap[w.heap.size + 1]? = some (.cells #[.int .i64 0, .int .i64 0] 30 (0, 0)) := by
    rw [hres, Below.heap_alloc _ _ _ (by simp), Below.heap_setCell _ _ _ _ (by exact fun e => by simp at e; omega)]
    have := heap_alloc_new (w.alloc (.cells (gcells x) 71)) (.cells #[.int .i64 0, .int .i64 0] 30)
    simpa using this
  have hrex' : w1.heap[w.heap.size]? = some (.cells (gcells x) 71 (0, 0)) := by
    rw [hrex, Below.heap_alloc _ _ _ (by simp; omega), Below.heap_setCell _ _ _ _ (by exact fun e => by simp at e; omega)]
    show ((w.alloc (.cells (gcells x) 71)).alloc (.cells #[.int .i64 0, .int .i64 0] 30)).heap[w.heap.size]? = _
    rw [Below.heap_alloc _ _ _ (by simp)]
    exact heap_alloc_new w _
  have hgr : g ≠ w.heap.size + 1 := by
    rintro rfl
    rw [hh] at hres'
    simp at hres'
  have hgx : g ≠ w.heap.size := by
    rintro rfl
    rw [hh] at hrex'
    simp at hrex'
  have d2 : w1.cell? ⟨p, 2, none⟩ = some (.slice a l.length cap) := by simp [World.cell?, hblk]
  have df2 : w1.frozen? ⟨p, 2, none⟩ = false := by simp [World.frozen?, hblk]
  have hs1 : w.heap.size + 3 ≤ w1.heap.size := by simpa using hsz
  have hpl : g < w.heap.size → isPl w g := fun hlt => by
    by_cases he : (Value.slice a l.length cap).ownBlock = some g
    · rcases HP.out.own.2 with ⟨hv, _⟩ | ⟨g', cap'', cur', hv, _, hh', _⟩
      · rw [hv] at he; simp [Value.ownBlock] at he
      · rw [hv] at he; simp [Value.ownBlock] at he; subst he; exact ⟨_, _, hh'⟩
    · have e := hgrow.block g (by simp; omega) (fun e => he e.symm)
      rw [hh, Below.heap_alloc _ _ _ (by simp; omega), Below.heap_setCell _ _ _ _ (by exact fun e => hgp e)] at e
      have e2 : (((w.alloc (.cells (gcells x) 71)).alloc (.cells #[.int .i64 0, .int .i64 0] 30)).drewN nq).heap[g]? = w.heap[g]? := by
        show ((w.alloc (.cells (gcells x) 71)).alloc (.cells #[.int .i64 0, .int .i64 0] 30)).heap[g]? = _
        rw [Below.heap_alloc _ _ _ (by simp; omega), Below.heap_alloc w _ g hlt]
      rw [e2] at e
      exact ⟨_, _, e.symm⟩
  have hst : PoolStep base p w w1 :=
    ⟨(Tch.alloc (Tch.setCell (F := PF p w) ((Tch.alloc (Tch.alloc (Tch.refl _ w) _) _).drewN nq) (.inl (.inl rfl)) _) _).grown hgrow (fun k hk => by
        by_cases hlt : k < w.heap.size
        · left; right
          rcases HP.out.own.2 with ⟨hv, _⟩ | ⟨g', cap'', cur', hv, _, hh', _⟩
          · rw [hv] at hk; simp [Value.ownBlock] at hk
          · rw [hv] at hk; simp [Value.ownBlock] at hk; subst hk; exact ⟨_, _, hh'⟩
        · right; omega),
     Below.grown (Below.alloc (Below.setCell (below_drewN (Below.alloc (Below.alloc (Below.refl _ _) hbase _) (by simp; omega) _) nq) HP.out.lo _) (by simp; omega) _) hgrow (by simp; omega) (fun k hk => (HP.out.own.lt k hk).1)⟩
  have HG := Lib.hid hgrow; have HO := Lib.hid hown; have HST := Lib.hid hst; have HPL := Lib.hid hpl; have HR := Lib.hid hres'; have HRX := Lib.hid hrex'
  clear hgrow hown hst hpl hres hres' hrex hrex' hblk hh hnn hne' hsz c0 c1 c2 c3 hg1 hg2 hg3 hcz htk hnc hcm hbg
  go_upto_region 8 with (fail)
  clear d2 df2 hbase
  obtain ⟨w2, hw2⟩ : ∃ w2, w2 = w1.setCell ⟨p, 2, none⟩ (.slice (some ⟨g, 0, none⟩) (l.length + 1) cap') := ⟨_, rfl⟩
  rw [← hw2]
  have hs2 : w2.heap.size = w1.heap.size := by rw [hw2]; simp
  have hF : HasPool w2 base p (.slice (some ⟨g, 0, none⟩) (l.length + 1) cap') room (many + 1) (-1) (l ++ [⟨.zero, 0, false, -1⟩]) := by rw [hw2]; exact hfull.out
  have hst2 : PoolStep base p w w2 := by
    rw [hw2]
    exact ⟨Tch.setCell (F := PF p w) HST.out.tch (.inl (.inl rfl)) _, HST.out.below.setCell HP.out.lo _⟩
  have hres2 : w2.heap[w.heap.size + 1]? = some (.cells #[.int .i64 0, .int .i64 0] 30 (0, 0)) := by
    rw [hw2, Below.heap_setCell _ _ _ _ (by exact fun e => by simp at e; omega)]; exact HR.out
  have hrex2 : w2.heap[w.heap.size]? = some (.cells (gcells x) 71 (0, 0)) := by
    rw [hw2, Below.heap_setCell _ _ _ _ (by exact fun e => by simp at e; omega)]; exact HRX.out
  have hs1' : w.heap.size + 3 ≤ w2.heap.size := by omega
  have HFU := Lib.hid hF; have HST2 := Lib.hid hst2
  have hp2 := hF.lt
  have hb2 := hF.lt2
  have hlen : (l ++ [(⟨.zero, 0, false, -1⟩ : Pl)])[l.length]? = some ⟨.zero, 0, false, -1⟩ := by simp
  have HLN := Lib.hid hlen
  have hF' := hF
  rw [show l.length + 1 = (l ++ [(⟨.zero, 0, false, -1⟩ : Pl)]).length by simp] at hF'
  have hpl' : ∀ j, j < 6 → w2.cell? ⟨g, l.length * 6 + j, none⟩ = [Value.int .i64 0, .int .i64 0, .int .i64 0, .int .i64 0, .bool false, .int .i64 (-1)][j]? := by
    intro j hj
    have := hF'.place l.length j (by simp) hj
    rw [this]
    simp [Pl.cells, Pay.zero]
  have g0 : w2.cell? ⟨g, l.length * 6, none⟩ = some (.int .i64 0) := hpl' 0 (by omega)
  have g01 : w2.cell? ⟨g, l.length * 6 + 1, none⟩ = some (.int .i64 0) := hpl' 1 (by omega)
  have g02 : w2.cell? ⟨g, l.length * 6 + 2, none⟩ = some (.int .i64 0) := hpl' 2 (by omega)
  have g1 : w2.cell? ⟨g, l.length * 6 + 3, none⟩ = some (.int .i64 0) := hpl' 3 (by omega)
  have g2 : w2.cell? ⟨g, l.length * 6 + 4, none⟩ = some (.bool false) := hpl' 4 (by omega)
  have g3 : w2.cell? ⟨g, l.length * 6 + 5, none⟩ = some (.int .i64 (-1)) := hpl' 5 (by omega)
  have gf0 := hF'.placeFree (l.length * 6)
  have gf01 := hF'.placeFree (l.length * 6 + 1)
  have gf02 := hF'.placeFree (l.length * 6 + 2)
  have gf2 := hF'.placeFree (l.length * 6 + 4)
  have gf3 := hF'.placeFree (l.length * 6 + 5)
  obtain ⟨c0, c1, c2, c3⟩ := hF.cell
  have hg3 := hF.free 3
  have r0 : w2.cell? ⟨w.heap.size + 1, 0, none⟩ = some (.int .i64 0) := by simp [World.cell?, hres2]
  have r1 : w2.cell? ⟨w.heap.size + 1, 1, none⟩ = some (.int .i64 0) := by simp [World.cell?, hres2]
  have rf0 : w2.frozen? ⟨w.heap.size + 1, 0, none⟩ = false := by simp [World.frozen?, hres2]
  have rf1 : w2.frozen? ⟨w.heap.size + 1, 1, none⟩ = false := by simp [World.frozen?, hres2]
  have x0 : w2.cell? ⟨w.heap.size, 0, none⟩ = some (.int .i64 x.ui) := by simp [World.cell?, hrex2]
  have x1 : w2.cell? ⟨w.heap.size, 1, none⟩ = some (.int .i64 x.ug) := by simp [World.cell?, hrex2]
  have x2 : w2.cell? ⟨w.heap.size, 2, none⟩ = some (.int .i64 x.dp) := by simp [World.cell?, hrex2]
  clear hF hF' hst2 hres2 hrex2 hpl' hlen hw2 hs2 hs1
  obtain ⟨z, hz⟩ : ∃ z, z = w.heap.size := ⟨_, rfl⟩
  obtain ⟨y, hy⟩ : ∃ y, y = w.heap.size + 1 := ⟨_, rfl⟩
  obtain ⟨o, ho⟩ : ∃ o, o = l.length * 6 := ⟨_, rfl⟩
  rw [← hy] at r0 r1 rf0 rf1 hgr
  rw [← hz] at x0 x1 x2 hgx
  rw [← ho] at g0 g01 g02 g1 g2 g3 gf0 gf01 gf02 gf2 gf3
  have HY := Lib.hid hy; have HZ := Lib.hid hz; have HO2 := Lib.hid ho
  go_upto_region 9 with (fail)
  rw [← hy, ← hz, ← ho]
  have hpz : p < z := by omega
  have hpy : p < y := by omega
  have hyw : y < w2.heap.size := by omega
  have hzw : z < w2.heap.size := by omega
  clear hy hz ho hs1'
  go_upto_region 10 with (fail)
  go_upto_region 11 with (fail)
  obtain ⟨w3, hw3⟩ : ∃ w3, w3 = (((((w2.setCell ⟨p, 3, none⟩ (.int .i64 (-1))).setCell ⟨g, o, none⟩ (.int .i64 x.ui)).setCell ⟨g, o + 1, none⟩ (.int .i64 x.ug)).setCell ⟨g, o + 2, none⟩ (.int .i64 x.dp)).setCell ⟨g, o + 4, none⟩ (.bool true)).setCell ⟨g, o + 5, none⟩ (.int .i64 (-1)) := ⟨_, rfl⟩
  rw [← hw3]
  have hgy : y ≠ g := fun e => hgr e.symm
  have hF := HFU.out
  have hF3 : HasPool w3 base p (.slice (some ⟨g, 0, none⟩) (l.length + 1) cap') room (many + 1) (-1) (l ++ [⟨x, 0, true, -1⟩]) := by
    have h1 := ((hF.free_ (-1)).store5 l.length ⟨.zero, 0, false, -1⟩ ⟨x, 0, true, -1⟩ HLN.out rfl)
    have e : (l ++ [(⟨.zero, 0, false, -1⟩ : Pl)]).set l.length ⟨x, 0, true, -1⟩ = l ++ [⟨x, 0, true, -1⟩] := by
      rw [List.set_append_right _ _ (Nat.le_refl _)]; simp
    rw [e] at h1
    rw [hw3, HO2.out]
    exact h1
  have r3 : ∀ i : Nat, w3.cell? ⟨y, i, none⟩ = w2.cell? ⟨y, i, none⟩ ∧ w3.frozen? ⟨y, i, none⟩ = w2.frozen? ⟨y, i, none⟩ := by
    have hb : w3.heap[y]? = w2.heap[y]? := by
      rw [hw3, Below.heap_setCell _ _ _ _ (by exact hgy), Below.heap_setCell _ _ _ _ (by exact hgy), Below.heap_setCell _ _ _ _ (by exact hgy), Below.heap_setCell _ _ _ _ (by exact hgy), Below.heap_setCell _ _ _ _ (by exact hgy), Below.heap_setCell _ _ _ _ (by show y ≠ p; omega)]
    intro i
    constructor <;> simp [World.cell?, World.frozen?, hb]
  have hPS3 : PoolStep base p w w3 := by
    have t1 := HST2.out.tch
    have b1 := HST2.out.below
    have hg : PF p w g ∨ w.heap.size ≤ g := by
      by_cases hlt : g < w.heap.size
      · exact .inl (.inr (HPL.out hlt))
      · exact .inr (by omega)
    have hbg := hF.base_le
    have hb0 := HP.out.lo
    rw [hw3]
    exact ⟨(((((t1.setCell (.inl (.inl rfl)) _).setCell hg _).setCell hg _).setCell hg _).setCell hg _).setCell hg _,
      (((((b1.setCell hb0 _).setCell hbg _).setCell hbg _).setCell hbg _).setCell hbg _).setCell hbg _⟩
  have e0 := (r3 0).1.trans r0
  have e1 := (r3 1).1.trans r1
  have ef0 := (r3 0).2.trans rf0
  have ef1 := (r3 1).2.trans rf1
  have k1 : w3.cell? ⟨g, o + 3, none⟩ = some (.int .i64 0) := by
    have hF3' := hF3
    rw [show l.length + 1 = (l ++ [(⟨x, 0, true, -1⟩ : Pl)]).length by simp] at hF3'
    have := hF3'.place l.length 3 (by simp) (by omega)
    rw [HO2.out, this]
    simp [Pl.cells]
  have hF3H := Lib.hid hF3; have HPS3 := Lib.hid hPS3
  have hgl := hF3.lt2
  have hyl : y < w3.heap.size := by rw [hw3]; simpa using hyw
  clear hw3 r0 r1 rf0 rf1 g0 g01 g02 g1 g2 g3 gf0 gf01 gf02 gf2 gf3 c0 c1 c2 c3 hg3 x0 x1 x2 r3 hF hF3 hPS3 hp2 hb2 hpz hpy hyw hzw
  obtain ⟨n, hn⟩ : ∃ n, n = l.length := ⟨_, rfl⟩
  rw [← hn]
  have HN := Lib.hid hn
  clear hn
  go_wp2
  refine bodyPost_ret (v := .tuple #[.agg #[.int .i64 (n : Nat), .int .i64 0], .int .i64 0]) (by simp [results, Try.results39, go_sem, e0, e1]) rfl ⟨by rw [HN.out], g, cap', ?_⟩
  have hx : y ≠ p := by have := HY.out; omega
  have hy : (Value.slice (some ⟨g, 0, none⟩) (l.length + 1) cap').ownBlock ≠ some y := by simp [Value.ownBlock]; omega
  exact ⟨(hF3H.out.far hx hy).far hx hy, ⟨(HPS3.out.tch.setCell (.inr (by rw [HY.out]; simp)) _).setCell (.inr (by rw [HY.out]; simp)) _, (HPS3.out.below.setCell (by have := HP.out.lo; have := HY.out; show base ≤ y; omega) _).setCell (by have := HP.out.lo; have := HY.out; show base ≤ y; omega) _⟩⟩
end Go.Proofs.Ytnbljnpfmeidfaa
