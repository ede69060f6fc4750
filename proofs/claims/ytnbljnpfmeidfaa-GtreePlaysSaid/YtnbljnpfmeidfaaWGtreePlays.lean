/- The walk of the law GtreePlays: it returns true. Condition: the argument reads as a slice of Deed. -/
import Derived.Test.YtnbljnpfmeidfaaGSit
namespace Go.Proofs.Ytnbljnpfmeidfaa
open Go Go.RowKit Go.ChangeShapes Go.WideShapes
set_option linter.unusedVariables false

theorem RfV.farH {w : World} {room : Int} {s : Ps} {v1 v2 v3 v4 : Sv} (h : RfV w room s v1 v2 v3 v4) {y : Nat} {i0 g0 : Int} (hy : Hx w y i0 g0) (o : Nat) (u : Value) : RfV (w.setCell ⟨y, o, none⟩ u) room s v1 v2 v3 v4 := by
  obtain ⟨a1, c1, a2, c2, a3, c3, a4, c4, e, h⟩ := h
  exact ⟨a1, c1, a2, c2, a3, c3, a4, c4, e, h.farH hy o u⟩
theorem Sit.setH {w : World} {base t p x : Nat} {s s2 : Ps} {v1 v2 v3 v4 : Sv} {vt : Value} {T : List (Nat × Int)} (h : Sit w base t p x s s2 v1 v2 v3 v4 vt T) {z : Nat} {i0 g0 : Int} (hz : Hx w z i0 g0) (hzx : z ≠ x) (hv : vt.ownBlock ≠ some z) (i g : Int) :
    Sit ((w.setCell ⟨z, 0, none⟩ (.int .i64 i)).setCell ⟨z, 1, none⟩ (.int .i64 g)) base t p x s s2 v1 v2 v3 v4 vt T :=
  ⟨(h.has.farH hz 0 _).farH (hz.set0 i) 1 _, (h.box.far (fun e => hzx e.symm)).far (fun e => hzx e.symm), (h.ref.farH hz 0 _).farH (hz.set0 i) 1 _, row_other (row_other h.told hv) hv, h.ne⟩
theorem Sit.told_lt {w : World} {base t p x : Nat} {s s2 : Ps} {v1 v2 v3 v4 : Sv} {vt : Value} {T : List (Nat × Int)} (h : Sit w base t p x s s2 v1 v2 v3 v4 vt T) : ∀ k, vt.ownBlock = some k → k < w.heap.size := fun k hk => (h.told.lt k hk).2
set_option maxHeartbeats 16000000 in
set_option maxRecDepth 100000 in
theorem walk_GtreePlays (a : Option Addr) (len capo : Nat) (f : Nat → Ded) (w : World) (h : DeedsAt w a len f) (hlen : len ≤ 9223372036854775807) :
    Calls Try.prog 7 #[.slice a len capo] w fun e w' => e = .returned (.bool true) ∧ Below w.heap.size w w' := by
  have HE := Lib.hid h; clear h
  obtain ⟨i0, hi, hq0, hq1, hq2⟩ := info_parts rinfo_handle
  go_enter Try.func7, Try.ntmps7
  go_wp2_with fail
  refine (awake _).mono ?_
  rintro e w1 ⟨rfl, hz1⟩
  have HZ1 := Lib.hid hz1; clear hz1
  go_wp2_with fail
  refine (new_any _).mono ?_
  rintro e w2 ⟨t, p, rfl, ht2, hz2⟩
  have HT2 := Lib.hid (ht2.rebase HZ1.out.size)
  have HZ2 := Lib.hid (below_trans HZ1.out hz2 HZ1.out.size); clear hz2 ht2
  go_wp2_with fail
  refine (rnew_any _).mono ?_
  rintro e w3 ⟨u1, u2, u3, u4, rfl, hr3, hz3⟩
  have HT3 := Lib.hid (HT2.out.behind hz3)
  have HR3 := Lib.hid hr3
  have HZ3 := Lib.hid (below_trans HZ2.out hz3 HZ2.out.size); clear hz3 hr3
  have hpx : w3.heap.size ≠ p := by have := HT3.out.has.lt; omega
  have hxw : w.heap.size ≤ w3.heap.size := HZ3.out.size
  go_upto_region 4 with (fail)
  obtain ⟨w4, hw4⟩ : ∃ w4, w4 = w3.alloc (.cells (vcl 32 u1 u2 u3 u4) 56) := ⟨_, rfl⟩
  rw [← hw4]
  have HT4 : Hid (TrX w4 w.heap.size t p ps0) := Lib.hid (by rw [hw4]; exact HT3.out.alloc _)
  have HX4 : Hid (Ux w4 w3.heap.size (vcl 32 u1 u2 u3 u4)) := Lib.hid (by rw [hw4]; exact Ux.new w3 _)
  have HR4 : Hid (RfV w4 32 ps0 u1 u2 u3 u4) := Lib.hid (by rw [hw4]; exact HR3.out.alloc _)
  have HZ4 : Hid (Below w.heap.size w w4) := Lib.hid (by rw [hw4]; exact HZ3.out.alloc hxw _)
  obtain ⟨x, hx⟩ : ∃ x, x = w3.heap.size := ⟨_, rfl⟩
  rw [← hx] at HX4 hpx hxw ⊢
  clear hw4 HT2 HT3 HR3 HZ1 HZ2 HZ3 hx
  go_wp2_with fail
  have S0 : Hid (Sit (w4.alloc (hbox 0 0)) w.heap.size t p x ps0 ps0 u1 u2 u3 u4 (.slice (some ⟨w4.heap.size, 0, none⟩) 1 1) [(0, 0)]) := Lib.hid
    ⟨HT4.out.alloc _, HX4.out.alloc _, HR4.out.alloc _, row_base (World.ownsRow_lit w4 #[.int .i64 0, .int .i64 0] 1 (Nat.le_refl _) (by unfold maxLen; omega) (by simp)) HZ4.out.size, hpx⟩
  have HZ0 := Lib.hid (HZ4.out.alloc HZ4.out.size (hbox 0 0))
  go_loopw [6, 7] (fun vt i wr => ∃ (k : Nat) (s : Ps) (T : List (Nat × Int)) (v1 v2 v3 v4 : Sv), k ≤ len ∧ k ≤ 60 ∧ i = .int .i64 k ∧ s.Ok 32 (k + 1) ∧ Tr s.l ∧ T.length ≤ k + 1 ∧ 0 < T.length ∧ Sit wr w.heap.size t p x s s v1 v2 v3 v4 vt T ∧ Below w.heap.size w wr) (fun _ i _ => 60 - (intOf i).toNat)
  case atStart => exact ⟨0, ps0, [(0, 0)], _, _, _, _, by omega, by omega, rfl, ps0_ok, ps0_tr, by simp, by simp, S0.out, HZ0.out⟩
  case round =>
    obtain ⟨k, s, T, v1, v2, v3, v4, hk, hk2, rfl, hl, htr, hT, hT0, hs, hz⟩ := hrel
    obtain ⟨vta, vtc, hvt⟩ := hrow_nil hs.told
    subst hvt
    have HZr := Lib.hid hz
    have HT := Lib.hid (And.intro hT hT0)
    clear S0 HZ0 HT4 HX4 HR4 HZ4
    by_cases hlt : k < len
    · by_cases hlt1 : k < 60
      · obtain ⟨bo, off, rfl, hbo, hdok, hc⟩ := HE.out k hlt
        obtain ⟨hc0, hc1, hc2, hc3, hc4, hc5, hc6, hc7⟩ : wr.cell? ⟨bo, off + k * 8, none⟩ = some (.int .i64 (f k).kd) ∧ wr.cell? ⟨bo, off + k * 8 + 1, none⟩ = some (.int .i64 (f k).a) ∧ wr.cell? ⟨bo, off + k * 8 + 2, none⟩ = some (.int .i64 (f k).b) ∧ wr.cell? ⟨bo, off + k * 8 + 3, none⟩ = some (.bool (f k).wild) ∧ wr.cell? ⟨bo, off + k * 8 + 4, none⟩ = some (.int .i64 (f k).hi) ∧ wr.cell? ⟨bo, off + k * 8 + 5, none⟩ = some (.int .i64 (f k).hg) ∧ wr.cell? ⟨bo, off + k * 8 + 6, none⟩ = some (.int .i64 (f k).gi) ∧ wr.cell? ⟨bo, off + k * 8 + 7, none⟩ = some (.int .i64 (f k).gg) := by
          have c := fun (o : Nat) => HZr.out.cell (p := ⟨bo, o, none⟩) hbo
          rw [c, c, c, c, c, c, c, c]; exact hc
        have hbr : bo < wr.heap.size := by have := hz.size; omega
        clear hc
        generalize f k = d at *
        have HDOK := Lib.hid hdok
        have hpl := hs.has.has.lt
        have hxl := hs.box.lt
        have HTL := Lib.hid hs.told_lt
        obtain ⟨y, hy⟩ : ∃ y, y = wr.heap.size := ⟨_, rfl⟩
        have hyp : y ≠ p := by omega
        have hyx : y ≠ x := by omega
        obtain ⟨wb, hwb⟩ : ∃ wb, wb = wr.alloc (.cells (dcells d) 59) := ⟨_, rfl⟩
        have SB : Hid (Sit wb w.heap.size t p x s s v1 v2 v3 v4 (.slice vta T.length vtc) T) := Lib.hid (by rw [hwb]; exact hs.behind (below_alloc _ _))
        have DB : Hid (Dx wb y d) := Lib.hid (by rw [hwb, hy]; exact Dx.new wr d)
        have ZB : Hid (Below w.heap.size w wb) := Lib.hid (by rw [hwb]; exact hz.alloc hz.size _)
        have HLk := Lib.hid hl
        have HTRk := Lib.hid htr
        have HW := Lib.hid hwb
        have HY := Lib.hid hy
        clear hs hl htr hz hT hT0 hpl hxl hwb hy hdok
        go_upto_region 11 with (fail)
        rw [← HW.out, ← HY.out]
        clear HW hc0 hc1 hc2 hc3 hc4 hc5 hc6 hc7
        obtain ⟨y0, y1, y2, y3, y4, y5, y6, y7⟩ := DB.out.c8
        have l1 := DB.out.lt
        have HWH := Lib.hid (fun (W : World) (n : Int) hn ht => which_any n hn W w.heap.size vta vtc T.length T rfl HT.out.2 ht (by have := HT.out; omega))
        go_wp2_with fail
        refine (HWH.out _ _ ⟨HDOK.out.1, HDOK.out.2.1⟩ SB.out.told).mono ?_
        rintro e wc ⟨rfl, hzc⟩
        obtain ⟨hi1, hhi⟩ : ∃ hi1 : Int, hi1 = ((wh T d.a).1 : Nat) := ⟨_, rfl⟩
        obtain ⟨hg1, hhg⟩ : ∃ hg1, hg1 = (wh T d.a).2 := ⟨_, rfl⟩
        rw [← hhi, ← hhg]
        obtain ⟨z, hzz⟩ : ∃ z, z = wc.heap.size := ⟨_, rfl⟩
        obtain ⟨wd, hwd⟩ : ∃ wd, wd = wc.alloc (hbox hi1 hg1) := ⟨_, rfl⟩
        have SS : Hid (Sit wd w.heap.size t p x s s v1 v2 v3 v4 (.slice vta T.length vtc) T) := Lib.hid (by rw [hwd]; exact (SB.out.behind hzc).behind (below_alloc _ _))
        have SD : Hid (Dx wd y d) := Lib.hid (by rw [hwd]; exact (DB.out.behind hzc).alloc _)
        have HZ : Hid (Below w.heap.size w wd) := Lib.hid (by rw [hwd]; exact (below_trans ZB.out hzc ZB.out.size).alloc (below_trans ZB.out hzc ZB.out.size).size _)
        have SH : Hid (Hx wd z hi1 hg1) := Lib.hid (by rw [hwd, hzz]; exact Hx.new wc _ _)
        have hzw : w.heap.size ≤ z := by have := (below_trans ZB.out hzc ZB.out.size).size; omega
        have hzp : z ≠ p := by have := SB.out.has.has.lt; have := hzc.size; omega
        have hzx : z ≠ x := by have := SB.out.box.lt; have := hzc.size; omega
        have hzy : z ≠ y := by have := DB.out.lt; have := hzc.size; omega
        have HZT : Hid ((Value.slice vta T.length vtc).ownBlock ≠ some z) := Lib.hid (fun e => by have h1 := HTL.out z e; have h2 := HY.out; have h3 := DB.out.lt; have := hzc.size; omega)
        have HW := Lib.hid hwd
        have HY2 := Lib.hid hzz
        clear hwd hzz hzc y0 y1 y2 y3 y4 y5 y6 y7 l1 SB DB ZB hhi hhg
        go_upto_region 12 with (fail)
        rw [← HW.out, ← HY2.out]
        clear HW HY2
        obtain ⟨y0, y1, y2, y3, y4, y5, y6, y7⟩ := SD.out.c8
        have l1 := SD.out.lt
        go_wp2_with fail
        refine (HWH.out _ _ ⟨HDOK.out.2.2.1, HDOK.out.2.2.2⟩ SS.out.told).mono ?_
        rintro e we ⟨rfl, hze⟩
        obtain ⟨gi1, hgi⟩ : ∃ gi1 : Int, gi1 = ((wh T d.b).1 : Nat) := ⟨_, rfl⟩
        obtain ⟨gg1, hgg⟩ : ∃ gg1, gg1 = (wh T d.b).2 := ⟨_, rfl⟩
        rw [← hgi, ← hgg]
        obtain ⟨u, huu⟩ : ∃ u, u = we.heap.size := ⟨_, rfl⟩
        obtain ⟨wg, hwg⟩ : ∃ wg, wg = we.alloc (hbox gi1 gg1) := ⟨_, rfl⟩
        have huw : w.heap.size ≤ u := by have := (below_trans HZ.out hze HZ.out.size).size; omega
        have hup : u ≠ p := by have := SS.out.has.has.lt; have := hze.size; omega
        have hux : u ≠ x := by have := SS.out.box.lt; have := hze.size; omega
        have huy : u ≠ y := by have := SD.out.lt; have := hze.size; omega
        have huz : u ≠ z := by have := SH.out.lt; have := hze.size; omega
        have HUT : Hid ((Value.slice vta T.length vtc).ownBlock ≠ some u) := Lib.hid (fun e => by have h1 := HTL.out u e; have h2 := HY.out; have h3 := SD.out.lt; have := hze.size; omega)
        have SP : Hid (Hx wg u gi1 gg1) := Lib.hid (by rw [hwg, huu]; exact Hx.new we _ _)
        replace SS : Hid (Sit wg w.heap.size t p x s s v1 v2 v3 v4 (.slice vta T.length vtc) T) := Lib.hid (by rw [hwg]; exact (SS.out.behind hze).behind (below_alloc _ _))
        replace SD : Hid (Dx wg y d) := Lib.hid (by rw [hwg]; exact (SD.out.behind hze).alloc _)
        replace HZ : Hid (Below w.heap.size w wg) := Lib.hid (by rw [hwg]; exact (below_trans HZ.out hze HZ.out.size).alloc (below_trans HZ.out hze HZ.out.size).size _)
        replace SH : Hid (Hx wg z hi1 hg1) := Lib.hid (by rw [hwg]; exact (SH.out.behind hze).alloc _)
        
        
        have HW := Lib.hid hwg
        have HY2 := Lib.hid huu
        clear hwg huu hze y0 y1 y2 y3 y4 y5 y6 y7 l1 hgi hgg HWH
        go_upto_region 13 with (fail)
        rw [← HW.out, ← HY2.out]
        clear HW HY2
        obtain ⟨y0, y1, y2, y3, y4, y5, y6, y7⟩ := SD.out.c8
        have l1 := SD.out.lt
        cases hw : d.wild
        · rw [hw] at y3
          go_upto_region 16 with (fail)
          clear y0 y1 y2 y3 y4 y5 y6 y7 l1
          obtain ⟨y0, y1, y2, y3, y4, y5, y6, y7⟩ := SD.out.c8
          have l1 := SD.out.lt
          clear hw
          by_cases k0 : d.kd = 0
          · have kb : (d.kd == 0) = true := beq_iff_eq.2 k0
            clear k0
            go_upto_region 23 with (fail)
            clear y0 y1 y2 y3 y4 y5 y6 y7 l1 kb
            obtain ⟨x0, x1, x2, x3, x4⟩ := SS.out.box.c5
            have xl := SS.out.box.lt
            obtain ⟨z0, z1⟩ := SH.out.c2
            have zl := SH.out.lt
            go_wp2_with fail
            refine (create_any hi1 hg1 (k + 1) _ w.heap.size t p s SS.out.has HLk.out (by omega) HTRk.out).mono ?_
            rintro e w4 ⟨rfl, hp4, hs4⟩
            replace SH := Lib.hid (SH.out.step hs4 hzp)
            replace SP := Lib.hid (SP.out.step hs4 hup)
            replace SS := Lib.hid (SS.out.prog hp4 hs4)
            replace HZ := Lib.hid (HZ.out.trans hs4.below)
            clear hp4 hs4
            clear x0 x1 x2 x3 x4 xl z0 z1 zl
            have HC := Lib.hid (fun (W : World) v1 v2 v3 v4 h => rcreate_any hi1 hg1 (k + 1) W s v1 v2 v3 v4 h HLk.out (by omega) HTRk.out)
            have HL5 := Lib.hid (HLk.out.cre hi1 hg1)
            have HTR5 := Lib.hid (HTRk.out.cre HLk.out hi1 hg1)
            obtain ⟨s5, hs5⟩ : ∃ s5, s5 = s.cre hi1 hg1 := ⟨_, rfl⟩
            obtain ⟨ke, hke⟩ : ∃ ke, ke = s.creE hi1 hg1 := ⟨_, rfl⟩
            obtain ⟨ki, hki⟩ : ∃ ki, ki = s.creI hi1 hg1 := ⟨_, rfl⟩
            obtain ⟨kg, hkg⟩ : ∃ kg, kg = s.creG hi1 hg1 := ⟨_, rfl⟩
            rw [← hs5] at SS HC HL5 HTR5
            rw [← hke, ← hki, ← hkg] at HC ⊢
            clear hs5 hke hki hkg
            go_upto_region 24 with (fail)
            obtain ⟨wp, hwp⟩ : ∃ wp, wp = w4.alloc (hbox ki kg) := ⟨_, rfl⟩
            have hzp4 : Below w4.heap.size w4 wp := by rw [hwp]; exact below_alloc _ _
            have SC : Hid (Hx wp w4.heap.size ki kg) := Lib.hid (by rw [hwp]; exact Hx.new w4 _ _)
            rw [← hwp]
            replace SS := Lib.hid (SS.out.behind hzp4)
            replace SH := Lib.hid (SH.out.behind hzp4)
            replace SP := Lib.hid (SP.out.behind hzp4)
            replace HZ := Lib.hid (below_trans HZ.out hzp4 HZ.out.size)
            clear hwp hzp4
            obtain ⟨c, hcc⟩ : ∃ c, c = w4.heap.size := ⟨_, rfl⟩
            rw [← hcc] at SC ⊢
            clear hcc
            obtain ⟨x0, x1, x2, x3, x4⟩ := SS.out.box.c5
            have xl := SS.out.box.lt
            obtain ⟨z0, z1⟩ := SH.out.c2
            have zl := SH.out.lt
            go_wp2_with fail
            refine (HC.out _ _ _ _ _ SS.out.ref).mono ?_
            rintro e w5 ⟨u1, u2, u3, u4, rfl, hr5, hz5⟩
            have RQ0 := Lib.hid hr5
            replace SC := Lib.hid (SC.out.behind hz5)
            replace SS := Lib.hid (SS.out.behind hz5)
            replace SH := Lib.hid (SH.out.behind hz5)
            replace SP := Lib.hid (SP.out.behind hz5)
            replace HZ := Lib.hid (below_trans HZ.out hz5 HZ.out.size)
            clear hr5 hz5
            clear x0 x1 x2 x3 x4 xl z0 z1 zl
            go_upto_region 25 with (fail)
            have HXL := Lib.hid SS.out.box.lt
            obtain ⟨w6, hw6⟩ : ∃ w6, w6 = (w5.alloc (.cells (vcl 32 u1 u2 u3 u4) 56)).alloc (hbox ki kg) := ⟨_, rfl⟩
            have hz6 : Below w5.heap.size w5 w6 := by rw [hw6]; exact (below_alloc _ _).alloc (by simp) _
            have HQ : Hid (Ux w6 w5.heap.size (vcl 32 u1 u2 u3 u4)) := Lib.hid (by rw [hw6]; exact (Ux.new w5 _).alloc _)
            have HQ2 : Hid (Hx w6 (w5.heap.size + 1) ki kg) := Lib.hid (by rw [hw6]; exact Hx.here _ _ (by simp))
            have RQ := Lib.hid (RQ0.out.behind hz6)
            rw [← hw6]
            replace SC := Lib.hid (SC.out.behind hz6)
            replace SS := Lib.hid (SS.out.behind hz6)
            replace SH := Lib.hid (SH.out.behind hz6)
            replace SP := Lib.hid (SP.out.behind hz6)
            replace HZ := Lib.hid (below_trans HZ.out hz6 HZ.out.size)
            clear hw6 hz6 RQ0
            obtain ⟨q, hq⟩ : ∃ q, q = w5.heap.size := ⟨_, rfl⟩
            obtain ⟨r, hr⟩ : ∃ r, r = w5.heap.size + 1 := ⟨_, rfl⟩
            rw [← hr] at HQ2 ⊢
            rw [← hq] at HQ ⊢
            have hqx : ¬ x = q := by have h2 := HXL.out; omega
            clear hq hr HXL
            obtain ⟨q0, q1, q2, q3, q4⟩ := HQ.out.c5
            have ql := HQ.out.lt
            have xf := SS.out.box.frz
            obtain ⟨x0, x1, x2, x3, x4⟩ := SS.out.box.c5
            have xl := SS.out.box.lt
            go_upto_region 26 with (fail)
            have hcx : c ≠ x := fun e => Ux.nex SS.out.box SC.out e.symm
            have hrx : r ≠ x := fun e => Ux.nex SS.out.box HQ2.out e.symm
            obtain ⟨wq, hwq⟩ : ∃ wq, wq = put5 w6 x u1 u2 u3 u4 := ⟨_, rfl⟩
            rw [show ((((w6.setCell ⟨x, 0, none⟩ (.int .i64 32)).setCell ⟨x, 1, none⟩ (.slice u1.a u1.n u1.c)).setCell ⟨x, 2, none⟩ (.slice u2.a u2.n u2.c)).setCell ⟨x, 3, none⟩ (.slice u3.a u3.n u3.c)).setCell ⟨x, 4, none⟩ (.slice u4.a u4.n u4.c) = wq from hwq.symm]
            replace SS : Hid (Sit wq w.heap.size t p x s5 s5 u1 u2 u3 u4 (.slice vta T.length vtc) T) := Lib.hid (by rw [hwq]; exact SS.out.store RQ.out)
            replace SH : Hid (Hx wq z hi1 hg1) := Lib.hid (by rw [hwq]; exact SH.out.five hzx _ _ _ _)
            replace SP : Hid (Hx wq u gi1 gg1) := Lib.hid (by rw [hwq]; exact SP.out.five hux _ _ _ _)
            replace HZ : Hid (Below w.heap.size w wq) := Lib.hid (by rw [hwq]; exact put5_below HZ.out hxw _ _ _ _)
            replace SC : Hid (Hx wq c ki kg) := Lib.hid (by rw [hwq]; exact SC.out.five hcx _ _ _ _)
            replace HQ2 : Hid (Hx wq r ki kg) := Lib.hid (by rw [hwq]; exact HQ2.out.five hrx _ _ _ _)
            clear hwq RQ HQ q0 q1 q2 q3 q4 ql xf x0 x1 x2 x3 x4 xl HC
            obtain ⟨v1, rfl⟩ : ∃ v1, v1 = u1 := ⟨_, rfl⟩
            obtain ⟨v2, rfl⟩ : ∃ v2, v2 = u2 := ⟨_, rfl⟩
            obtain ⟨v3, rfl⟩ : ∃ v3, v3 = u3 := ⟨_, rfl⟩
            obtain ⟨v4, rfl⟩ : ∃ v4, v4 = u4 := ⟨_, rfl⟩
            obtain ⟨c0, c1⟩ := SC.out.c2
            obtain ⟨r0, r1⟩ := HQ2.out.c2
            have cl := SC.out.lt
            have rl := HQ2.out.lt
            by_cases ke0 : ke = 0
            · have kb : (ke == 0) = true := beq_iff_eq.2 ke0
              clear ke0
              obtain ⟨m, hm⟩ : ∃ m, m = T.length := ⟨_, rfl⟩
              have HTm : Hid (m = T.length) := Lib.hid hm
              have S6t : Hid (wq.ownsRow w.heap.size 30 2 (.slice vta m vtc) m (hcl T)) := Lib.hid (by rw [hm]; exact SS.out.told)
              rw [← hm]
              have hmk : m ≤ 100 := by have := HT.out; omega
              clear hm
              have hsz := HZ.out.size
              go_wp2_with (at_builtin; go_loud (refine wpList_append_own _ rfl _ _ 26 rfl w.heap.size 30 i0 (.agg #[.int .i64 0, .int .i64 0]) 2 16 Try.underlying26 hi hq0 hq1 hq2 rfl (by decide) _ m (hcl T) rfl (S6t.out.alloc _) ⟨wq.heap.size, 0, none⟩ 1 1 [.int .i64 ki, .int .i64 kg] rfl rfl ?c1a ?c2a ?c3a ?c4a ?c5a ?_))
              case c1a =>
                intro jj u hj'
                have hj0 : jj = 0 ∨ jj = 1 := by have := (List.getElem?_eq_some_iff.1 hj').1; simp at this; omega
                rcases hj0 with rfl | rfl
                · simp at hj'
                  subst hj'
                  simp [go_sem]
                · simp at hj'
                  subst hj'
                  simp [go_sem]
              case c2a => intro u hu; simp at hu; rcases hu with rfl | rfl <;> rfl
              case c3a => unfold maxLen; omega
              case c4a => omega
              case c5a => simp; omega
              intro vt5 wt hown5 hgrow5 _
              have SN : Hid (Sit wt w.heap.size t p x s5 s5 v1 v2 v3 v4 vt5 (T ++ [(ki, kg)])) := Lib.hid (SS.out.tell (by rw [← HTm.out]; exact hgrow5) (by rw [← HTm.out]; exact hown5))
              have HZTm : (Value.slice vta m vtc).ownBlock ≠ some z := by rw [HTm.out]; exact HZT.out
              have HUTm : (Value.slice vta m vtc).ownBlock ≠ some u := by rw [HTm.out]; exact HUT.out
              replace SH := Lib.hid ((SH.out.alloc _).growT hgrow5 (S6t.out.alloc _) HZTm)
              replace SP := Lib.hid ((SP.out.alloc _).growT hgrow5 (S6t.out.alloc _) HUTm)
              have ZN : Hid (Below w.heap.size w wt) := Lib.hid (Below.grown (HZ.out.alloc hsz _) hgrow5 (by simp; omega) (fun kk hk' => (S6t.out.lt kk hk').1))
              have HT5 : Hid ((T ++ [(ki, kg)]).length ≤ k + 2 ∧ 0 < (T ++ [(ki, kg)]).length) := Lib.hid (by have := HT.out; simp; omega)
              clear hown5 hgrow5 c0 c1 r0 r1 cl rl hsz S6t HZTm HUTm SC HQ2 kb
              generalize T ++ [(ki, kg)] = T5 at SN HT5
              replace SS := SN
              replace HZ := ZN
              clear SN ZN
              obtain ⟨x0, x1, x2, x3, x4⟩ := SS.out.box.c5
              have xl := SS.out.box.lt
              obtain ⟨z0, z1⟩ := SH.out.c2
              have zl := SH.out.lt
              go_wp2_with fail
              refine (same_any hi1 hg1 (k + 2) _ w.heap.size t p s5 v1 v2 v3 v4 SS.out.has SS.out.ref HL5.out (by omega) HTR5.out).mono ?_
              rintro e wf1 ⟨rfl, hzf1⟩
              replace SS := Lib.hid (SS.out.behind hzf1)
              replace SH := Lib.hid (SH.out.behind hzf1)
              replace SP := Lib.hid (SP.out.behind hzf1)
              replace HZ := Lib.hid (below_trans HZ.out hzf1 HZ.out.size)
              clear hzf1
              clear x0 x1 x2 x3 x4 xl z0 z1 zl
              obtain ⟨x0, x1, x2, x3, x4⟩ := SS.out.box.c5
              have xl := SS.out.box.lt
              obtain ⟨z0, z1⟩ := SP.out.c2
              have zl := SP.out.lt
              go_wp2_with fail
              refine (same_any gi1 gg1 (k + 2) _ w.heap.size t p s5 v1 v2 v3 v4 SS.out.has SS.out.ref HL5.out (by omega) HTR5.out).mono ?_
              rintro e wf2 ⟨rfl, hzf2⟩
              replace SS := Lib.hid (SS.out.behind hzf2)
              replace SH := Lib.hid (SH.out.behind hzf2)
              replace SP := Lib.hid (SP.out.behind hzf2)
              replace HZ := Lib.hid (below_trans HZ.out hzf2 HZ.out.size)
              clear hzf2
              clear x0 x1 x2 x3 x4 xl z0 z1 zl
              obtain ⟨x0, x1, x2, x3, x4⟩ := SS.out.box.c5
              have xl := SS.out.box.lt
              obtain ⟨m, hm⟩ : ∃ m, m = (allL s5.l).length := ⟨_, rfl⟩
              have HM := Lib.hid hm
              have HS := Lib.hid (fun (w' : World) (hz : Below wf2.drew.heap.size wf2.drew w') => show (w'.cell? ⟨x, 0, none⟩ = some (.int .i64 32) ∧ w'.cell? ⟨x, 1, none⟩ = some (.slice v1.a v1.n v1.c) ∧ w'.cell? ⟨x, 2, none⟩ = some (.slice v2.a v2.n v2.c) ∧ w'.cell? ⟨x, 3, none⟩ = some (.slice v3.a v3.n v3.c) ∧ w'.cell? ⟨x, 4, none⟩ = some (.slice v4.a v4.n v4.c)) from by
                have c := fun (b o : Nat) (h : b < wf2.heap.size) => below_cell (w := wf2.drew) hz (b := b) (by exact h) o
                exact ⟨(c _ _ xl).trans x0, (c _ _ xl).trans x1, (c _ _ xl).trans x2, (c _ _ xl).trans x3, (c _ _ xl).trans x4⟩)
              have hz0 : Below wf2.heap.size wf2 wf2.drew := below_drew (Below.refl _ _)
              have A1 := Lib.hid (all_any (k + 2) wf2.drew w.heap.size t p s5 (SS.out.has.behind hz0) HL5.out (by omega))
              have A2 := Lib.hid (fun (W : World) (hW : Below wf2.drew.heap.size wf2.drew W) => rv_all (k + 2) W 32 s5 v1 v2 v3 v4 ((SS.out.ref.behind hz0).behind hW) HL5.out (by omega))
              have hmb : m ≤ 1000 := by have := allL_len s5.l; have h2 := (HL5.out.lo (by omega)).1; omega
              rw [← hm] at A1 A2
              clear hm hz0
              go_wp2_with fail
              go_region_held3 (fun w' => w'.cell? ⟨x, 0, none⟩ = some (.int .i64 32) ∧ w'.cell? ⟨x, 1, none⟩ = some (.slice v1.a v1.n v1.c) ∧ w'.cell? ⟨x, 2, none⟩ = some (.slice v2.a v2.n v2.c) ∧ w'.cell? ⟨x, 3, none⟩ = some (.slice v3.a v3.n v3.c) ∧ w'.cell? ⟨x, 4, none⟩ = some (.slice v4.a v4.n v4.c))
                (first | exact ⟨x0, x1, x2, x3, x4⟩ | assumption)
                (first | (go_at_call 28; (with_reducible refine A1.out.mono ?_); rintro e u1 ⟨aa, ca, rfl, hr1, hz1⟩; have S1 := HS.out u1 hz1; have R6 := Lib.hid hr1; clear hr1) | (go_at_call 29; (with_reducible refine (A2.out _ hz1).mono ?_); rintro e u2 ⟨la, lc, rfl, hr2, hz2⟩; have R7 := Lib.hid hr2; replace R6 := Lib.hid (ownsRow_below R6.out hz2); clear hr2; replace hz2 := below_trans hz1 hz2 hz1.size; have S2 := HS.out u2 hz2) | (go_at_call 16; (with_reducible refine (rsame_eq u2 _ _ m _ _ (allL s5.l) HM.out R6.out R7.out (by omega)).mono ?_); rintro e u3 ⟨rfl, d3, hd3⟩; have hz3 : Below wf2.drew.heap.size wf2.drew u3 := (by rw [← hd3]; exact below_drewN hz2 d3); have S3 := HS.out u3 hz3; have HD3 := Lib.hid hd3; clear hd3))
              have hzf3 : Below wf2.heap.size wf2 u3 := below_undrew hz3
              clear hz1 hz2 hz3 S1 S2 S3
              replace SS := Lib.hid (SS.out.behind hzf3)
              replace SH := Lib.hid (SH.out.behind hzf3)
              replace SP := Lib.hid (SP.out.behind hzf3)
              replace HZ := Lib.hid (below_trans HZ.out hzf3 HZ.out.size)
              clear hzf3 x0 x1 x2 x3 x4 xl
              go_wp2_with fail
              go_roundw
              case rel => exact ⟨k + 1, s5, T5, v1, v2, v3, v4, by omega, by omega, by go_num, HL5.out, HTR5.out, HT5.out.1, HT5.out.2, SS.out, HZ.out⟩
              case measure => simp [intOf]; omega
            · have kb : (ke == 0) = false := beq_eq_false_iff_ne.2 ke0
              clear ke0
              have HT5 : Hid (T.length ≤ k + 2 ∧ 0 < T.length) := Lib.hid (by have := HT.out; omega)
              obtain ⟨T5, rfl⟩ : ∃ T5, T5 = T := ⟨_, rfl⟩
              clear HQ2
              go_upto_region 36 with (fail)
              clear c0 c1 r0 r1 cl rl SC kb
              obtain ⟨x0, x1, x2, x3, x4⟩ := SS.out.box.c5
              have xl := SS.out.box.lt
              obtain ⟨z0, z1⟩ := SH.out.c2
              have zl := SH.out.lt
              go_wp2_with fail
              refine (same_any hi1 hg1 (k + 2) _ w.heap.size t p s5 v1 v2 v3 v4 SS.out.has SS.out.ref HL5.out (by omega) HTR5.out).mono ?_
              rintro e wf1 ⟨rfl, hzf1⟩
              replace SS := Lib.hid (SS.out.behind hzf1)
              replace SH := Lib.hid (SH.out.behind hzf1)
              replace SP := Lib.hid (SP.out.behind hzf1)
              replace HZ := Lib.hid (below_trans HZ.out hzf1 HZ.out.size)
              clear hzf1
              clear x0 x1 x2 x3 x4 xl z0 z1 zl
              obtain ⟨x0, x1, x2, x3, x4⟩ := SS.out.box.c5
              have xl := SS.out.box.lt
              obtain ⟨z0, z1⟩ := SP.out.c2
              have zl := SP.out.lt
              go_wp2_with fail
              refine (same_any gi1 gg1 (k + 2) _ w.heap.size t p s5 v1 v2 v3 v4 SS.out.has SS.out.ref HL5.out (by omega) HTR5.out).mono ?_
              rintro e wf2 ⟨rfl, hzf2⟩
              replace SS := Lib.hid (SS.out.behind hzf2)
              replace SH := Lib.hid (SH.out.behind hzf2)
              replace SP := Lib.hid (SP.out.behind hzf2)
              replace HZ := Lib.hid (below_trans HZ.out hzf2 HZ.out.size)
              clear hzf2
              clear x0 x1 x2 x3 x4 xl z0 z1 zl
              obtain ⟨x0, x1, x2, x3, x4⟩ := SS.out.box.c5
              have xl := SS.out.box.lt
              obtain ⟨m, hm⟩ : ∃ m, m = (allL s5.l).length := ⟨_, rfl⟩
              have HM := Lib.hid hm
              have HS := Lib.hid (fun (w' : World) (hz : Below wf2.drew.heap.size wf2.drew w') => show (w'.cell? ⟨x, 0, none⟩ = some (.int .i64 32) ∧ w'.cell? ⟨x, 1, none⟩ = some (.slice v1.a v1.n v1.c) ∧ w'.cell? ⟨x, 2, none⟩ = some (.slice v2.a v2.n v2.c) ∧ w'.cell? ⟨x, 3, none⟩ = some (.slice v3.a v3.n v3.c) ∧ w'.cell? ⟨x, 4, none⟩ = some (.slice v4.a v4.n v4.c)) from by
                have c := fun (b o : Nat) (h : b < wf2.heap.size) => below_cell (w := wf2.drew) hz (b := b) (by exact h) o
                exact ⟨(c _ _ xl).trans x0, (c _ _ xl).trans x1, (c _ _ xl).trans x2, (c _ _ xl).trans x3, (c _ _ xl).trans x4⟩)
              have hz0 : Below wf2.heap.size wf2 wf2.drew := below_drew (Below.refl _ _)
              have A1 := Lib.hid (all_any (k + 2) wf2.drew w.heap.size t p s5 (SS.out.has.behind hz0) HL5.out (by omega))
              have A2 := Lib.hid (fun (W : World) (hW : Below wf2.drew.heap.size wf2.drew W) => rv_all (k + 2) W 32 s5 v1 v2 v3 v4 ((SS.out.ref.behind hz0).behind hW) HL5.out (by omega))
              have hmb : m ≤ 1000 := by have := allL_len s5.l; have h2 := (HL5.out.lo (by omega)).1; omega
              rw [← hm] at A1 A2
              clear hm hz0
              go_wp2_with fail
              go_region_held3 (fun w' => w'.cell? ⟨x, 0, none⟩ = some (.int .i64 32) ∧ w'.cell? ⟨x, 1, none⟩ = some (.slice v1.a v1.n v1.c) ∧ w'.cell? ⟨x, 2, none⟩ = some (.slice v2.a v2.n v2.c) ∧ w'.cell? ⟨x, 3, none⟩ = some (.slice v3.a v3.n v3.c) ∧ w'.cell? ⟨x, 4, none⟩ = some (.slice v4.a v4.n v4.c))
                (first | exact ⟨x0, x1, x2, x3, x4⟩ | assumption)
                (first | (go_at_call 28; (with_reducible refine A1.out.mono ?_); rintro e u1 ⟨aa, ca, rfl, hr1, hz1⟩; have S1 := HS.out u1 hz1; have R6 := Lib.hid hr1; clear hr1) | (go_at_call 29; (with_reducible refine (A2.out _ hz1).mono ?_); rintro e u2 ⟨la, lc, rfl, hr2, hz2⟩; have R7 := Lib.hid hr2; replace R6 := Lib.hid (ownsRow_below R6.out hz2); clear hr2; replace hz2 := below_trans hz1 hz2 hz1.size; have S2 := HS.out u2 hz2) | (go_at_call 16; (with_reducible refine (rsame_eq u2 _ _ m _ _ (allL s5.l) HM.out R6.out R7.out (by omega)).mono ?_); rintro e u3 ⟨rfl, d3, hd3⟩; have hz3 : Below wf2.drew.heap.size wf2.drew u3 := (by rw [← hd3]; exact below_drewN hz2 d3); have S3 := HS.out u3 hz3; have HD3 := Lib.hid hd3; clear hd3))
              have hzf3 : Below wf2.heap.size wf2 u3 := below_undrew hz3
              clear hz1 hz2 hz3 S1 S2 S3
              replace SS := Lib.hid (SS.out.behind hzf3)
              replace SH := Lib.hid (SH.out.behind hzf3)
              replace SP := Lib.hid (SP.out.behind hzf3)
              replace HZ := Lib.hid (below_trans HZ.out hzf3 HZ.out.size)
              clear hzf3 x0 x1 x2 x3 x4 xl
              go_wp2_with fail
              go_roundw
              case rel => exact ⟨k + 1, s5, T5, v1, v2, v3, v4, by omega, by omega, by go_num, HL5.out, HTR5.out, HT5.out.1, HT5.out.2, SS.out, HZ.out⟩
              case measure => simp [intOf]; omega
          · have kb : (d.kd == 0) = false := beq_eq_false_iff_ne.2 k0
            by_cases k1 : d.kd = 1
            · have kb1 : (d.kd == 1) = true := beq_iff_eq.2 k1
              clear k0 k1
              go_upto_region 31 with (fail)
              clear y0 y1 y2 y3 y4 y5 y6 y7 l1 kb kb1
              obtain ⟨x0, x1, x2, x3, x4⟩ := SS.out.box.c5
              have xl := SS.out.box.lt
              obtain ⟨z0, z1⟩ := SH.out.c2
              have zl := SH.out.lt
              obtain ⟨p0, p1⟩ := SP.out.c2
              have pl := SP.out.lt
              go_wp2_with fail
              refine (destroy_any hi1 hg1 (k + 1) _ w.heap.size t p s SS.out.has HLk.out (by omega) HTRk.out).mono ?_
              rintro e w4 ⟨rfl, hp4, hs4⟩
              replace SH := Lib.hid (SH.out.step hs4 hzp)
              replace SP := Lib.hid (SP.out.step hs4 hup)
              replace SS := Lib.hid (SS.out.prog hp4 hs4)
              replace HZ := Lib.hid (HZ.out.trans hs4.below)
              clear hp4 hs4
              clear x0 x1 x2 x3 x4 xl z0 z1 zl
              clear p0 p1 pl
              have HC := Lib.hid (fun (W : World) v1 v2 v3 v4 h => rdestroy_any hi1 hg1 (k + 1) W s v1 v2 v3 v4 h HLk.out (by omega) HTRk.out)
              have HL5 := Lib.hid (HLk.out.des hi1 hg1)
              have HTR5 := Lib.hid (HTRk.out.des hi1 hg1)
              obtain ⟨s5, hs5⟩ : ∃ s5, s5 = s.des hi1 hg1 := ⟨_, rfl⟩
              obtain ⟨ke, hke⟩ : ∃ ke, ke = s.desE hi1 hg1 := ⟨_, rfl⟩
              rw [← hs5] at SS HC HL5 HTR5
              rw [← hke] at HC ⊢
              clear hs5 hke
              obtain ⟨x0, x1, x2, x3, x4⟩ := SS.out.box.c5
              have xl := SS.out.box.lt
              obtain ⟨z0, z1⟩ := SH.out.c2
              have zl := SH.out.lt
              obtain ⟨p0, p1⟩ := SP.out.c2
              have pl := SP.out.lt
              go_wp2_with fail
              refine (HC.out _ _ _ _ _ SS.out.ref).mono ?_
              rintro e w5 ⟨u1, u2, u3, u4, rfl, hr5, hz5⟩
              have RQ0 := Lib.hid hr5
              replace SS := Lib.hid (SS.out.behind hz5)
              replace SH := Lib.hid (SH.out.behind hz5)
              replace SP := Lib.hid (SP.out.behind hz5)
              replace HZ := Lib.hid (below_trans HZ.out hz5 HZ.out.size)
              clear hr5 hz5
              clear x0 x1 x2 x3 x4 xl z0 z1 zl
              clear p0 p1 pl
              go_upto_region 33 with (fail)
              have HXL := Lib.hid SS.out.box.lt
              obtain ⟨w6, hw6⟩ : ∃ w6, w6 = w5.alloc (.cells (vcl 32 u1 u2 u3 u4) 56) := ⟨_, rfl⟩
              have hz6 : Below w5.heap.size w5 w6 := by rw [hw6]; exact below_alloc _ _
              have HQ : Hid (Ux w6 w5.heap.size (vcl 32 u1 u2 u3 u4)) := Lib.hid (by rw [hw6]; exact Ux.new w5 _)
              have RQ := Lib.hid (RQ0.out.behind hz6)
              rw [← hw6]
              replace SS := Lib.hid (SS.out.behind hz6)
              replace SH := Lib.hid (SH.out.behind hz6)
              replace SP := Lib.hid (SP.out.behind hz6)
              replace HZ := Lib.hid (below_trans HZ.out hz6 HZ.out.size)
              clear hw6 hz6 RQ0
              obtain ⟨q, hq⟩ : ∃ q, q = w5.heap.size := ⟨_, rfl⟩
              rw [← hq] at HQ ⊢
              have hqx : ¬ x = q := by have h2 := HXL.out; omega
              clear hq HXL
              obtain ⟨q0, q1, q2, q3, q4⟩ := HQ.out.c5
              have ql := HQ.out.lt
              have xf := SS.out.box.frz
              obtain ⟨x0, x1, x2, x3, x4⟩ := SS.out.box.c5
              have xl := SS.out.box.lt
              go_upto_region 34 with (fail)
              obtain ⟨wq, hwq⟩ : ∃ wq, wq = put5 w6 x u1 u2 u3 u4 := ⟨_, rfl⟩
              rw [show ((((w6.setCell ⟨x, 0, none⟩ (.int .i64 32)).setCell ⟨x, 1, none⟩ (.slice u1.a u1.n u1.c)).setCell ⟨x, 2, none⟩ (.slice u2.a u2.n u2.c)).setCell ⟨x, 3, none⟩ (.slice u3.a u3.n u3.c)).setCell ⟨x, 4, none⟩ (.slice u4.a u4.n u4.c) = wq from hwq.symm]
              replace SS : Hid (Sit wq w.heap.size t p x s5 s5 u1 u2 u3 u4 (.slice vta T.length vtc) T) := Lib.hid (by rw [hwq]; exact SS.out.store RQ.out)
              replace SH : Hid (Hx wq z hi1 hg1) := Lib.hid (by rw [hwq]; exact SH.out.five hzx _ _ _ _)
              replace SP : Hid (Hx wq u gi1 gg1) := Lib.hid (by rw [hwq]; exact SP.out.five hux _ _ _ _)
              replace HZ : Hid (Below w.heap.size w wq) := Lib.hid (by rw [hwq]; exact put5_below HZ.out hxw _ _ _ _)
              clear hwq RQ HQ q0 q1 q2 q3 q4 ql xf x0 x1 x2 x3 x4 xl HC
              have HT5 : Hid (T.length ≤ k + 2 ∧ 0 < T.length) := Lib.hid (by have := HT.out; omega)
              obtain ⟨T5, rfl⟩ : ∃ T5, T5 = T := ⟨_, rfl⟩
              obtain ⟨v1, rfl⟩ : ∃ v1, v1 = u1 := ⟨_, rfl⟩
              obtain ⟨v2, rfl⟩ : ∃ v2, v2 = u2 := ⟨_, rfl⟩
              obtain ⟨v3, rfl⟩ : ∃ v3, v3 = u3 := ⟨_, rfl⟩
              obtain ⟨v4, rfl⟩ : ∃ v4, v4 = u4 := ⟨_, rfl⟩
              obtain ⟨x0, x1, x2, x3, x4⟩ := SS.out.box.c5
              have xl := SS.out.box.lt
              obtain ⟨z0, z1⟩ := SH.out.c2
              have zl := SH.out.lt
              go_wp2_with fail
              refine (same_any hi1 hg1 (k + 2) _ w.heap.size t p s5 v1 v2 v3 v4 SS.out.has SS.out.ref HL5.out (by omega) HTR5.out).mono ?_
              rintro e wf1 ⟨rfl, hzf1⟩
              replace SS := Lib.hid (SS.out.behind hzf1)
              replace SH := Lib.hid (SH.out.behind hzf1)
              replace SP := Lib.hid (SP.out.behind hzf1)
              replace HZ := Lib.hid (below_trans HZ.out hzf1 HZ.out.size)
              clear hzf1
              clear x0 x1 x2 x3 x4 xl z0 z1 zl
              obtain ⟨x0, x1, x2, x3, x4⟩ := SS.out.box.c5
              have xl := SS.out.box.lt
              obtain ⟨z0, z1⟩ := SP.out.c2
              have zl := SP.out.lt
              go_wp2_with fail
              refine (same_any gi1 gg1 (k + 2) _ w.heap.size t p s5 v1 v2 v3 v4 SS.out.has SS.out.ref HL5.out (by omega) HTR5.out).mono ?_
              rintro e wf2 ⟨rfl, hzf2⟩
              replace SS := Lib.hid (SS.out.behind hzf2)
              replace SH := Lib.hid (SH.out.behind hzf2)
              replace SP := Lib.hid (SP.out.behind hzf2)
              replace HZ := Lib.hid (below_trans HZ.out hzf2 HZ.out.size)
              clear hzf2
              clear x0 x1 x2 x3 x4 xl z0 z1 zl
              obtain ⟨x0, x1, x2, x3, x4⟩ := SS.out.box.c5
              have xl := SS.out.box.lt
              obtain ⟨m, hm⟩ : ∃ m, m = (allL s5.l).length := ⟨_, rfl⟩
              have HM := Lib.hid hm
              have HS := Lib.hid (fun (w' : World) (hz : Below wf2.drew.heap.size wf2.drew w') => show (w'.cell? ⟨x, 0, none⟩ = some (.int .i64 32) ∧ w'.cell? ⟨x, 1, none⟩ = some (.slice v1.a v1.n v1.c) ∧ w'.cell? ⟨x, 2, none⟩ = some (.slice v2.a v2.n v2.c) ∧ w'.cell? ⟨x, 3, none⟩ = some (.slice v3.a v3.n v3.c) ∧ w'.cell? ⟨x, 4, none⟩ = some (.slice v4.a v4.n v4.c)) from by
                have c := fun (b o : Nat) (h : b < wf2.heap.size) => below_cell (w := wf2.drew) hz (b := b) (by exact h) o
                exact ⟨(c _ _ xl).trans x0, (c _ _ xl).trans x1, (c _ _ xl).trans x2, (c _ _ xl).trans x3, (c _ _ xl).trans x4⟩)
              have hz0 : Below wf2.heap.size wf2 wf2.drew := below_drew (Below.refl _ _)
              have A1 := Lib.hid (all_any (k + 2) wf2.drew w.heap.size t p s5 (SS.out.has.behind hz0) HL5.out (by omega))
              have A2 := Lib.hid (fun (W : World) (hW : Below wf2.drew.heap.size wf2.drew W) => rv_all (k + 2) W 32 s5 v1 v2 v3 v4 ((SS.out.ref.behind hz0).behind hW) HL5.out (by omega))
              have hmb : m ≤ 1000 := by have := allL_len s5.l; have h2 := (HL5.out.lo (by omega)).1; omega
              rw [← hm] at A1 A2
              clear hm hz0
              go_wp2_with fail
              go_region_held3 (fun w' => w'.cell? ⟨x, 0, none⟩ = some (.int .i64 32) ∧ w'.cell? ⟨x, 1, none⟩ = some (.slice v1.a v1.n v1.c) ∧ w'.cell? ⟨x, 2, none⟩ = some (.slice v2.a v2.n v2.c) ∧ w'.cell? ⟨x, 3, none⟩ = some (.slice v3.a v3.n v3.c) ∧ w'.cell? ⟨x, 4, none⟩ = some (.slice v4.a v4.n v4.c))
                (first | exact ⟨x0, x1, x2, x3, x4⟩ | assumption)
                (first | (go_at_call 28; (with_reducible refine A1.out.mono ?_); rintro e u1 ⟨aa, ca, rfl, hr1, hz1⟩; have S1 := HS.out u1 hz1; have R6 := Lib.hid hr1; clear hr1) | (go_at_call 29; (with_reducible refine (A2.out _ hz1).mono ?_); rintro e u2 ⟨la, lc, rfl, hr2, hz2⟩; have R7 := Lib.hid hr2; replace R6 := Lib.hid (ownsRow_below R6.out hz2); clear hr2; replace hz2 := below_trans hz1 hz2 hz1.size; have S2 := HS.out u2 hz2) | (go_at_call 16; (with_reducible refine (rsame_eq u2 _ _ m _ _ (allL s5.l) HM.out R6.out R7.out (by omega)).mono ?_); rintro e u3 ⟨rfl, d3, hd3⟩; have hz3 : Below wf2.drew.heap.size wf2.drew u3 := (by rw [← hd3]; exact below_drewN hz2 d3); have S3 := HS.out u3 hz3; have HD3 := Lib.hid hd3; clear hd3))
              have hzf3 : Below wf2.heap.size wf2 u3 := below_undrew hz3
              clear hz1 hz2 hz3 S1 S2 S3
              replace SS := Lib.hid (SS.out.behind hzf3)
              replace SH := Lib.hid (SH.out.behind hzf3)
              replace SP := Lib.hid (SP.out.behind hzf3)
              replace HZ := Lib.hid (below_trans HZ.out hzf3 HZ.out.size)
              clear hzf3 x0 x1 x2 x3 x4 xl
              go_wp2_with fail
              go_roundw
              case rel => exact ⟨k + 1, s5, T5, v1, v2, v3, v4, by omega, by omega, by go_num, HL5.out, HTR5.out, HT5.out.1, HT5.out.2, SS.out, HZ.out⟩
              case measure => simp [intOf]; omega
            · have kb1 : (d.kd == 1) = false := beq_eq_false_iff_ne.2 k1
              clear k0 k1
              go_upto_region 17 with (fail)
              clear y0 y1 y2 y3 y4 y5 y6 y7 l1 kb kb1
              obtain ⟨x0, x1, x2, x3, x4⟩ := SS.out.box.c5
              have xl := SS.out.box.lt
              obtain ⟨z0, z1⟩ := SH.out.c2
              have zl := SH.out.lt
              obtain ⟨p0, p1⟩ := SP.out.c2
              have pl := SP.out.lt
              go_wp2_with fail
              refine (move_any hi1 hg1 gi1 gg1 (k + 1) _ w.heap.size t p s SS.out.has HLk.out (by omega) HTRk.out).mono ?_
              rintro e w4 ⟨rfl, hp4, hs4⟩
              replace SH := Lib.hid (SH.out.step hs4 hzp)
              replace SP := Lib.hid (SP.out.step hs4 hup)
              replace SS := Lib.hid (SS.out.prog hp4 hs4)
              replace HZ := Lib.hid (HZ.out.trans hs4.below)
              clear hp4 hs4
              clear x0 x1 x2 x3 x4 xl z0 z1 zl
              clear p0 p1 pl
              have HC := Lib.hid (fun (W : World) v1 v2 v3 v4 h => rmove_any hi1 hg1 gi1 gg1 (k + 1) W s v1 v2 v3 v4 h HLk.out (by omega) HTRk.out)
              have HL5 := Lib.hid (HLk.out.mov hi1 hg1 gi1 gg1)
              have HTR5 := Lib.hid (HTRk.out.mov hi1 hg1 gi1 gg1)
              obtain ⟨s5, hs5⟩ : ∃ s5, s5 = s.mov hi1 hg1 gi1 gg1 := ⟨_, rfl⟩
              obtain ⟨ke, hke⟩ : ∃ ke, ke = s.movE hi1 hg1 gi1 gg1 := ⟨_, rfl⟩
              rw [← hs5] at SS HC HL5 HTR5
              rw [← hke] at HC ⊢
              clear hs5 hke
              obtain ⟨x0, x1, x2, x3, x4⟩ := SS.out.box.c5
              have xl := SS.out.box.lt
              obtain ⟨z0, z1⟩ := SH.out.c2
              have zl := SH.out.lt
              obtain ⟨p0, p1⟩ := SP.out.c2
              have pl := SP.out.lt
              go_wp2_with fail
              refine (HC.out _ _ _ _ _ SS.out.ref).mono ?_
              rintro e w5 ⟨u1, u2, u3, u4, rfl, hr5, hz5⟩
              have RQ0 := Lib.hid hr5
              replace SS := Lib.hid (SS.out.behind hz5)
              replace SH := Lib.hid (SH.out.behind hz5)
              replace SP := Lib.hid (SP.out.behind hz5)
              replace HZ := Lib.hid (below_trans HZ.out hz5 HZ.out.size)
              clear hr5 hz5
              clear x0 x1 x2 x3 x4 xl z0 z1 zl
              clear p0 p1 pl
              go_upto_region 19 with (fail)
              have HXL := Lib.hid SS.out.box.lt
              obtain ⟨w6, hw6⟩ : ∃ w6, w6 = w5.alloc (.cells (vcl 32 u1 u2 u3 u4) 56) := ⟨_, rfl⟩
              have hz6 : Below w5.heap.size w5 w6 := by rw [hw6]; exact below_alloc _ _
              have HQ : Hid (Ux w6 w5.heap.size (vcl 32 u1 u2 u3 u4)) := Lib.hid (by rw [hw6]; exact Ux.new w5 _)
              have RQ := Lib.hid (RQ0.out.behind hz6)
              rw [← hw6]
              replace SS := Lib.hid (SS.out.behind hz6)
              replace SH := Lib.hid (SH.out.behind hz6)
              replace SP := Lib.hid (SP.out.behind hz6)
              replace HZ := Lib.hid (below_trans HZ.out hz6 HZ.out.size)
              clear hw6 hz6 RQ0
              obtain ⟨q, hq⟩ : ∃ q, q = w5.heap.size := ⟨_, rfl⟩
              rw [← hq] at HQ ⊢
              have hqx : ¬ x = q := by have h2 := HXL.out; omega
              clear hq HXL
              obtain ⟨q0, q1, q2, q3, q4⟩ := HQ.out.c5
              have ql := HQ.out.lt
              have xf := SS.out.box.frz
              obtain ⟨x0, x1, x2, x3, x4⟩ := SS.out.box.c5
              have xl := SS.out.box.lt
              go_upto_region 20 with (fail)
              obtain ⟨wq, hwq⟩ : ∃ wq, wq = put5 w6 x u1 u2 u3 u4 := ⟨_, rfl⟩
              rw [show ((((w6.setCell ⟨x, 0, none⟩ (.int .i64 32)).setCell ⟨x, 1, none⟩ (.slice u1.a u1.n u1.c)).setCell ⟨x, 2, none⟩ (.slice u2.a u2.n u2.c)).setCell ⟨x, 3, none⟩ (.slice u3.a u3.n u3.c)).setCell ⟨x, 4, none⟩ (.slice u4.a u4.n u4.c) = wq from hwq.symm]
              replace SS : Hid (Sit wq w.heap.size t p x s5 s5 u1 u2 u3 u4 (.slice vta T.length vtc) T) := Lib.hid (by rw [hwq]; exact SS.out.store RQ.out)
              replace SH : Hid (Hx wq z hi1 hg1) := Lib.hid (by rw [hwq]; exact SH.out.five hzx _ _ _ _)
              replace SP : Hid (Hx wq u gi1 gg1) := Lib.hid (by rw [hwq]; exact SP.out.five hux _ _ _ _)
              replace HZ : Hid (Below w.heap.size w wq) := Lib.hid (by rw [hwq]; exact put5_below HZ.out hxw _ _ _ _)
              clear hwq RQ HQ q0 q1 q2 q3 q4 ql xf x0 x1 x2 x3 x4 xl HC
              have HT5 : Hid (T.length ≤ k + 2 ∧ 0 < T.length) := Lib.hid (by have := HT.out; omega)
              obtain ⟨T5, rfl⟩ : ∃ T5, T5 = T := ⟨_, rfl⟩
              obtain ⟨v1, rfl⟩ : ∃ v1, v1 = u1 := ⟨_, rfl⟩
              obtain ⟨v2, rfl⟩ : ∃ v2, v2 = u2 := ⟨_, rfl⟩
              obtain ⟨v3, rfl⟩ : ∃ v3, v3 = u3 := ⟨_, rfl⟩
              obtain ⟨v4, rfl⟩ : ∃ v4, v4 = u4 := ⟨_, rfl⟩
              obtain ⟨x0, x1, x2, x3, x4⟩ := SS.out.box.c5
              have xl := SS.out.box.lt
              obtain ⟨z0, z1⟩ := SH.out.c2
              have zl := SH.out.lt
              go_wp2_with fail
              refine (same_any hi1 hg1 (k + 2) _ w.heap.size t p s5 v1 v2 v3 v4 SS.out.has SS.out.ref HL5.out (by omega) HTR5.out).mono ?_
              rintro e wf1 ⟨rfl, hzf1⟩
              replace SS := Lib.hid (SS.out.behind hzf1)
              replace SH := Lib.hid (SH.out.behind hzf1)
              replace SP := Lib.hid (SP.out.behind hzf1)
              replace HZ := Lib.hid (below_trans HZ.out hzf1 HZ.out.size)
              clear hzf1
              clear x0 x1 x2 x3 x4 xl z0 z1 zl
              obtain ⟨x0, x1, x2, x3, x4⟩ := SS.out.box.c5
              have xl := SS.out.box.lt
              obtain ⟨z0, z1⟩ := SP.out.c2
              have zl := SP.out.lt
              go_wp2_with fail
              refine (same_any gi1 gg1 (k + 2) _ w.heap.size t p s5 v1 v2 v3 v4 SS.out.has SS.out.ref HL5.out (by omega) HTR5.out).mono ?_
              rintro e wf2 ⟨rfl, hzf2⟩
              replace SS := Lib.hid (SS.out.behind hzf2)
              replace SH := Lib.hid (SH.out.behind hzf2)
              replace SP := Lib.hid (SP.out.behind hzf2)
              replace HZ := Lib.hid (below_trans HZ.out hzf2 HZ.out.size)
              clear hzf2
              clear x0 x1 x2 x3 x4 xl z0 z1 zl
              obtain ⟨x0, x1, x2, x3, x4⟩ := SS.out.box.c5
              have xl := SS.out.box.lt
              obtain ⟨m, hm⟩ : ∃ m, m = (allL s5.l).length := ⟨_, rfl⟩
              have HM := Lib.hid hm
              have HS := Lib.hid (fun (w' : World) (hz : Below wf2.drew.heap.size wf2.drew w') => show (w'.cell? ⟨x, 0, none⟩ = some (.int .i64 32) ∧ w'.cell? ⟨x, 1, none⟩ = some (.slice v1.a v1.n v1.c) ∧ w'.cell? ⟨x, 2, none⟩ = some (.slice v2.a v2.n v2.c) ∧ w'.cell? ⟨x, 3, none⟩ = some (.slice v3.a v3.n v3.c) ∧ w'.cell? ⟨x, 4, none⟩ = some (.slice v4.a v4.n v4.c)) from by
                have c := fun (b o : Nat) (h : b < wf2.heap.size) => below_cell (w := wf2.drew) hz (b := b) (by exact h) o
                exact ⟨(c _ _ xl).trans x0, (c _ _ xl).trans x1, (c _ _ xl).trans x2, (c _ _ xl).trans x3, (c _ _ xl).trans x4⟩)
              have hz0 : Below wf2.heap.size wf2 wf2.drew := below_drew (Below.refl _ _)
              have A1 := Lib.hid (all_any (k + 2) wf2.drew w.heap.size t p s5 (SS.out.has.behind hz0) HL5.out (by omega))
              have A2 := Lib.hid (fun (W : World) (hW : Below wf2.drew.heap.size wf2.drew W) => rv_all (k + 2) W 32 s5 v1 v2 v3 v4 ((SS.out.ref.behind hz0).behind hW) HL5.out (by omega))
              have hmb : m ≤ 1000 := by have := allL_len s5.l; have h2 := (HL5.out.lo (by omega)).1; omega
              rw [← hm] at A1 A2
              clear hm hz0
              go_wp2_with fail
              go_region_held3 (fun w' => w'.cell? ⟨x, 0, none⟩ = some (.int .i64 32) ∧ w'.cell? ⟨x, 1, none⟩ = some (.slice v1.a v1.n v1.c) ∧ w'.cell? ⟨x, 2, none⟩ = some (.slice v2.a v2.n v2.c) ∧ w'.cell? ⟨x, 3, none⟩ = some (.slice v3.a v3.n v3.c) ∧ w'.cell? ⟨x, 4, none⟩ = some (.slice v4.a v4.n v4.c))
                (first | exact ⟨x0, x1, x2, x3, x4⟩ | assumption)
                (first | (go_at_call 28; (with_reducible refine A1.out.mono ?_); rintro e u1 ⟨aa, ca, rfl, hr1, hz1⟩; have S1 := HS.out u1 hz1; have R6 := Lib.hid hr1; clear hr1) | (go_at_call 29; (with_reducible refine (A2.out _ hz1).mono ?_); rintro e u2 ⟨la, lc, rfl, hr2, hz2⟩; have R7 := Lib.hid hr2; replace R6 := Lib.hid (ownsRow_below R6.out hz2); clear hr2; replace hz2 := below_trans hz1 hz2 hz1.size; have S2 := HS.out u2 hz2) | (go_at_call 16; (with_reducible refine (rsame_eq u2 _ _ m _ _ (allL s5.l) HM.out R6.out R7.out (by omega)).mono ?_); rintro e u3 ⟨rfl, d3, hd3⟩; have hz3 : Below wf2.drew.heap.size wf2.drew u3 := (by rw [← hd3]; exact below_drewN hz2 d3); have S3 := HS.out u3 hz3; have HD3 := Lib.hid hd3; clear hd3))
              have hzf3 : Below wf2.heap.size wf2 u3 := below_undrew hz3
              clear hz1 hz2 hz3 S1 S2 S3
              replace SS := Lib.hid (SS.out.behind hzf3)
              replace SH := Lib.hid (SH.out.behind hzf3)
              replace SP := Lib.hid (SP.out.behind hzf3)
              replace HZ := Lib.hid (below_trans HZ.out hzf3 HZ.out.size)
              clear hzf3 x0 x1 x2 x3 x4 xl
              go_wp2_with fail
              go_roundw
              case rel => exact ⟨k + 1, s5, T5, v1, v2, v3, v4, by omega, by omega, by go_num, HL5.out, HTR5.out, HT5.out.1, HT5.out.2, SS.out, HZ.out⟩
              case measure => simp [intOf]; omega
        · rw [hw] at y3
          obtain ⟨z0, z1⟩ := SH.out.c2
          have zl := SH.out.lt
          obtain ⟨p0, p1⟩ := SP.out.c2
          have pl := SP.out.lt
          have zf := SH.out.frz
          have pf := SP.out.frz
          go_upto_region 16 with (fail)
          obtain ⟨wv, hwv⟩ : ∃ wv, wv = (((wg.setCell ⟨z, 0, none⟩ (.int .i64 d.hi)).setCell ⟨z, 1, none⟩ (.int .i64 d.hg)).setCell ⟨u, 0, none⟩ (.int .i64 d.gi)).setCell ⟨u, 1, none⟩ (.int .i64 d.gg) := ⟨_, rfl⟩
          rw [← hwv]
          have SP1 := (SP.out.far (o := 0) (u := .int .i64 d.hi) huz).far (o := 1) (u := .int .i64 d.hg) huz
          have hzu : z ≠ u := fun e => huz e.symm
          have hyz : y ≠ z := fun e => hzy e.symm
          have hyu : y ≠ u := fun e => huy e.symm
          have SS1 := SS.out.setH SH.out hzx HZT.out d.hi d.hg
          replace SS : Hid (Sit wv w.heap.size t p x s s v1 v2 v3 v4 (.slice vta T.length vtc) T) := Lib.hid (by rw [hwv]; exact SS1.setH SP1 hux HUT.out d.gi d.gg)
          replace SD : Hid (Dx wv y d) := Lib.hid (by rw [hwv]; exact (((SD.out.far hyz).far hyz).far hyu).far hyu)
          replace SP : Hid (Hx wv u d.gi d.gg) := Lib.hid (by rw [hwv]; exact (SP1.set0 d.gi).set1 d.gg)
          replace SH : Hid (Hx wv z d.hi d.hg) := Lib.hid (by rw [hwv]; exact (((SH.out.set0 d.hi).set1 d.hg).far hzu).far hzu)
          replace HZ : Hid (Below w.heap.size w wv) := Lib.hid (by rw [hwv]; exact (((HZ.out.setCell hzw _).setCell hzw _).setCell huw _).setCell huw _)
          clear hwv SP1 SS1 y0 y1 y2 y3 y4 y5 y6 y7 l1 z0 z1 zl p0 p1 pl zf pf hyz hyu
          obtain ⟨hi1, hhi⟩ : ∃ hi1, hi1 = d.hi := ⟨_, rfl⟩
          obtain ⟨hg1, hhg⟩ : ∃ hg1, hg1 = d.hg := ⟨_, rfl⟩
          obtain ⟨gi1, hgi⟩ : ∃ gi1, gi1 = d.gi := ⟨_, rfl⟩
          obtain ⟨gg1, hgg⟩ : ∃ gg1, gg1 = d.gg := ⟨_, rfl⟩
          rw [← hhi, ← hhg] at SH
          rw [← hgi, ← hgg] at SP
          rw [← hhi, ← hhg, ← hgi, ← hgg]
          clear hhi hhg hgi hgg
          obtain ⟨y0, y1, y2, y3, y4, y5, y6, y7⟩ := SD.out.c8
          have l1 := SD.out.lt
          clear hw
          by_cases k0 : d.kd = 0
          · have kb : (d.kd == 0) = true := beq_iff_eq.2 k0
            clear k0
            go_upto_region 23 with (fail)
            clear y0 y1 y2 y3 y4 y5 y6 y7 l1 kb
            obtain ⟨x0, x1, x2, x3, x4⟩ := SS.out.box.c5
            have xl := SS.out.box.lt
            obtain ⟨z0, z1⟩ := SH.out.c2
            have zl := SH.out.lt
            go_wp2_with fail
            refine (create_any hi1 hg1 (k + 1) _ w.heap.size t p s SS.out.has HLk.out (by omega) HTRk.out).mono ?_
            rintro e w4 ⟨rfl, hp4, hs4⟩
            replace SH := Lib.hid (SH.out.step hs4 hzp)
            replace SP := Lib.hid (SP.out.step hs4 hup)
            replace SS := Lib.hid (SS.out.prog hp4 hs4)
            replace HZ := Lib.hid (HZ.out.trans hs4.below)
            clear hp4 hs4
            clear x0 x1 x2 x3 x4 xl z0 z1 zl
            have HC := Lib.hid (fun (W : World) v1 v2 v3 v4 h => rcreate_any hi1 hg1 (k + 1) W s v1 v2 v3 v4 h HLk.out (by omega) HTRk.out)
            have HL5 := Lib.hid (HLk.out.cre hi1 hg1)
            have HTR5 := Lib.hid (HTRk.out.cre HLk.out hi1 hg1)
            obtain ⟨s5, hs5⟩ : ∃ s5, s5 = s.cre hi1 hg1 := ⟨_, rfl⟩
            obtain ⟨ke, hke⟩ : ∃ ke, ke = s.creE hi1 hg1 := ⟨_, rfl⟩
            obtain ⟨ki, hki⟩ : ∃ ki, ki = s.creI hi1 hg1 := ⟨_, rfl⟩
            obtain ⟨kg, hkg⟩ : ∃ kg, kg = s.creG hi1 hg1 := ⟨_, rfl⟩
            rw [← hs5] at SS HC HL5 HTR5
            rw [← hke, ← hki, ← hkg] at HC ⊢
            clear hs5 hke hki hkg
            go_upto_region 24 with (fail)
            obtain ⟨wp, hwp⟩ : ∃ wp, wp = w4.alloc (hbox ki kg) := ⟨_, rfl⟩
            have hzp4 : Below w4.heap.size w4 wp := by rw [hwp]; exact below_alloc _ _
            have SC : Hid (Hx wp w4.heap.size ki kg) := Lib.hid (by rw [hwp]; exact Hx.new w4 _ _)
            rw [← hwp]
            replace SS := Lib.hid (SS.out.behind hzp4)
            replace SH := Lib.hid (SH.out.behind hzp4)
            replace SP := Lib.hid (SP.out.behind hzp4)
            replace HZ := Lib.hid (below_trans HZ.out hzp4 HZ.out.size)
            clear hwp hzp4
            obtain ⟨c, hcc⟩ : ∃ c, c = w4.heap.size := ⟨_, rfl⟩
            rw [← hcc] at SC ⊢
            clear hcc
            obtain ⟨x0, x1, x2, x3, x4⟩ := SS.out.box.c5
            have xl := SS.out.box.lt
            obtain ⟨z0, z1⟩ := SH.out.c2
            have zl := SH.out.lt
            go_wp2_with fail
            refine (HC.out _ _ _ _ _ SS.out.ref).mono ?_
            rintro e w5 ⟨u1, u2, u3, u4, rfl, hr5, hz5⟩
            have RQ0 := Lib.hid hr5
            replace SC := Lib.hid (SC.out.behind hz5)
            replace SS := Lib.hid (SS.out.behind hz5)
            replace SH := Lib.hid (SH.out.behind hz5)
            replace SP := Lib.hid (SP.out.behind hz5)
            replace HZ := Lib.hid (below_trans HZ.out hz5 HZ.out.size)
            clear hr5 hz5
            clear x0 x1 x2 x3 x4 xl z0 z1 zl
            go_upto_region 25 with (fail)
            have HXL := Lib.hid SS.out.box.lt
            obtain ⟨w6, hw6⟩ : ∃ w6, w6 = (w5.alloc (.cells (vcl 32 u1 u2 u3 u4) 56)).alloc (hbox ki kg) := ⟨_, rfl⟩
            have hz6 : Below w5.heap.size w5 w6 := by rw [hw6]; exact (below_alloc _ _).alloc (by simp) _
            have HQ : Hid (Ux w6 w5.heap.size (vcl 32 u1 u2 u3 u4)) := Lib.hid (by rw [hw6]; exact (Ux.new w5 _).alloc _)
            have HQ2 : Hid (Hx w6 (w5.heap.size + 1) ki kg) := Lib.hid (by rw [hw6]; exact Hx.here _ _ (by simp))
            have RQ := Lib.hid (RQ0.out.behind hz6)
            rw [← hw6]
            replace SC := Lib.hid (SC.out.behind hz6)
            replace SS := Lib.hid (SS.out.behind hz6)
            replace SH := Lib.hid (SH.out.behind hz6)
            replace SP := Lib.hid (SP.out.behind hz6)
            replace HZ := Lib.hid (below_trans HZ.out hz6 HZ.out.size)
            clear hw6 hz6 RQ0
            obtain ⟨q, hq⟩ : ∃ q, q = w5.heap.size := ⟨_, rfl⟩
            obtain ⟨r, hr⟩ : ∃ r, r = w5.heap.size + 1 := ⟨_, rfl⟩
            rw [← hr] at HQ2 ⊢
            rw [← hq] at HQ ⊢
            have hqx : ¬ x = q := by have h2 := HXL.out; omega
            clear hq hr HXL
            obtain ⟨q0, q1, q2, q3, q4⟩ := HQ.out.c5
            have ql := HQ.out.lt
            have xf := SS.out.box.frz
            obtain ⟨x0, x1, x2, x3, x4⟩ := SS.out.box.c5
            have xl := SS.out.box.lt
            go_upto_region 26 with (fail)
            have hcx : c ≠ x := fun e => Ux.nex SS.out.box SC.out e.symm
            have hrx : r ≠ x := fun e => Ux.nex SS.out.box HQ2.out e.symm
            obtain ⟨wq, hwq⟩ : ∃ wq, wq = put5 w6 x u1 u2 u3 u4 := ⟨_, rfl⟩
            rw [show ((((w6.setCell ⟨x, 0, none⟩ (.int .i64 32)).setCell ⟨x, 1, none⟩ (.slice u1.a u1.n u1.c)).setCell ⟨x, 2, none⟩ (.slice u2.a u2.n u2.c)).setCell ⟨x, 3, none⟩ (.slice u3.a u3.n u3.c)).setCell ⟨x, 4, none⟩ (.slice u4.a u4.n u4.c) = wq from hwq.symm]
            replace SS : Hid (Sit wq w.heap.size t p x s5 s5 u1 u2 u3 u4 (.slice vta T.length vtc) T) := Lib.hid (by rw [hwq]; exact SS.out.store RQ.out)
            replace SH : Hid (Hx wq z hi1 hg1) := Lib.hid (by rw [hwq]; exact SH.out.five hzx _ _ _ _)
            replace SP : Hid (Hx wq u gi1 gg1) := Lib.hid (by rw [hwq]; exact SP.out.five hux _ _ _ _)
            replace HZ : Hid (Below w.heap.size w wq) := Lib.hid (by rw [hwq]; exact put5_below HZ.out hxw _ _ _ _)
            replace SC : Hid (Hx wq c ki kg) := Lib.hid (by rw [hwq]; exact SC.out.five hcx _ _ _ _)
            replace HQ2 : Hid (Hx wq r ki kg) := Lib.hid (by rw [hwq]; exact HQ2.out.five hrx _ _ _ _)
            clear hwq RQ HQ q0 q1 q2 q3 q4 ql xf x0 x1 x2 x3 x4 xl HC
            obtain ⟨v1, rfl⟩ : ∃ v1, v1 = u1 := ⟨_, rfl⟩
            obtain ⟨v2, rfl⟩ : ∃ v2, v2 = u2 := ⟨_, rfl⟩
            obtain ⟨v3, rfl⟩ : ∃ v3, v3 = u3 := ⟨_, rfl⟩
            obtain ⟨v4, rfl⟩ : ∃ v4, v4 = u4 := ⟨_, rfl⟩
            obtain ⟨c0, c1⟩ := SC.out.c2
            obtain ⟨r0, r1⟩ := HQ2.out.c2
            have cl := SC.out.lt
            have rl := HQ2.out.lt
            by_cases ke0 : ke = 0
            · have kb : (ke == 0) = true := beq_iff_eq.2 ke0
              clear ke0
              obtain ⟨m, hm⟩ : ∃ m, m = T.length := ⟨_, rfl⟩
              have HTm : Hid (m = T.length) := Lib.hid hm
              have S6t : Hid (wq.ownsRow w.heap.size 30 2 (.slice vta m vtc) m (hcl T)) := Lib.hid (by rw [hm]; exact SS.out.told)
              rw [← hm]
              have hmk : m ≤ 100 := by have := HT.out; omega
              clear hm
              have hsz := HZ.out.size
              go_wp2_with (at_builtin; go_loud (refine wpList_append_own _ rfl _ _ 26 rfl w.heap.size 30 i0 (.agg #[.int .i64 0, .int .i64 0]) 2 16 Try.underlying26 hi hq0 hq1 hq2 rfl (by decide) _ m (hcl T) rfl (S6t.out.alloc _) ⟨wq.heap.size, 0, none⟩ 1 1 [.int .i64 ki, .int .i64 kg] rfl rfl ?c1b ?c2b ?c3b ?c4b ?c5b ?_))
              case c1b =>
                intro jj u hj'
                have hj0 : jj = 0 ∨ jj = 1 := by have := (List.getElem?_eq_some_iff.1 hj').1; simp at this; omega
                rcases hj0 with rfl | rfl
                · simp at hj'
                  subst hj'
                  simp [go_sem]
                · simp at hj'
                  subst hj'
                  simp [go_sem]
              case c2b => intro u hu; simp at hu; rcases hu with rfl | rfl <;> rfl
              case c3b => unfold maxLen; omega
              case c4b => omega
              case c5b => simp; omega
              intro vt5 wt hown5 hgrow5 _
              have SN : Hid (Sit wt w.heap.size t p x s5 s5 v1 v2 v3 v4 vt5 (T ++ [(ki, kg)])) := Lib.hid (SS.out.tell (by rw [← HTm.out]; exact hgrow5) (by rw [← HTm.out]; exact hown5))
              have HZTm : (Value.slice vta m vtc).ownBlock ≠ some z := by rw [HTm.out]; exact HZT.out
              have HUTm : (Value.slice vta m vtc).ownBlock ≠ some u := by rw [HTm.out]; exact HUT.out
              replace SH := Lib.hid ((SH.out.alloc _).growT hgrow5 (S6t.out.alloc _) HZTm)
              replace SP := Lib.hid ((SP.out.alloc _).growT hgrow5 (S6t.out.alloc _) HUTm)
              have ZN : Hid (Below w.heap.size w wt) := Lib.hid (Below.grown (HZ.out.alloc hsz _) hgrow5 (by simp; omega) (fun kk hk' => (S6t.out.lt kk hk').1))
              have HT5 : Hid ((T ++ [(ki, kg)]).length ≤ k + 2 ∧ 0 < (T ++ [(ki, kg)]).length) := Lib.hid (by have := HT.out; simp; omega)
              clear hown5 hgrow5 c0 c1 r0 r1 cl rl hsz S6t HZTm HUTm SC HQ2 kb
              generalize T ++ [(ki, kg)] = T5 at SN HT5
              replace SS := SN
              replace HZ := ZN
              clear SN ZN
              obtain ⟨x0, x1, x2, x3, x4⟩ := SS.out.box.c5
              have xl := SS.out.box.lt
              obtain ⟨z0, z1⟩ := SH.out.c2
              have zl := SH.out.lt
              go_wp2_with fail
              refine (same_any hi1 hg1 (k + 2) _ w.heap.size t p s5 v1 v2 v3 v4 SS.out.has SS.out.ref HL5.out (by omega) HTR5.out).mono ?_
              rintro e wf1 ⟨rfl, hzf1⟩
              replace SS := Lib.hid (SS.out.behind hzf1)
              replace SH := Lib.hid (SH.out.behind hzf1)
              replace SP := Lib.hid (SP.out.behind hzf1)
              replace HZ := Lib.hid (below_trans HZ.out hzf1 HZ.out.size)
              clear hzf1
              clear x0 x1 x2 x3 x4 xl z0 z1 zl
              obtain ⟨x0, x1, x2, x3, x4⟩ := SS.out.box.c5
              have xl := SS.out.box.lt
              obtain ⟨z0, z1⟩ := SP.out.c2
              have zl := SP.out.lt
              go_wp2_with fail
              refine (same_any gi1 gg1 (k + 2) _ w.heap.size t p s5 v1 v2 v3 v4 SS.out.has SS.out.ref HL5.out (by omega) HTR5.out).mono ?_
              rintro e wf2 ⟨rfl, hzf2⟩
              replace SS := Lib.hid (SS.out.behind hzf2)
              replace SH := Lib.hid (SH.out.behind hzf2)
              replace SP := Lib.hid (SP.out.behind hzf2)
              replace HZ := Lib.hid (below_trans HZ.out hzf2 HZ.out.size)
              clear hzf2
              clear x0 x1 x2 x3 x4 xl z0 z1 zl
              obtain ⟨x0, x1, x2, x3, x4⟩ := SS.out.box.c5
              have xl := SS.out.box.lt
              obtain ⟨m, hm⟩ : ∃ m, m = (allL s5.l).length := ⟨_, rfl⟩
              have HM := Lib.hid hm
              have HS := Lib.hid (fun (w' : World) (hz : Below wf2.drew.heap.size wf2.drew w') => show (w'.cell? ⟨x, 0, none⟩ = some (.int .i64 32) ∧ w'.cell? ⟨x, 1, none⟩ = some (.slice v1.a v1.n v1.c) ∧ w'.cell? ⟨x, 2, none⟩ = some (.slice v2.a v2.n v2.c) ∧ w'.cell? ⟨x, 3, none⟩ = some (.slice v3.a v3.n v3.c) ∧ w'.cell? ⟨x, 4, none⟩ = some (.slice v4.a v4.n v4.c)) from by
                have c := fun (b o : Nat) (h : b < wf2.heap.size) => below_cell (w := wf2.drew) hz (b := b) (by exact h) o
                exact ⟨(c _ _ xl).trans x0, (c _ _ xl).trans x1, (c _ _ xl).trans x2, (c _ _ xl).trans x3, (c _ _ xl).trans x4⟩)
              have hz0 : Below wf2.heap.size wf2 wf2.drew := below_drew (Below.refl _ _)
              have A1 := Lib.hid (all_any (k + 2) wf2.drew w.heap.size t p s5 (SS.out.has.behind hz0) HL5.out (by omega))
              have A2 := Lib.hid (fun (W : World) (hW : Below wf2.drew.heap.size wf2.drew W) => rv_all (k + 2) W 32 s5 v1 v2 v3 v4 ((SS.out.ref.behind hz0).behind hW) HL5.out (by omega))
              have hmb : m ≤ 1000 := by have := allL_len s5.l; have h2 := (HL5.out.lo (by omega)).1; omega
              rw [← hm] at A1 A2
              clear hm hz0
              go_wp2_with fail
              go_region_held3 (fun w' => w'.cell? ⟨x, 0, none⟩ = some (.int .i64 32) ∧ w'.cell? ⟨x, 1, none⟩ = some (.slice v1.a v1.n v1.c) ∧ w'.cell? ⟨x, 2, none⟩ = some (.slice v2.a v2.n v2.c) ∧ w'.cell? ⟨x, 3, none⟩ = some (.slice v3.a v3.n v3.c) ∧ w'.cell? ⟨x, 4, none⟩ = some (.slice v4.a v4.n v4.c))
                (first | exact ⟨x0, x1, x2, x3, x4⟩ | assumption)
                (first | (go_at_call 28; (with_reducible refine A1.out.mono ?_); rintro e u1 ⟨aa, ca, rfl, hr1, hz1⟩; have S1 := HS.out u1 hz1; have R6 := Lib.hid hr1; clear hr1) | (go_at_call 29; (with_reducible refine (A2.out _ hz1).mono ?_); rintro e u2 ⟨la, lc, rfl, hr2, hz2⟩; have R7 := Lib.hid hr2; replace R6 := Lib.hid (ownsRow_below R6.out hz2); clear hr2; replace hz2 := below_trans hz1 hz2 hz1.size; have S2 := HS.out u2 hz2) | (go_at_call 16; (with_reducible refine (rsame_eq u2 _ _ m _ _ (allL s5.l) HM.out R6.out R7.out (by omega)).mono ?_); rintro e u3 ⟨rfl, d3, hd3⟩; have hz3 : Below wf2.drew.heap.size wf2.drew u3 := (by rw [← hd3]; exact below_drewN hz2 d3); have S3 := HS.out u3 hz3; have HD3 := Lib.hid hd3; clear hd3))
              have hzf3 : Below wf2.heap.size wf2 u3 := below_undrew hz3
              clear hz1 hz2 hz3 S1 S2 S3
              replace SS := Lib.hid (SS.out.behind hzf3)
              replace SH := Lib.hid (SH.out.behind hzf3)
              replace SP := Lib.hid (SP.out.behind hzf3)
              replace HZ := Lib.hid (below_trans HZ.out hzf3 HZ.out.size)
              clear hzf3 x0 x1 x2 x3 x4 xl
              go_wp2_with fail
              go_roundw
              case rel => exact ⟨k + 1, s5, T5, v1, v2, v3, v4, by omega, by omega, by go_num, HL5.out, HTR5.out, HT5.out.1, HT5.out.2, SS.out, HZ.out⟩
              case measure => simp [intOf]; omega
            · have kb : (ke == 0) = false := beq_eq_false_iff_ne.2 ke0
              clear ke0
              have HT5 : Hid (T.length ≤ k + 2 ∧ 0 < T.length) := Lib.hid (by have := HT.out; omega)
              obtain ⟨T5, rfl⟩ : ∃ T5, T5 = T := ⟨_, rfl⟩
              clear HQ2
              go_upto_region 36 with (fail)
              clear c0 c1 r0 r1 cl rl SC kb
              obtain ⟨x0, x1, x2, x3, x4⟩ := SS.out.box.c5
              have xl := SS.out.box.lt
              obtain ⟨z0, z1⟩ := SH.out.c2
              have zl := SH.out.lt
              go_wp2_with fail
              refine (same_any hi1 hg1 (k + 2) _ w.heap.size t p s5 v1 v2 v3 v4 SS.out.has SS.out.ref HL5.out (by omega) HTR5.out).mono ?_
              rintro e wf1 ⟨rfl, hzf1⟩
              replace SS := Lib.hid (SS.out.behind hzf1)
              replace SH := Lib.hid (SH.out.behind hzf1)
              replace SP := Lib.hid (SP.out.behind hzf1)
              replace HZ := Lib.hid (below_trans HZ.out hzf1 HZ.out.size)
              clear hzf1
              clear x0 x1 x2 x3 x4 xl z0 z1 zl
              obtain ⟨x0, x1, x2, x3, x4⟩ := SS.out.box.c5
              have xl := SS.out.box.lt
              obtain ⟨z0, z1⟩ := SP.out.c2
              have zl := SP.out.lt
              go_wp2_with fail
              refine (same_any gi1 gg1 (k + 2) _ w.heap.size t p s5 v1 v2 v3 v4 SS.out.has SS.out.ref HL5.out (by omega) HTR5.out).mono ?_
              rintro e wf2 ⟨rfl, hzf2⟩
              replace SS := Lib.hid (SS.out.behind hzf2)
              replace SH := Lib.hid (SH.out.behind hzf2)
              replace SP := Lib.hid (SP.out.behind hzf2)
              replace HZ := Lib.hid (below_trans HZ.out hzf2 HZ.out.size)
              clear hzf2
              clear x0 x1 x2 x3 x4 xl z0 z1 zl
              obtain ⟨x0, x1, x2, x3, x4⟩ := SS.out.box.c5
              have xl := SS.out.box.lt
              obtain ⟨m, hm⟩ : ∃ m, m = (allL s5.l).length := ⟨_, rfl⟩
              have HM := Lib.hid hm
              have HS := Lib.hid (fun (w' : World) (hz : Below wf2.drew.heap.size wf2.drew w') => show (w'.cell? ⟨x, 0, none⟩ = some (.int .i64 32) ∧ w'.cell? ⟨x, 1, none⟩ = some (.slice v1.a v1.n v1.c) ∧ w'.cell? ⟨x, 2, none⟩ = some (.slice v2.a v2.n v2.c) ∧ w'.cell? ⟨x, 3, none⟩ = some (.slice v3.a v3.n v3.c) ∧ w'.cell? ⟨x, 4, none⟩ = some (.slice v4.a v4.n v4.c)) from by
                have c := fun (b o : Nat) (h : b < wf2.heap.size) => below_cell (w := wf2.drew) hz (b := b) (by exact h) o
                exact ⟨(c _ _ xl).trans x0, (c _ _ xl).trans x1, (c _ _ xl).trans x2, (c _ _ xl).trans x3, (c _ _ xl).trans x4⟩)
              have hz0 : Below wf2.heap.size wf2 wf2.drew := below_drew (Below.refl _ _)
              have A1 := Lib.hid (all_any (k + 2) wf2.drew w.heap.size t p s5 (SS.out.has.behind hz0) HL5.out (by omega))
              have A2 := Lib.hid (fun (W : World) (hW : Below wf2.drew.heap.size wf2.drew W) => rv_all (k + 2) W 32 s5 v1 v2 v3 v4 ((SS.out.ref.behind hz0).behind hW) HL5.out (by omega))
              have hmb : m ≤ 1000 := by have := allL_len s5.l; have h2 := (HL5.out.lo (by omega)).1; omega
              rw [← hm] at A1 A2
              clear hm hz0
              go_wp2_with fail
              go_region_held3 (fun w' => w'.cell? ⟨x, 0, none⟩ = some (.int .i64 32) ∧ w'.cell? ⟨x, 1, none⟩ = some (.slice v1.a v1.n v1.c) ∧ w'.cell? ⟨x, 2, none⟩ = some (.slice v2.a v2.n v2.c) ∧ w'.cell? ⟨x, 3, none⟩ = some (.slice v3.a v3.n v3.c) ∧ w'.cell? ⟨x, 4, none⟩ = some (.slice v4.a v4.n v4.c))
                (first | exact ⟨x0, x1, x2, x3, x4⟩ | assumption)
                (first | (go_at_call 28; (with_reducible refine A1.out.mono ?_); rintro e u1 ⟨aa, ca, rfl, hr1, hz1⟩; have S1 := HS.out u1 hz1; have R6 := Lib.hid hr1; clear hr1) | (go_at_call 29; (with_reducible refine (A2.out _ hz1).mono ?_); rintro e u2 ⟨la, lc, rfl, hr2, hz2⟩; have R7 := Lib.hid hr2; replace R6 := Lib.hid (ownsRow_below R6.out hz2); clear hr2; replace hz2 := below_trans hz1 hz2 hz1.size; have S2 := HS.out u2 hz2) | (go_at_call 16; (with_reducible refine (rsame_eq u2 _ _ m _ _ (allL s5.l) HM.out R6.out R7.out (by omega)).mono ?_); rintro e u3 ⟨rfl, d3, hd3⟩; have hz3 : Below wf2.drew.heap.size wf2.drew u3 := (by rw [← hd3]; exact below_drewN hz2 d3); have S3 := HS.out u3 hz3; have HD3 := Lib.hid hd3; clear hd3))
              have hzf3 : Below wf2.heap.size wf2 u3 := below_undrew hz3
              clear hz1 hz2 hz3 S1 S2 S3
              replace SS := Lib.hid (SS.out.behind hzf3)
              replace SH := Lib.hid (SH.out.behind hzf3)
              replace SP := Lib.hid (SP.out.behind hzf3)
              replace HZ := Lib.hid (below_trans HZ.out hzf3 HZ.out.size)
              clear hzf3 x0 x1 x2 x3 x4 xl
              go_wp2_with fail
              go_roundw
              case rel => exact ⟨k + 1, s5, T5, v1, v2, v3, v4, by omega, by omega, by go_num, HL5.out, HTR5.out, HT5.out.1, HT5.out.2, SS.out, HZ.out⟩
              case measure => simp [intOf]; omega
          · have kb : (d.kd == 0) = false := beq_eq_false_iff_ne.2 k0
            by_cases k1 : d.kd = 1
            · have kb1 : (d.kd == 1) = true := beq_iff_eq.2 k1
              clear k0 k1
              go_upto_region 31 with (fail)
              clear y0 y1 y2 y3 y4 y5 y6 y7 l1 kb kb1
              obtain ⟨x0, x1, x2, x3, x4⟩ := SS.out.box.c5
              have xl := SS.out.box.lt
              obtain ⟨z0, z1⟩ := SH.out.c2
              have zl := SH.out.lt
              obtain ⟨p0, p1⟩ := SP.out.c2
              have pl := SP.out.lt
              go_wp2_with fail
              refine (destroy_any hi1 hg1 (k + 1) _ w.heap.size t p s SS.out.has HLk.out (by omega) HTRk.out).mono ?_
              rintro e w4 ⟨rfl, hp4, hs4⟩
              replace SH := Lib.hid (SH.out.step hs4 hzp)
              replace SP := Lib.hid (SP.out.step hs4 hup)
              replace SS := Lib.hid (SS.out.prog hp4 hs4)
              replace HZ := Lib.hid (HZ.out.trans hs4.below)
              clear hp4 hs4
              clear x0 x1 x2 x3 x4 xl z0 z1 zl
              clear p0 p1 pl
              have HC := Lib.hid (fun (W : World) v1 v2 v3 v4 h => rdestroy_any hi1 hg1 (k + 1) W s v1 v2 v3 v4 h HLk.out (by omega) HTRk.out)
              have HL5 := Lib.hid (HLk.out.des hi1 hg1)
              have HTR5 := Lib.hid (HTRk.out.des hi1 hg1)
              obtain ⟨s5, hs5⟩ : ∃ s5, s5 = s.des hi1 hg1 := ⟨_, rfl⟩
              obtain ⟨ke, hke⟩ : ∃ ke, ke = s.desE hi1 hg1 := ⟨_, rfl⟩
              rw [← hs5] at SS HC HL5 HTR5
              rw [← hke] at HC ⊢
              clear hs5 hke
              obtain ⟨x0, x1, x2, x3, x4⟩ := SS.out.box.c5
              have xl := SS.out.box.lt
              obtain ⟨z0, z1⟩ := SH.out.c2
              have zl := SH.out.lt
              obtain ⟨p0, p1⟩ := SP.out.c2
              have pl := SP.out.lt
              go_wp2_with fail
              refine (HC.out _ _ _ _ _ SS.out.ref).mono ?_
              rintro e w5 ⟨u1, u2, u3, u4, rfl, hr5, hz5⟩
              have RQ0 := Lib.hid hr5
              replace SS := Lib.hid (SS.out.behind hz5)
              replace SH := Lib.hid (SH.out.behind hz5)
              replace SP := Lib.hid (SP.out.behind hz5)
              replace HZ := Lib.hid (below_trans HZ.out hz5 HZ.out.size)
              clear hr5 hz5
              clear x0 x1 x2 x3 x4 xl z0 z1 zl
              clear p0 p1 pl
              go_upto_region 33 with (fail)
              have HXL := Lib.hid SS.out.box.lt
              obtain ⟨w6, hw6⟩ : ∃ w6, w6 = w5.alloc (.cells (vcl 32 u1 u2 u3 u4) 56) := ⟨_, rfl⟩
              have hz6 : Below w5.heap.size w5 w6 := by rw [hw6]; exact below_alloc _ _
              have HQ : Hid (Ux w6 w5.heap.size (vcl 32 u1 u2 u3 u4)) := Lib.hid (by rw [hw6]; exact Ux.new w5 _)
              have RQ := Lib.hid (RQ0.out.behind hz6)
              rw [← hw6]
              replace SS := Lib.hid (SS.out.behind hz6)
              replace SH := Lib.hid (SH.out.behind hz6)
              replace SP := Lib.hid (SP.out.behind hz6)
              replace HZ := Lib.hid (below_trans HZ.out hz6 HZ.out.size)
              clear hw6 hz6 RQ0
              obtain ⟨q, hq⟩ : ∃ q, q = w5.heap.size := ⟨_, rfl⟩
              rw [← hq] at HQ ⊢
              have hqx : ¬ x = q := by have h2 := HXL.out; omega
              clear hq HXL
              obtain ⟨q0, q1, q2, q3, q4⟩ := HQ.out.c5
              have ql := HQ.out.lt
              have xf := SS.out.box.frz
              obtain ⟨x0, x1, x2, x3, x4⟩ := SS.out.box.c5
              have xl := SS.out.box.lt
              go_upto_region 34 with (fail)
              obtain ⟨wq, hwq⟩ : ∃ wq, wq = put5 w6 x u1 u2 u3 u4 := ⟨_, rfl⟩
              rw [show ((((w6.setCell ⟨x, 0, none⟩ (.int .i64 32)).setCell ⟨x, 1, none⟩ (.slice u1.a u1.n u1.c)).setCell ⟨x, 2, none⟩ (.slice u2.a u2.n u2.c)).setCell ⟨x, 3, none⟩ (.slice u3.a u3.n u3.c)).setCell ⟨x, 4, none⟩ (.slice u4.a u4.n u4.c) = wq from hwq.symm]
              replace SS : Hid (Sit wq w.heap.size t p x s5 s5 u1 u2 u3 u4 (.slice vta T.length vtc) T) := Lib.hid (by rw [hwq]; exact SS.out.store RQ.out)
              replace SH : Hid (Hx wq z hi1 hg1) := Lib.hid (by rw [hwq]; exact SH.out.five hzx _ _ _ _)
              replace SP : Hid (Hx wq u gi1 gg1) := Lib.hid (by rw [hwq]; exact SP.out.five hux _ _ _ _)
              replace HZ : Hid (Below w.heap.size w wq) := Lib.hid (by rw [hwq]; exact put5_below HZ.out hxw _ _ _ _)
              clear hwq RQ HQ q0 q1 q2 q3 q4 ql xf x0 x1 x2 x3 x4 xl HC
              have HT5 : Hid (T.length ≤ k + 2 ∧ 0 < T.length) := Lib.hid (by have := HT.out; omega)
              obtain ⟨T5, rfl⟩ : ∃ T5, T5 = T := ⟨_, rfl⟩
              obtain ⟨v1, rfl⟩ : ∃ v1, v1 = u1 := ⟨_, rfl⟩
              obtain ⟨v2, rfl⟩ : ∃ v2, v2 = u2 := ⟨_, rfl⟩
              obtain ⟨v3, rfl⟩ : ∃ v3, v3 = u3 := ⟨_, rfl⟩
              obtain ⟨v4, rfl⟩ : ∃ v4, v4 = u4 := ⟨_, rfl⟩
              obtain ⟨x0, x1, x2, x3, x4⟩ := SS.out.box.c5
              have xl := SS.out.box.lt
              obtain ⟨z0, z1⟩ := SH.out.c2
              have zl := SH.out.lt
              go_wp2_with fail
              refine (same_any hi1 hg1 (k + 2) _ w.heap.size t p s5 v1 v2 v3 v4 SS.out.has SS.out.ref HL5.out (by omega) HTR5.out).mono ?_
              rintro e wf1 ⟨rfl, hzf1⟩
              replace SS := Lib.hid (SS.out.behind hzf1)
              replace SH := Lib.hid (SH.out.behind hzf1)
              replace SP := Lib.hid (SP.out.behind hzf1)
              replace HZ := Lib.hid (below_trans HZ.out hzf1 HZ.out.size)
              clear hzf1
              clear x0 x1 x2 x3 x4 xl z0 z1 zl
              obtain ⟨x0, x1, x2, x3, x4⟩ := SS.out.box.c5
              have xl := SS.out.box.lt
              obtain ⟨z0, z1⟩ := SP.out.c2
              have zl := SP.out.lt
              go_wp2_with fail
              refine (same_any gi1 gg1 (k + 2) _ w.heap.size t p s5 v1 v2 v3 v4 SS.out.has SS.out.ref HL5.out (by omega) HTR5.out).mono ?_
              rintro e wf2 ⟨rfl, hzf2⟩
              replace SS := Lib.hid (SS.out.behind hzf2)
              replace SH := Lib.hid (SH.out.behind hzf2)
              replace SP := Lib.hid (SP.out.behind hzf2)
              replace HZ := Lib.hid (below_trans HZ.out hzf2 HZ.out.size)
              clear hzf2
              clear x0 x1 x2 x3 x4 xl z0 z1 zl
              obtain ⟨x0, x1, x2, x3, x4⟩ := SS.out.box.c5
              have xl := SS.out.box.lt
              obtain ⟨m, hm⟩ : ∃ m, m = (allL s5.l).length := ⟨_, rfl⟩
              have HM := Lib.hid hm
              have HS := Lib.hid (fun (w' : World) (hz : Below wf2.drew.heap.size wf2.drew w') => show (w'.cell? ⟨x, 0, none⟩ = some (.int .i64 32) ∧ w'.cell? ⟨x, 1, none⟩ = some (.slice v1.a v1.n v1.c) ∧ w'.cell? ⟨x, 2, none⟩ = some (.slice v2.a v2.n v2.c) ∧ w'.cell? ⟨x, 3, none⟩ = some (.slice v3.a v3.n v3.c) ∧ w'.cell? ⟨x, 4, none⟩ = some (.slice v4.a v4.n v4.c)) from by
                have c := fun (b o : Nat) (h : b < wf2.heap.size) => below_cell (w := wf2.drew) hz (b := b) (by exact h) o
                exact ⟨(c _ _ xl).trans x0, (c _ _ xl).trans x1, (c _ _ xl).trans x2, (c _ _ xl).trans x3, (c _ _ xl).trans x4⟩)
              have hz0 : Below wf2.heap.size wf2 wf2.drew := below_drew (Below.refl _ _)
              have A1 := Lib.hid (all_any (k + 2) wf2.drew w.heap.size t p s5 (SS.out.has.behind hz0) HL5.out (by omega))
              have A2 := Lib.hid (fun (W : World) (hW : Below wf2.drew.heap.size wf2.drew W) => rv_all (k + 2) W 32 s5 v1 v2 v3 v4 ((SS.out.ref.behind hz0).behind hW) HL5.out (by omega))
              have hmb : m ≤ 1000 := by have := allL_len s5.l; have h2 := (HL5.out.lo (by omega)).1; omega
              rw [← hm] at A1 A2
              clear hm hz0
              go_wp2_with fail
              go_region_held3 (fun w' => w'.cell? ⟨x, 0, none⟩ = some (.int .i64 32) ∧ w'.cell? ⟨x, 1, none⟩ = some (.slice v1.a v1.n v1.c) ∧ w'.cell? ⟨x, 2, none⟩ = some (.slice v2.a v2.n v2.c) ∧ w'.cell? ⟨x, 3, none⟩ = some (.slice v3.a v3.n v3.c) ∧ w'.cell? ⟨x, 4, none⟩ = some (.slice v4.a v4.n v4.c))
                (first | exact ⟨x0, x1, x2, x3, x4⟩ | assumption)
                (first | (go_at_call 28; (with_reducible refine A1.out.mono ?_); rintro e u1 ⟨aa, ca, rfl, hr1, hz1⟩; have S1 := HS.out u1 hz1; have R6 := Lib.hid hr1; clear hr1) | (go_at_call 29; (with_reducible refine (A2.out _ hz1).mono ?_); rintro e u2 ⟨la, lc, rfl, hr2, hz2⟩; have R7 := Lib.hid hr2; replace R6 := Lib.hid (ownsRow_below R6.out hz2); clear hr2; replace hz2 := below_trans hz1 hz2 hz1.size; have S2 := HS.out u2 hz2) | (go_at_call 16; (with_reducible refine (rsame_eq u2 _ _ m _ _ (allL s5.l) HM.out R6.out R7.out (by omega)).mono ?_); rintro e u3 ⟨rfl, d3, hd3⟩; have hz3 : Below wf2.drew.heap.size wf2.drew u3 := (by rw [← hd3]; exact below_drewN hz2 d3); have S3 := HS.out u3 hz3; have HD3 := Lib.hid hd3; clear hd3))
              have hzf3 : Below wf2.heap.size wf2 u3 := below_undrew hz3
              clear hz1 hz2 hz3 S1 S2 S3
              replace SS := Lib.hid (SS.out.behind hzf3)
              replace SH := Lib.hid (SH.out.behind hzf3)
              replace SP := Lib.hid (SP.out.behind hzf3)
              replace HZ := Lib.hid (below_trans HZ.out hzf3 HZ.out.size)
              clear hzf3 x0 x1 x2 x3 x4 xl
              go_wp2_with fail
              go_roundw
              case rel => exact ⟨k + 1, s5, T5, v1, v2, v3, v4, by omega, by omega, by go_num, HL5.out, HTR5.out, HT5.out.1, HT5.out.2, SS.out, HZ.out⟩
              case measure => simp [intOf]; omega
            · have kb1 : (d.kd == 1) = false := beq_eq_false_iff_ne.2 k1
              clear k0 k1
              go_upto_region 17 with (fail)
              clear y0 y1 y2 y3 y4 y5 y6 y7 l1 kb kb1
              obtain ⟨x0, x1, x2, x3, x4⟩ := SS.out.box.c5
              have xl := SS.out.box.lt
              obtain ⟨z0, z1⟩ := SH.out.c2
              have zl := SH.out.lt
              obtain ⟨p0, p1⟩ := SP.out.c2
              have pl := SP.out.lt
              go_wp2_with fail
              refine (move_any hi1 hg1 gi1 gg1 (k + 1) _ w.heap.size t p s SS.out.has HLk.out (by omega) HTRk.out).mono ?_
              rintro e w4 ⟨rfl, hp4, hs4⟩
              replace SH := Lib.hid (SH.out.step hs4 hzp)
              replace SP := Lib.hid (SP.out.step hs4 hup)
              replace SS := Lib.hid (SS.out.prog hp4 hs4)
              replace HZ := Lib.hid (HZ.out.trans hs4.below)
              clear hp4 hs4
              clear x0 x1 x2 x3 x4 xl z0 z1 zl
              clear p0 p1 pl
              have HC := Lib.hid (fun (W : World) v1 v2 v3 v4 h => rmove_any hi1 hg1 gi1 gg1 (k + 1) W s v1 v2 v3 v4 h HLk.out (by omega) HTRk.out)
              have HL5 := Lib.hid (HLk.out.mov hi1 hg1 gi1 gg1)
              have HTR5 := Lib.hid (HTRk.out.mov hi1 hg1 gi1 gg1)
              obtain ⟨s5, hs5⟩ : ∃ s5, s5 = s.mov hi1 hg1 gi1 gg1 := ⟨_, rfl⟩
              obtain ⟨ke, hke⟩ : ∃ ke, ke = s.movE hi1 hg1 gi1 gg1 := ⟨_, rfl⟩
              rw [← hs5] at SS HC HL5 HTR5
              rw [← hke] at HC ⊢
              clear hs5 hke
              obtain ⟨x0, x1, x2, x3, x4⟩ := SS.out.box.c5
              have xl := SS.out.box.lt
              obtain ⟨z0, z1⟩ := SH.out.c2
              have zl := SH.out.lt
              obtain ⟨p0, p1⟩ := SP.out.c2
              have pl := SP.out.lt
              go_wp2_with fail
              refine (HC.out _ _ _ _ _ SS.out.ref).mono ?_
              rintro e w5 ⟨u1, u2, u3, u4, rfl, hr5, hz5⟩
              have RQ0 := Lib.hid hr5
              replace SS := Lib.hid (SS.out.behind hz5)
              replace SH := Lib.hid (SH.out.behind hz5)
              replace SP := Lib.hid (SP.out.behind hz5)
              replace HZ := Lib.hid (below_trans HZ.out hz5 HZ.out.size)
              clear hr5 hz5
              clear x0 x1 x2 x3 x4 xl z0 z1 zl
              clear p0 p1 pl
              go_upto_region 19 with (fail)
              have HXL := Lib.hid SS.out.box.lt
              obtain ⟨w6, hw6⟩ : ∃ w6, w6 = w5.alloc (.cells (vcl 32 u1 u2 u3 u4) 56) := ⟨_, rfl⟩
              have hz6 : Below w5.heap.size w5 w6 := by rw [hw6]; exact below_alloc _ _
              have HQ : Hid (Ux w6 w5.heap.size (vcl 32 u1 u2 u3 u4)) := Lib.hid (by rw [hw6]; exact Ux.new w5 _)
              have RQ := Lib.hid (RQ0.out.behind hz6)
              rw [← hw6]
              replace SS := Lib.hid (SS.out.behind hz6)
              replace SH := Lib.hid (SH.out.behind hz6)
              replace SP := Lib.hid (SP.out.behind hz6)
              replace HZ := Lib.hid (below_trans HZ.out hz6 HZ.out.size)
              clear hw6 hz6 RQ0
              obtain ⟨q, hq⟩ : ∃ q, q = w5.heap.size := ⟨_, rfl⟩
              rw [← hq] at HQ ⊢
              have hqx : ¬ x = q := by have h2 := HXL.out; omega
              clear hq HXL
              obtain ⟨q0, q1, q2, q3, q4⟩ := HQ.out.c5
              have ql := HQ.out.lt
              have xf := SS.out.box.frz
              obtain ⟨x0, x1, x2, x3, x4⟩ := SS.out.box.c5
              have xl := SS.out.box.lt
              go_upto_region 20 with (fail)
              obtain ⟨wq, hwq⟩ : ∃ wq, wq = put5 w6 x u1 u2 u3 u4 := ⟨_, rfl⟩
              rw [show ((((w6.setCell ⟨x, 0, none⟩ (.int .i64 32)).setCell ⟨x, 1, none⟩ (.slice u1.a u1.n u1.c)).setCell ⟨x, 2, none⟩ (.slice u2.a u2.n u2.c)).setCell ⟨x, 3, none⟩ (.slice u3.a u3.n u3.c)).setCell ⟨x, 4, none⟩ (.slice u4.a u4.n u4.c) = wq from hwq.symm]
              replace SS : Hid (Sit wq w.heap.size t p x s5 s5 u1 u2 u3 u4 (.slice vta T.length vtc) T) := Lib.hid (by rw [hwq]; exact SS.out.store RQ.out)
              replace SH : Hid (Hx wq z hi1 hg1) := Lib.hid (by rw [hwq]; exact SH.out.five hzx _ _ _ _)
              replace SP : Hid (Hx wq u gi1 gg1) := Lib.hid (by rw [hwq]; exact SP.out.five hux _ _ _ _)
              replace HZ : Hid (Below w.heap.size w wq) := Lib.hid (by rw [hwq]; exact put5_below HZ.out hxw _ _ _ _)
              clear hwq RQ HQ q0 q1 q2 q3 q4 ql xf x0 x1 x2 x3 x4 xl HC
              have HT5 : Hid (T.length ≤ k + 2 ∧ 0 < T.length) := Lib.hid (by have := HT.out; omega)
              obtain ⟨T5, rfl⟩ : ∃ T5, T5 = T := ⟨_, rfl⟩
              obtain ⟨v1, rfl⟩ : ∃ v1, v1 = u1 := ⟨_, rfl⟩
              obtain ⟨v2, rfl⟩ : ∃ v2, v2 = u2 := ⟨_, rfl⟩
              obtain ⟨v3, rfl⟩ : ∃ v3, v3 = u3 := ⟨_, rfl⟩
              obtain ⟨v4, rfl⟩ : ∃ v4, v4 = u4 := ⟨_, rfl⟩
              obtain ⟨x0, x1, x2, x3, x4⟩ := SS.out.box.c5
              have xl := SS.out.box.lt
              obtain ⟨z0, z1⟩ := SH.out.c2
              have zl := SH.out.lt
              go_wp2_with fail
              refine (same_any hi1 hg1 (k + 2) _ w.heap.size t p s5 v1 v2 v3 v4 SS.out.has SS.out.ref HL5.out (by omega) HTR5.out).mono ?_
              rintro e wf1 ⟨rfl, hzf1⟩
              replace SS := Lib.hid (SS.out.behind hzf1)
              replace SH := Lib.hid (SH.out.behind hzf1)
              replace SP := Lib.hid (SP.out.behind hzf1)
              replace HZ := Lib.hid (below_trans HZ.out hzf1 HZ.out.size)
              clear hzf1
              clear x0 x1 x2 x3 x4 xl z0 z1 zl
              obtain ⟨x0, x1, x2, x3, x4⟩ := SS.out.box.c5
              have xl := SS.out.box.lt
              obtain ⟨z0, z1⟩ := SP.out.c2
              have zl := SP.out.lt
              go_wp2_with fail
              refine (same_any gi1 gg1 (k + 2) _ w.heap.size t p s5 v1 v2 v3 v4 SS.out.has SS.out.ref HL5.out (by omega) HTR5.out).mono ?_
              rintro e wf2 ⟨rfl, hzf2⟩
              replace SS := Lib.hid (SS.out.behind hzf2)
              replace SH := Lib.hid (SH.out.behind hzf2)
              replace SP := Lib.hid (SP.out.behind hzf2)
              replace HZ := Lib.hid (below_trans HZ.out hzf2 HZ.out.size)
              clear hzf2
              clear x0 x1 x2 x3 x4 xl z0 z1 zl
              obtain ⟨x0, x1, x2, x3, x4⟩ := SS.out.box.c5
              have xl := SS.out.box.lt
              obtain ⟨m, hm⟩ : ∃ m, m = (allL s5.l).length := ⟨_, rfl⟩
              have HM := Lib.hid hm
              have HS := Lib.hid (fun (w' : World) (hz : Below wf2.drew.heap.size wf2.drew w') => show (w'.cell? ⟨x, 0, none⟩ = some (.int .i64 32) ∧ w'.cell? ⟨x, 1, none⟩ = some (.slice v1.a v1.n v1.c) ∧ w'.cell? ⟨x, 2, none⟩ = some (.slice v2.a v2.n v2.c) ∧ w'.cell? ⟨x, 3, none⟩ = some (.slice v3.a v3.n v3.c) ∧ w'.cell? ⟨x, 4, none⟩ = some (.slice v4.a v4.n v4.c)) from by
                have c := fun (b o : Nat) (h : b < wf2.heap.size) => below_cell (w := wf2.drew) hz (b := b) (by exact h) o
                exact ⟨(c _ _ xl).trans x0, (c _ _ xl).trans x1, (c _ _ xl).trans x2, (c _ _ xl).trans x3, (c _ _ xl).trans x4⟩)
              have hz0 : Below wf2.heap.size wf2 wf2.drew := below_drew (Below.refl _ _)
              have A1 := Lib.hid (all_any (k + 2) wf2.drew w.heap.size t p s5 (SS.out.has.behind hz0) HL5.out (by omega))
              have A2 := Lib.hid (fun (W : World) (hW : Below wf2.drew.heap.size wf2.drew W) => rv_all (k + 2) W 32 s5 v1 v2 v3 v4 ((SS.out.ref.behind hz0).behind hW) HL5.out (by omega))
              have hmb : m ≤ 1000 := by have := allL_len s5.l; have h2 := (HL5.out.lo (by omega)).1; omega
              rw [← hm] at A1 A2
              clear hm hz0
              go_wp2_with fail
              go_region_held3 (fun w' => w'.cell? ⟨x, 0, none⟩ = some (.int .i64 32) ∧ w'.cell? ⟨x, 1, none⟩ = some (.slice v1.a v1.n v1.c) ∧ w'.cell? ⟨x, 2, none⟩ = some (.slice v2.a v2.n v2.c) ∧ w'.cell? ⟨x, 3, none⟩ = some (.slice v3.a v3.n v3.c) ∧ w'.cell? ⟨x, 4, none⟩ = some (.slice v4.a v4.n v4.c))
                (first | exact ⟨x0, x1, x2, x3, x4⟩ | assumption)
                (first | (go_at_call 28; (with_reducible refine A1.out.mono ?_); rintro e u1 ⟨aa, ca, rfl, hr1, hz1⟩; have S1 := HS.out u1 hz1; have R6 := Lib.hid hr1; clear hr1) | (go_at_call 29; (with_reducible refine (A2.out _ hz1).mono ?_); rintro e u2 ⟨la, lc, rfl, hr2, hz2⟩; have R7 := Lib.hid hr2; replace R6 := Lib.hid (ownsRow_below R6.out hz2); clear hr2; replace hz2 := below_trans hz1 hz2 hz1.size; have S2 := HS.out u2 hz2) | (go_at_call 16; (with_reducible refine (rsame_eq u2 _ _ m _ _ (allL s5.l) HM.out R6.out R7.out (by omega)).mono ?_); rintro e u3 ⟨rfl, d3, hd3⟩; have hz3 : Below wf2.drew.heap.size wf2.drew u3 := (by rw [← hd3]; exact below_drewN hz2 d3); have S3 := HS.out u3 hz3; have HD3 := Lib.hid hd3; clear hd3))
              have hzf3 : Below wf2.heap.size wf2 u3 := below_undrew hz3
              clear hz1 hz2 hz3 S1 S2 S3
              replace SS := Lib.hid (SS.out.behind hzf3)
              replace SH := Lib.hid (SH.out.behind hzf3)
              replace SP := Lib.hid (SP.out.behind hzf3)
              replace HZ := Lib.hid (below_trans HZ.out hzf3 HZ.out.size)
              clear hzf3 x0 x1 x2 x3 x4 xl
              go_wp2_with fail
              go_roundw
              case rel => exact ⟨k + 1, s5, T5, v1, v2, v3, v4, by omega, by omega, by go_num, HL5.out, HTR5.out, HT5.out.1, HT5.out.2, SS.out, HZ.out⟩
              case measure => simp [intOf]; omega
      · go_wp2
        go_ret
        exact ⟨rfl, HZr.out⟩
    · go_wp2
      go_ret
      exact ⟨rfl, HZr.out⟩
end Go.Proofs.Ytnbljnpfmeidfaa
