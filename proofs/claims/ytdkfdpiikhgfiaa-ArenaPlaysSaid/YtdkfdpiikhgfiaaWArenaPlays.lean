/- The walk of the law ArenaPlays: it returns true. Condition: the last argument reads as a slice of Deed. -/
import Derived.Test.YtdkfdpiikhgfiaaPlaySit
namespace Go.Proofs.Ytdkfdpiikhgfiaa
open Go Go.RowKit Go.ChangeShapes Go.WideShapes
set_option linter.unusedVariables false

set_option maxHeartbeats 8000000 in
set_option maxRecDepth 100000 in
theorem walk_ArenaPlays (room : Int) (a : Option Addr) (len capo : Nat) (f : Nat → Ded) (w : World) (h : DeedsAt w a len f) (hlen : len ≤ 9223372036854775807) :
    Calls Try.prog 7 #[.int .i64 room, .slice a len capo] w fun e w' => e = .returned (.bool true) ∧ Below w.heap.size w w' := by
  have HE := Lib.hid h; clear h
  obtain ⟨i0, hi, hz0, hz1, hz2⟩ := info_parts rinfo_handle
  by_cases hps : room < 1 ∨ 4096 < room
  · have HP := Lib.hid hps; clear hps
    go_enter Try.func7, Try.ntmps7
    go_wp2_with fail
    refine (awake _).mono ?_
    rintro e w1 ⟨rfl, hz1⟩
    have HZ1 := Lib.hid hz1; clear hz1
    go_wp2_with fail
    refine (new_no _ _ HP.out).mono ?_
    rintro e w2 ⟨rfl, rfl⟩
    go_wp2_with fail
    refine (rnewp_no _ _ HP.out).mono ?_
    rintro e w2 ⟨rfl, hz2⟩
    have HZ2 := Lib.hid (below_trans HZ1.out hz2 HZ1.out.size); clear hz2
    go_wp2
    go_ret
    exact ⟨rfl, HZ2.out.alloc HZ2.out.size _⟩
  · have hps1 : 1 ≤ room ∧ room ≤ 4096 := by omega
    have HP := Lib.hid hps1; clear hps hps1
    go_enter Try.func7, Try.ntmps7
    go_wp2_with fail
    refine (awake _).mono ?_
    rintro e w1 ⟨rfl, hz1⟩
    have HZ1 := Lib.hid hz1; clear hz1
    go_wp2_with fail
    refine (new_yes room _ HP.out).mono ?_
    rintro e w2 ⟨rfl, rfl⟩
    obtain ⟨w2, hw2⟩ : ∃ w2, w2 = w1.alloc (.cells #[.int .i64 room, .int .i64 0, .slice none 0 0, .int .i64 (-1)] 64) := ⟨_, rfl⟩
    obtain ⟨p, hp⟩ : ∃ p, p = w1.heap.size := ⟨_, rfl⟩
    have HP2 : Hid (PlX w2 w.heap.size p room ⟨[], -1, [], 0⟩) := Lib.hid (by rw [hw2, hp]; exact ⟨_, HasPool.made w1 room w.heap.size HZ1.out.size⟩)
    have HZ2 : Hid (Below w.heap.size w w2) := Lib.hid (by rw [hw2]; exact HZ1.out.alloc HZ1.out.size _)
    rw [← hw2, ← hp]
    clear hw2 hp
    go_wp2_with fail
    refine (rnewp_yes _ _ HP.out).mono ?_
    rintro e w3 ⟨rfl, hz3⟩
    have HP3 := Lib.hid (HP2.out.behind hz3)
    have HZ3 := Lib.hid (below_trans HZ2.out hz3 HZ2.out.size); clear hz3
    have hpx : w3.heap.size ≠ p := by have := HP3.out.lt; omega
    have hxw : w.heap.size ≤ w3.heap.size := HZ3.out.size
    obtain ⟨w4, hw4⟩ : ∃ w4, w4 = w3.alloc (.cells (vcl room ⟨none, 0, 0⟩ ⟨none, 0, 0⟩ ⟨none, 0, 0⟩ ⟨none, 0, 0⟩) 45) := ⟨_, rfl⟩
    have S0 : Hid (Sit w4 w.heap.size p w3.heap.size room ⟨[], -1, [], 0⟩ ⟨[], -1, [], 0⟩ ⟨none, 0, 0⟩ ⟨none, 0, 0⟩ ⟨none, 0, 0⟩ ⟨none, 0, 0⟩ (.slice none 0 0) []) := Lib.hid (by
      rw [hw4]
      exact ⟨HP3.out.behind (below_alloc _ _), Px.new _ _, ⟨none, 0, none, 0, none, 0, none, 0, rfl, refP_nil _ room⟩, World.ownsRow_nil _ _ _ _, hpx⟩)
    have HZ4 : Hid (Below w.heap.size w w4) := Lib.hid (by rw [hw4]; exact HZ3.out.alloc hxw _)
    have HW := Lib.hid hw4
    obtain ⟨x, hx⟩ : ∃ x, x = w3.heap.size := ⟨_, rfl⟩
    clear hw4
    go_upto_region 4 with (fail)
    rw [← HW.out]
    rw [← hx] at S0 hpx hxw ⊢
    clear HW HP2 HP3 HZ1 HZ2 HZ3 hx
    go_wp2_with fail
    go_loopw [10, 11] (fun vt i wr => ∃ (k : Nat) (s : Ps) (T : List (Nat × Int)) (v1 v2 v3 v4 : Sv), k ≤ len ∧ k ≤ 100 ∧ i = .int .i64 k ∧ s.Ok room k ∧ T.length ≤ k ∧ Sit wr w.heap.size p x room s s v1 v2 v3 v4 vt T ∧ Below w.heap.size w wr) (fun _ i _ => 100 - (intOf i).toNat)
    case atStart => exact ⟨0, ⟨[], -1, [], 0⟩, [], _, _, _, _, by omega, by omega, rfl, Ps.Ok.start room HP.out.1, by simp, S0.out, HZ4.out⟩
    case round =>
      obtain ⟨k, s, T, v1, v2, v3, v4, hk, hk2, rfl, hl, hT, hs, hz⟩ := hrel
      obtain ⟨vta, vtc, hvt⟩ := hrow_nil hs.told
      subst hvt
      have HZr := Lib.hid hz
      have HT := Lib.hid hT
      by_cases hlt : k < len
      · by_cases hlt1 : k < 100
        · obtain ⟨bo, off, rfl, hbo, hc⟩ := HE.out k hlt
          obtain ⟨hc0, hc1, hc2, hc3, hc4⟩ : wr.cell? ⟨bo, off + k * 5, none⟩ = some (.int .i64 (f k).kd) ∧ wr.cell? ⟨bo, off + k * 5 + 1, none⟩ = some (.int .i64 (f k).n) ∧ wr.cell? ⟨bo, off + k * 5 + 2, none⟩ = some (.int .i64 (f k).old) ∧ wr.cell? ⟨bo, off + k * 5 + 3, none⟩ = some (.int .i64 (f k).i) ∧ wr.cell? ⟨bo, off + k * 5 + 4, none⟩ = some (.int .i64 (f k).g) := by
            rw [HZr.out.cell (p := ⟨bo, off + k * 5, none⟩) hbo, HZr.out.cell (p := ⟨bo, off + k * 5 + 1, none⟩) hbo, HZr.out.cell (p := ⟨bo, off + k * 5 + 2, none⟩) hbo, HZr.out.cell (p := ⟨bo, off + k * 5 + 3, none⟩) hbo, HZr.out.cell (p := ⟨bo, off + k * 5 + 4, none⟩) hbo]; exact hc
          have hbr : bo < wr.heap.size := by have := hz.size; omega
          clear hc
          generalize f k = d at *
          have hpl := hs.has.lt
          have hxl := hs.box.lt
          obtain ⟨y, hy⟩ : ∃ y, y = wr.heap.size := ⟨_, rfl⟩
          have hyp : y ≠ p := by omega
          have hyx : y ≠ x := by omega
          obtain ⟨wb, hwb⟩ : ∃ wb, wb = wr.alloc (.cells (dcells d) 49) := ⟨_, rfl⟩
          have SB : Hid (Sit wb w.heap.size p x room s s v1 v2 v3 v4 (.slice vta T.length vtc) T) := Lib.hid (by rw [hwb]; exact hs.behind (below_alloc _ _))
          have DB : Hid (Dx wb y d) := Lib.hid (by rw [hwb, hy]; exact Dx.new wr d)
          have ZB : Hid (Below w.heap.size w wb) := Lib.hid (by rw [hwb]; exact hz.alloc hz.size _)
          have HLk := Lib.hid hl
          have HW := Lib.hid hwb
          have HY := Lib.hid hy
          clear hs hl hz hT hpl hxl hwb hy
          go_upto_region 13 with (fail)
          rw [← HW.out, ← HY.out]
          clear HW HY hc0 hc1 hc2 hc3 hc4
          obtain ⟨y0, y1, y2, y3, y4⟩ := DB.out.c5
          have l1 := DB.out.lt
          go_wp2_with fail
          refine (which_any d _ w.heap.size _ T SB.out.told (by have := HT.out; omega)).mono ?_
          rintro e wc ⟨rfl, hzc⟩
          obtain ⟨hi1, hhi⟩ : ∃ hi1, hi1 = hdI T d := ⟨_, rfl⟩
          obtain ⟨hg1, hhg⟩ : ∃ hg1, hg1 = hdG T d := ⟨_, rfl⟩
          obtain ⟨z, hzz⟩ : ∃ z, z = wc.heap.size := ⟨_, rfl⟩
          obtain ⟨wd, hwd⟩ : ∃ wd, wd = wc.alloc (.cells #[.int .i64 hi1, .int .i64 hg1] 31) := ⟨_, rfl⟩
          have SS : Hid (Sit wd w.heap.size p x room s s v1 v2 v3 v4 (.slice vta T.length vtc) T) := Lib.hid (by rw [hwd]; exact (SB.out.behind hzc).behind (below_alloc _ _))
          have SD : Hid (Dx wd y d) := Lib.hid (by rw [hwd]; exact (DB.out.behind hzc).alloc _)
          have HZ : Hid (Below w.heap.size w wd) := Lib.hid (by rw [hwd]; exact (below_trans ZB.out hzc ZB.out.size).alloc (below_trans ZB.out hzc ZB.out.size).size _)
          have SH : Hid (Hx wd z hi1 hg1) := Lib.hid (by rw [hwd, hzz]; exact Hx.new wc _ _)
          have hzp : z ≠ p := by have := SB.out.has.lt; have := hzc.size; omega
          have hzx : z ≠ x := by have := SB.out.box.lt; have := hzc.size; omega
          rw [← hhi, ← hhg]
          have HW := Lib.hid hwd
          have HY := Lib.hid hzz
          clear hwd hzz hhi hhg hzc y0 y1 y2 y3 y4 l1 SB DB ZB
          go_upto_region 14 with (fail)
          rw [← HW.out, ← HY.out]
          clear HW HY
          by_cases k0 : d.kd = 0
          · have kb : (d.kd == 0) = true := beq_iff_eq.2 k0
            clear k0
            obtain ⟨q0, q1, q2, q3, q4⟩ := SS.out.box.c5
            obtain ⟨y0, y1, y2, y3, y4⟩ := SD.out.c5
            have f0 := SS.out.box.frz
            have l0 := SS.out.box.lt
            have l1 := SD.out.lt
            go_wp2_with fail
            refine (pl_put d.n k _ w.heap.size p room s SS.out.has HLk.out (by omega) HZ.out.size).mono ?_
            rintro e w4 ⟨rfl, hp4, hs4⟩
            have D4 := Lib.hid (SD.out.step hs4 hyp)
            have S4 := Lib.hid (SS.out.prog hp4 hs4)
            have Z4 := Lib.hid (HZ.out.trans hs4.below)
            clear hp4 hs4 q0 q1 q2 q3 q4 y0 y1 y2 y3 y4 f0 l0 l1
            obtain ⟨ki, hki⟩ : ∃ ki, ki = s.putI room := ⟨_, rfl⟩
            obtain ⟨kg, hkg⟩ : ∃ kg, kg = s.putG room := ⟨_, rfl⟩
            obtain ⟨ke, hke⟩ : ∃ ke, ke = s.putE room := ⟨_, rfl⟩
            obtain ⟨s5, hs5⟩ : ∃ s5, s5 = s.put room d.n := ⟨_, rfl⟩
            have HC := Lib.hid (fun w v1 v2 v3 v4 h => rv_put d.n k w room s v1 v2 v3 v4 h HLk.out (by omega))
            have HL5 := Lib.hid (HLk.out.put d.n)
            rw [← hs5] at S4 HC HL5
            rw [← hki, ← hkg, ← hke] at HC ⊢
            clear hki hkg hke hs5
            go_upto_region 22 with (fail)
            obtain ⟨wp, hwp⟩ : ∃ wp, wp = w4.alloc (.cells #[.int .i64 ki, .int .i64 kg] 31) := ⟨_, rfl⟩
            have SP : Hid (Sit wp w.heap.size p x room s5 s v1 v2 v3 v4 (.slice vta T.length vtc) T) := Lib.hid (by rw [hwp]; exact S4.out.behind (below_alloc _ _))
            have DP : Hid (Dx wp y d) := Lib.hid (by rw [hwp]; exact D4.out.alloc _)
            have XP : Hid (Hx wp w4.heap.size ki kg) := Lib.hid (by rw [hwp]; exact Hx.new w4 ki kg)
            have ZP : Hid (Below w.heap.size w wp) := Lib.hid (by rw [hwp]; exact Z4.out.alloc Z4.out.size _)
            rw [← hwp]
            clear hwp
            obtain ⟨q0, q1, q2, q3, q4⟩ := SP.out.box.c5
            obtain ⟨y0, y1, y2, y3, y4⟩ := DP.out.c5
            have f0 := SP.out.box.frz
            have l0 := SP.out.box.lt
            have l1 := DP.out.lt
            go_wp2_with fail
            refine (HC.out _ _ _ _ _ SP.out.ref).mono ?_
            rintro e w5 ⟨u1, u2, u3, u4, rfl, hr5, hz5⟩
            have R5 := Lib.hid hr5
            have S5 := Lib.hid (SP.out.behind hz5)
            have X5 := Lib.hid (XP.out.behind hz5)
            have Z5 := Lib.hid (below_trans ZP.out hz5 ZP.out.size)
            clear hr5 hz5 q0 q1 q2 q3 q4 y0 y1 y2 y3 y4 f0 l0 l1
            obtain ⟨q0, q1, q2, q3, q4⟩ := S5.out.box.c5
            have f0 := S5.out.box.frz
            have l0 := S5.out.box.lt
            have hnx : w4.heap.size ≠ x := Hx.ne X5.out S5.out.box
            go_upto_region 24 with (fail)
            obtain ⟨wq, hwq⟩ : ∃ wq, wq = ((((w5.setCell ⟨x, 0, none⟩ (.int .i64 room)).setCell ⟨x, 1, none⟩ (.slice u1.a u1.n u1.c)).setCell ⟨x, 2, none⟩ (.slice u2.a u2.n u2.c)).setCell ⟨x, 3, none⟩ (.slice u3.a u3.n u3.c)).setCell ⟨x, 4, none⟩ (.slice u4.a u4.n u4.c) := ⟨_, rfl⟩
            rw [← hwq]
            have SQ : Hid (Sit wq w.heap.size p x room s5 s5 u1 u2 u3 u4 (.slice vta T.length vtc) T) := Lib.hid (by rw [hwq]; exact S5.out.store R5.out)
            have ZQ : Hid (Below w.heap.size w wq) := Lib.hid (by rw [hwq]; exact put5_below Z5.out hxw room u1 u2 u3 u4)
            have XQ : Hid (Hx wq w4.heap.size ki kg) := Lib.hid (by rw [hwq]; exact X5.out.put5 hnx)
            have hqs : wq.heap.size = w5.heap.size := by rw [hwq]; simp
            clear hwq q0 q1 q2 q3 q4 f0 l0
            obtain ⟨w6, hw6⟩ : ∃ w6, w6 = (wq.alloc (.cells (vcl room u1 u2 u3 u4) 45)).alloc (.cells #[.int .i64 ki, .int .i64 kg] 31) := ⟨_, rfl⟩
            rw [← hw6]
            have hbq : Below wq.heap.size wq w6 := by rw [hw6]; exact ((Below.refl _ wq).alloc (Nat.le_refl _) _).alloc (by simp) _
            have S6 := Lib.hid (SQ.out.behind hbq)
            have X6 := Lib.hid (XQ.out.behind hbq)
            have Y6 : Hid (Hx w6 (w5.heap.size + 1) ki kg) := Lib.hid (by rw [hw6, ← hqs]; exact Hx.new1 wq _ ki kg)
            have Z6 := Lib.hid (below_trans ZQ.out hbq ZQ.out.size)
            clear hbq hw6 hqs SQ ZQ XQ
            obtain ⟨m, hm⟩ : ∃ m, m = T.length := ⟨_, rfl⟩
            have HTm : Hid (m = T.length) := Lib.hid hm
            have S6t : Hid (w6.ownsRow w.heap.size 31 2 (.slice vta m vtc) m (hcl T)) := Lib.hid (by rw [hm]; exact S6.out.told)
            rw [← hm]
            have hmk : m ≤ 100 := by have := HT.out; omega
            clear hm
            obtain ⟨y0, y1⟩ := X6.out.c2
            obtain ⟨y2, y3⟩ := Y6.out.c2
            have l0 := X6.out.lt
            have l1 := Y6.out.lt
            have hsz := Z6.out.size
            go_wp2_with (at_builtin; go_loud (refine wpList_append_own _ rfl _ _ 28 rfl w.heap.size 31 i0 (.agg #[.int .i64 0, .int .i64 0]) 2 16 Try.underlying28 hi hz0 hz1 hz2 rfl (by decide) _ m (hcl T) rfl (S6t.out.alloc _) ⟨w6.heap.size, 0, none⟩ 1 1 [.int .i64 ki, .int .i64 kg] rfl rfl ?c1 ?c2 ?c3 ?c4 ?c5 ?_))
            case c1 =>
              intro jj u hj'
              have hj0 : jj = 0 ∨ jj = 1 := by have := (List.getElem?_eq_some_iff.1 hj').1; simp at this; omega
              rcases hj0 with rfl | rfl
              · simp at hj'
                subst hj'
                simp [go_sem]
              · simp at hj'
                subst hj'
                simp [go_sem]
            case c2 => intro u hu; simp at hu; rcases hu with rfl | rfl <;> rfl
            case c3 => unfold maxLen; omega
            case c4 => omega
            case c5 => simp; omega
            intro vt5 wt hown5 hgrow5 _
            have SN : Hid (Sit wt w.heap.size p x room s5 s5 u1 u2 u3 u4 vt5 (T ++ [(ki, kg)])) := Lib.hid (S6.out.tell (by rw [← HTm.out]; exact hgrow5) (by rw [← HTm.out]; exact hown5))
            have ZN : Hid (Below w.heap.size w wt) := Lib.hid (Below.grown (Z6.out.alloc hsz _) hgrow5 (by simp; omega) (fun kk hk' => (S6t.out.lt kk hk').1))
            have HT5 : Hid ((T ++ [(ki, kg)]).length ≤ k + 1) := Lib.hid (by have := HT.out; simp; omega)
            clear hown5 hgrow5 y0 y1 y2 y3 l0 l1 hsz S6 Z6 X6 Y6 S6t
            generalize T ++ [(ki, kg)] = T5 at SN HT5
            have S6 := SN
            have Z6 := ZN
            clear SN ZN
            obtain ⟨q0, q1, q2, q3, q4⟩ := S6.out.box.c5
            have l0 := S6.out.box.lt
            go_wp2_with fail
            refine (rv_all (k + 1) _ room s5 _ _ _ _ S6.out.ref HL5.out (by omega)).mono ?_
            rintro e w7 ⟨aa, ca, rfl, hrow7, hz7⟩
            have R7 := Lib.hid hrow7
            have S7 := Lib.hid (S6.out.behind hz7)
            have Z7 := Lib.hid (below_trans Z6.out hz7 Z6.out.size)
            clear hrow7 hz7 q0 q1 q2 q3 q4 l0
            obtain ⟨m, hm⟩ : ∃ m, m = (allL s5.l).length := ⟨_, rfl⟩
            have HM := Lib.hid hm
            have HLen := Lib.hid (pv_len (k + 1) w7 w.heap.size p room s5 S7.out.has HL5.out)
            have HAll := Lib.hid (pv_all (k + 1) w7 w.heap.size p room s5 S7.out.has HL5.out (by omega))
            rw [← hm] at HLen HAll R7 ⊢
            clear hm
            go_wp2_with fail
            refine HLen.out.mono ?_
            rintro e w8 ⟨rfl, rfl⟩
            go_wp2_with fail
            refine HAll.out.mono ?_
            rintro e w9 ⟨ab, cb, rfl, hrow9, hz9⟩
            have R9 := Lib.hid hrow9
            have R79 := Lib.hid (ownsRow_below R7.out hz9)
            have S9 := Lib.hid (S7.out.behind hz9)
            have Z9 := Lib.hid (below_trans Z7.out hz9 Z7.out.size)
            clear hrow9 hz9
            have hmb : m ≤ 9223372036854775807 := by have := HM.out; have h2 := allTo_length (usedOf s5.l) (gensOf s5.l) s5.l.length; have h3 := HL5.out.len; unfold allL at this; omega
            go_wp2_with fail
            refine (rsame_eq _ _ _ m _ _ (allL s5.l) HM.out R9.out R79.out hmb).mono ?_
            rintro e w10 ⟨rfl, dd, rfl⟩
            have S10 := Lib.hid (S9.out.behind (below_drewN (Below.refl _ _) dd))
            have Z10 := Lib.hid (below_drewN Z9.out dd)
            go_wp2_with fail
            go_roundw
            case rel => exact ⟨k + 1, s5, T5, u1, u2, u3, u4, by omega, by omega, by go_num, HL5.out, HT5.out, S10.out, Z10.out⟩
            case measure => simp [intOf]; omega
          · have kb : (d.kd == 0) = false := beq_eq_false_iff_ne.2 k0
            by_cases k1 : d.kd = 1
            · have kb1 : (d.kd == 1) = true := beq_iff_eq.2 k1
              clear k0 k1
              obtain ⟨q0, q1, q2, q3, q4⟩ := SS.out.box.c5
              obtain ⟨y0, y1, y2, y3, y4⟩ := SD.out.c5
              obtain ⟨h0, h1⟩ := SH.out.c2
              have f0 := SS.out.box.frz
              have l0 := SS.out.box.lt
              have l1 := SD.out.lt
              have l2 := SH.out.lt
              go_wp2_with fail
              refine (pl_get hi1 hg1 k _ w.heap.size p room s SS.out.has HLk.out (by omega)).mono ?_
              rintro e w4 ⟨rfl, hz4⟩
              have S4 := Lib.hid (SS.out.behind hz4)
              have D4 := Lib.hid (SD.out.behind hz4)
              have H4 := Lib.hid (SH.out.behind hz4)
              have Z4 := Lib.hid (below_trans HZ.out hz4 HZ.out.size)
              clear hz4
              clear q0 q1 q2 q3 q4 y0 y1 y2 y3 y4 h0 h1 f0 l0 l1 l2
              obtain ⟨q0, q1, q2, q3, q4⟩ := S4.out.box.c5
              obtain ⟨y0, y1, y2, y3, y4⟩ := D4.out.c5
              obtain ⟨h0, h1⟩ := H4.out.c2
              have f0 := S4.out.box.frz
              have l0 := S4.out.box.lt
              have l1 := D4.out.lt
              have l2 := H4.out.lt
              go_wp2_with fail
              refine (rv_get hi1 hg1 k _ room s v1 v2 v3 v4 S4.out.ref HLk.out (by omega)).mono ?_
              rintro e w6 ⟨rfl, hz6⟩
              have S6 := Lib.hid (S4.out.behind hz6)
              have Z6 := Lib.hid (below_trans Z4.out hz6 Z4.out.size)
              have HL5 := Lib.hid HLk.out.more
              clear hz6
              clear q0 q1 q2 q3 q4 y0 y1 y2 y3 y4 h0 h1 f0 l0 l1 l2
              have HT5 : Hid (T.length ≤ k + 1) := Lib.hid (by have := HT.out; omega)
              obtain ⟨T5, rfl⟩ : ∃ T5, T5 = T := ⟨_, rfl⟩
              generalize s.getV hi1 hg1 = gv
              generalize s.namE hi1 hg1 = ge
              obtain ⟨s5, rfl⟩ : ∃ s5, s5 = s := ⟨_, rfl⟩
              obtain ⟨u1, rfl⟩ : ∃ u1, u1 = v1 := ⟨_, rfl⟩
              obtain ⟨u2, rfl⟩ : ∃ u2, u2 = v2 := ⟨_, rfl⟩
              obtain ⟨u3, rfl⟩ : ∃ u3, u3 = v3 := ⟨_, rfl⟩
              obtain ⟨u4, rfl⟩ : ∃ u4, u4 = v4 := ⟨_, rfl⟩
              obtain ⟨q0, q1, q2, q3, q4⟩ := S6.out.box.c5
              have l0 := S6.out.box.lt
              go_wp2_with fail
              refine (rv_all (k + 1) _ room s5 _ _ _ _ S6.out.ref HL5.out (by omega)).mono ?_
              rintro e w7 ⟨aa, ca, rfl, hrow7, hz7⟩
              have R7 := Lib.hid hrow7
              have S7 := Lib.hid (S6.out.behind hz7)
              have Z7 := Lib.hid (below_trans Z6.out hz7 Z6.out.size)
              clear hrow7 hz7 q0 q1 q2 q3 q4 l0
              obtain ⟨m, hm⟩ : ∃ m, m = (allL s5.l).length := ⟨_, rfl⟩
              have HM := Lib.hid hm
              have HLen := Lib.hid (pv_len (k + 1) w7 w.heap.size p room s5 S7.out.has HL5.out)
              have HAll := Lib.hid (pv_all (k + 1) w7 w.heap.size p room s5 S7.out.has HL5.out (by omega))
              rw [← hm] at HLen HAll R7 ⊢
              clear hm
              go_wp2_with fail
              refine HLen.out.mono ?_
              rintro e w8 ⟨rfl, rfl⟩
              go_wp2_with fail
              refine HAll.out.mono ?_
              rintro e w9 ⟨ab, cb, rfl, hrow9, hz9⟩
              have R9 := Lib.hid hrow9
              have R79 := Lib.hid (ownsRow_below R7.out hz9)
              have S9 := Lib.hid (S7.out.behind hz9)
              have Z9 := Lib.hid (below_trans Z7.out hz9 Z7.out.size)
              clear hrow9 hz9
              have hmb : m ≤ 9223372036854775807 := by have := HM.out; have h2 := allTo_length (usedOf s5.l) (gensOf s5.l) s5.l.length; have h3 := HL5.out.len; unfold allL at this; omega
              go_wp2_with fail
              refine (rsame_eq _ _ _ m _ _ (allL s5.l) HM.out R9.out R79.out hmb).mono ?_
              rintro e w10 ⟨rfl, dd, rfl⟩
              have S10 := Lib.hid (S9.out.behind (below_drewN (Below.refl _ _) dd))
              have Z10 := Lib.hid (below_drewN Z9.out dd)
              go_wp2_with fail
              go_roundw
              case rel => exact ⟨k + 1, s5, T5, u1, u2, u3, u4, by omega, by omega, by go_num, HL5.out, HT5.out, S10.out, Z10.out⟩
              case measure => simp [intOf]; omega
            · have kb1 : (d.kd == 1) = false := beq_eq_false_iff_ne.2 k1
              by_cases k2 : d.kd = 2
              · have kb2 : (d.kd == 2) = true := beq_iff_eq.2 k2
                clear k0 k1 k2
                obtain ⟨q0, q1, q2, q3, q4⟩ := SS.out.box.c5
                obtain ⟨y0, y1, y2, y3, y4⟩ := SD.out.c5
                obtain ⟨h0, h1⟩ := SH.out.c2
                have f0 := SS.out.box.frz
                have l0 := SS.out.box.lt
                have l1 := SD.out.lt
                have l2 := SH.out.lt
                go_wp2_with fail
                refine (pl_set hi1 hg1 d.n k _ w.heap.size p room s SS.out.has HLk.out (by omega) HZ.out.size).mono ?_
                rintro e w4 ⟨rfl, hp4, hs4⟩
                have D4 := Lib.hid (SD.out.step hs4 hyp)
                have H4 := Lib.hid (SH.out.step hs4 hzp)
                have S4 := Lib.hid (SS.out.prog hp4 hs4)
                have Z4 := Lib.hid (HZ.out.trans hs4.below)
                clear hp4 hs4
                clear q0 q1 q2 q3 q4 y0 y1 y2 y3 y4 h0 h1 f0 l0 l1 l2
                obtain ⟨gv, hgv⟩ : ∃ gv, gv = s.getV hi1 hg1 := ⟨_, rfl⟩
                obtain ⟨ge, hge⟩ : ∃ ge, ge = s.namE hi1 hg1 := ⟨_, rfl⟩
                obtain ⟨s5, hs5⟩ : ∃ s5, s5 = s.set hi1 hg1 d.n := ⟨_, rfl⟩
                have HC := Lib.hid (fun w v1 v2 v3 v4 h => rv_set hi1 hg1 d.n k w room s v1 v2 v3 v4 h HLk.out (by omega))
                have HL5 := Lib.hid (HLk.out.set hi1 hg1 d.n)
                rw [← hs5] at S4 HC HL5
                try rw [← hgv] at HC ⊢
                rw [← hge] at HC ⊢
                clear hgv hge hs5
                obtain ⟨q0, q1, q2, q3, q4⟩ := S4.out.box.c5
                obtain ⟨y0, y1, y2, y3, y4⟩ := D4.out.c5
                obtain ⟨h0, h1⟩ := H4.out.c2
                have f0 := S4.out.box.frz
                have l0 := S4.out.box.lt
                have l1 := D4.out.lt
                have l2 := H4.out.lt
                go_wp2_with fail
                refine (HC.out _ _ _ _ _ S4.out.ref).mono ?_
                rintro e w5 ⟨u1, u2, u3, u4, rfl, hr5, hz5⟩
                have R5 := Lib.hid hr5
                have S5 := Lib.hid (S4.out.behind hz5)
                have Z5 := Lib.hid (below_trans Z4.out hz5 Z4.out.size)
                clear hr5 hz5
                clear q0 q1 q2 q3 q4 y0 y1 y2 y3 y4 h0 h1 f0 l0 l1 l2
                obtain ⟨q0, q1, q2, q3, q4⟩ := S5.out.box.c5
                have f0 := S5.out.box.frz
                have l0 := S5.out.box.lt
                go_upto_region 36 with (fail)
                obtain ⟨wq, hwq⟩ : ∃ wq, wq = ((((w5.setCell ⟨x, 0, none⟩ (.int .i64 room)).setCell ⟨x, 1, none⟩ (.slice u1.a u1.n u1.c)).setCell ⟨x, 2, none⟩ (.slice u2.a u2.n u2.c)).setCell ⟨x, 3, none⟩ (.slice u3.a u3.n u3.c)).setCell ⟨x, 4, none⟩ (.slice u4.a u4.n u4.c) := ⟨_, rfl⟩
                rw [← hwq]
                have SQ : Hid (Sit wq w.heap.size p x room s5 s5 u1 u2 u3 u4 (.slice vta T.length vtc) T) := Lib.hid (by rw [hwq]; exact S5.out.store R5.out)
                have ZQ : Hid (Below w.heap.size w wq) := Lib.hid (by rw [hwq]; exact put5_below Z5.out hxw room u1 u2 u3 u4)
                clear hwq q0 q1 q2 q3 q4 f0 l0
                obtain ⟨w6, hw6⟩ : ∃ w6, w6 = wq.alloc (.cells (vcl room u1 u2 u3 u4) 45) := ⟨_, rfl⟩
                rw [← hw6]
                have hbq : Below wq.heap.size wq w6 := by rw [hw6]; exact (Below.refl _ wq).alloc (Nat.le_refl _) _
                have S6 := Lib.hid (SQ.out.behind hbq)
                have Z6 := Lib.hid (below_trans ZQ.out hbq ZQ.out.size)
                clear hbq hw6 SQ ZQ
                have HT5 : Hid (T.length ≤ k + 1) := Lib.hid (by have := HT.out; omega)
                obtain ⟨T5, rfl⟩ : ∃ T5, T5 = T := ⟨_, rfl⟩
                obtain ⟨q0, q1, q2, q3, q4⟩ := S6.out.box.c5
                have l0 := S6.out.box.lt
                go_wp2_with fail
                refine (rv_all (k + 1) _ room s5 _ _ _ _ S6.out.ref HL5.out (by omega)).mono ?_
                rintro e w7 ⟨aa, ca, rfl, hrow7, hz7⟩
                have R7 := Lib.hid hrow7
                have S7 := Lib.hid (S6.out.behind hz7)
                have Z7 := Lib.hid (below_trans Z6.out hz7 Z6.out.size)
                clear hrow7 hz7 q0 q1 q2 q3 q4 l0
                obtain ⟨m, hm⟩ : ∃ m, m = (allL s5.l).length := ⟨_, rfl⟩
                have HM := Lib.hid hm
                have HLen := Lib.hid (pv_len (k + 1) w7 w.heap.size p room s5 S7.out.has HL5.out)
                have HAll := Lib.hid (pv_all (k + 1) w7 w.heap.size p room s5 S7.out.has HL5.out (by omega))
                rw [← hm] at HLen HAll R7 ⊢
                clear hm
                go_wp2_with fail
                refine HLen.out.mono ?_
                rintro e w8 ⟨rfl, rfl⟩
                go_wp2_with fail
                refine HAll.out.mono ?_
                rintro e w9 ⟨ab, cb, rfl, hrow9, hz9⟩
                have R9 := Lib.hid hrow9
                have R79 := Lib.hid (ownsRow_below R7.out hz9)
                have S9 := Lib.hid (S7.out.behind hz9)
                have Z9 := Lib.hid (below_trans Z7.out hz9 Z7.out.size)
                clear hrow9 hz9
                have hmb : m ≤ 9223372036854775807 := by have := HM.out; have h2 := allTo_length (usedOf s5.l) (gensOf s5.l) s5.l.length; have h3 := HL5.out.len; unfold allL at this; omega
                go_wp2_with fail
                refine (rsame_eq _ _ _ m _ _ (allL s5.l) HM.out R9.out R79.out hmb).mono ?_
                rintro e w10 ⟨rfl, dd, rfl⟩
                have S10 := Lib.hid (S9.out.behind (below_drewN (Below.refl _ _) dd))
                have Z10 := Lib.hid (below_drewN Z9.out dd)
                go_wp2_with fail
                go_roundw
                case rel => exact ⟨k + 1, s5, T5, u1, u2, u3, u4, by omega, by omega, by go_num, HL5.out, HT5.out, S10.out, Z10.out⟩
                case measure => simp [intOf]; omega
              · have kb2 : (d.kd == 2) = false := beq_eq_false_iff_ne.2 k2
                clear k0 k1 k2
                obtain ⟨q0, q1, q2, q3, q4⟩ := SS.out.box.c5
                obtain ⟨y0, y1, y2, y3, y4⟩ := SD.out.c5
                obtain ⟨h0, h1⟩ := SH.out.c2
                have f0 := SS.out.box.frz
                have l0 := SS.out.box.lt
                have l1 := SD.out.lt
                have l2 := SH.out.lt
                go_wp2_with fail
                refine (pl_free hi1 hg1 k _ w.heap.size p room s SS.out.has HLk.out (by omega) HZ.out.size).mono ?_
                rintro e w4 ⟨rfl, hp4, hs4⟩
                have D4 := Lib.hid (SD.out.step hs4 hyp)
                have H4 := Lib.hid (SH.out.step hs4 hzp)
                have S4 := Lib.hid (SS.out.prog hp4 hs4)
                have Z4 := Lib.hid (HZ.out.trans hs4.below)
                clear hp4 hs4
                clear q0 q1 q2 q3 q4 y0 y1 y2 y3 y4 h0 h1 f0 l0 l1 l2
                obtain ⟨gv, hgv⟩ : ∃ gv, gv = s.getV hi1 hg1 := ⟨_, rfl⟩
                obtain ⟨ge, hge⟩ : ∃ ge, ge = s.namE hi1 hg1 := ⟨_, rfl⟩
                obtain ⟨s5, hs5⟩ : ∃ s5, s5 = s.fre hi1 hg1 := ⟨_, rfl⟩
                have HC := Lib.hid (fun w v1 v2 v3 v4 h => rv_free hi1 hg1 k w room s v1 v2 v3 v4 h HLk.out (by omega))
                have HL5 := Lib.hid (HLk.out.fre hi1 hg1)
                rw [← hs5] at S4 HC HL5
                try rw [← hgv] at HC ⊢
                rw [← hge] at HC ⊢
                clear hgv hge hs5
                obtain ⟨q0, q1, q2, q3, q4⟩ := S4.out.box.c5
                obtain ⟨y0, y1, y2, y3, y4⟩ := D4.out.c5
                obtain ⟨h0, h1⟩ := H4.out.c2
                have f0 := S4.out.box.frz
                have l0 := S4.out.box.lt
                have l1 := D4.out.lt
                have l2 := H4.out.lt
                go_wp2_with fail
                refine (HC.out _ _ _ _ _ S4.out.ref).mono ?_
                rintro e w5 ⟨u1, u2, u3, u4, rfl, hr5, hz5⟩
                have R5 := Lib.hid hr5
                have S5 := Lib.hid (S4.out.behind hz5)
                have Z5 := Lib.hid (below_trans Z4.out hz5 Z4.out.size)
                clear hr5 hz5
                clear q0 q1 q2 q3 q4 y0 y1 y2 y3 y4 h0 h1 f0 l0 l1 l2
                obtain ⟨q0, q1, q2, q3, q4⟩ := S5.out.box.c5
                have f0 := S5.out.box.frz
                have l0 := S5.out.box.lt
                go_upto_region 18 with (fail)
                obtain ⟨wq, hwq⟩ : ∃ wq, wq = ((((w5.setCell ⟨x, 0, none⟩ (.int .i64 room)).setCell ⟨x, 1, none⟩ (.slice u1.a u1.n u1.c)).setCell ⟨x, 2, none⟩ (.slice u2.a u2.n u2.c)).setCell ⟨x, 3, none⟩ (.slice u3.a u3.n u3.c)).setCell ⟨x, 4, none⟩ (.slice u4.a u4.n u4.c) := ⟨_, rfl⟩
                rw [← hwq]
                have SQ : Hid (Sit wq w.heap.size p x room s5 s5 u1 u2 u3 u4 (.slice vta T.length vtc) T) := Lib.hid (by rw [hwq]; exact S5.out.store R5.out)
                have ZQ : Hid (Below w.heap.size w wq) := Lib.hid (by rw [hwq]; exact put5_below Z5.out hxw room u1 u2 u3 u4)
                clear hwq q0 q1 q2 q3 q4 f0 l0
                obtain ⟨w6, hw6⟩ : ∃ w6, w6 = wq.alloc (.cells (vcl room u1 u2 u3 u4) 45) := ⟨_, rfl⟩
                rw [← hw6]
                have hbq : Below wq.heap.size wq w6 := by rw [hw6]; exact (Below.refl _ wq).alloc (Nat.le_refl _) _
                have S6 := Lib.hid (SQ.out.behind hbq)
                have Z6 := Lib.hid (below_trans ZQ.out hbq ZQ.out.size)
                clear hbq hw6 SQ ZQ
                have HT5 : Hid (T.length ≤ k + 1) := Lib.hid (by have := HT.out; omega)
                obtain ⟨T5, rfl⟩ : ∃ T5, T5 = T := ⟨_, rfl⟩
                obtain ⟨q0, q1, q2, q3, q4⟩ := S6.out.box.c5
                have l0 := S6.out.box.lt
                go_wp2_with fail
                refine (rv_all (k + 1) _ room s5 _ _ _ _ S6.out.ref HL5.out (by omega)).mono ?_
                rintro e w7 ⟨aa, ca, rfl, hrow7, hz7⟩
                have R7 := Lib.hid hrow7
                have S7 := Lib.hid (S6.out.behind hz7)
                have Z7 := Lib.hid (below_trans Z6.out hz7 Z6.out.size)
                clear hrow7 hz7 q0 q1 q2 q3 q4 l0
                obtain ⟨m, hm⟩ : ∃ m, m = (allL s5.l).length := ⟨_, rfl⟩
                have HM := Lib.hid hm
                have HLen := Lib.hid (pv_len (k + 1) w7 w.heap.size p room s5 S7.out.has HL5.out)
                have HAll := Lib.hid (pv_all (k + 1) w7 w.heap.size p room s5 S7.out.has HL5.out (by omega))
                rw [← hm] at HLen HAll R7 ⊢
                clear hm
                go_wp2_with fail
                refine HLen.out.mono ?_
                rintro e w8 ⟨rfl, rfl⟩
                go_wp2_with fail
                refine HAll.out.mono ?_
                rintro e w9 ⟨ab, cb, rfl, hrow9, hz9⟩
                have R9 := Lib.hid hrow9
                have R79 := Lib.hid (ownsRow_below R7.out hz9)
                have S9 := Lib.hid (S7.out.behind hz9)
                have Z9 := Lib.hid (below_trans Z7.out hz9 Z7.out.size)
                clear hrow9 hz9
                have hmb : m ≤ 9223372036854775807 := by have := HM.out; have h2 := allTo_length (usedOf s5.l) (gensOf s5.l) s5.l.length; have h3 := HL5.out.len; unfold allL at this; omega
                go_wp2_with fail
                refine (rsame_eq _ _ _ m _ _ (allL s5.l) HM.out R9.out R79.out hmb).mono ?_
                rintro e w10 ⟨rfl, dd, rfl⟩
                have S10 := Lib.hid (S9.out.behind (below_drewN (Below.refl _ _) dd))
                have Z10 := Lib.hid (below_drewN Z9.out dd)
                go_wp2_with fail
                go_roundw
                case rel => exact ⟨k + 1, s5, T5, u1, u2, u3, u4, by omega, by omega, by go_num, HL5.out, HT5.out, S10.out, Z10.out⟩
                case measure => simp [intOf]; omega
        · go_wp2
          go_ret
          exact ⟨rfl, HZr.out⟩
      · go_wp2
        go_ret
        exact ⟨rfl, HZr.out⟩
end Go.Proofs.Ytdkfdpiikhgfiaa
