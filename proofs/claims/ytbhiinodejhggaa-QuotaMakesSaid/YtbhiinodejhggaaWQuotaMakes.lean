/- The walk of the law QuotaMakes: it returns true. Condition: the last argument reads as a slice of Serve. -/
import Derived.Test.YtbhiinodejhggaaServes
namespace Go.Proofs.Ytbhiinodejhggaa
open Go Go.RowKit Go.ChangeShapes Go.WideShapes
set_option linter.unusedVariables false

set_option maxHeartbeats 4000000 in
set_option maxRecDepth 100000 in
theorem walk_QuotaMakes (ps t0 t1 : Nat) (a : Option Addr) (len capo : Nat) (f : Nat → Srv) (w : World) (hps : ps ≤ 255) (h0 : t0 ≤ 4294967295) (h1 : t1 ≤ 4294967295) (h : ServesAt w a len f) (hlen : len ≤ 9223372036854775807) :
    Calls Try.prog 5 #[.int .u8 ps, .agg #[.int .u32 t0, .int .u32 t1], .slice a len capo] w fun e w' => e = .returned (.bool true) ∧ Below w.heap.size w w' := by
  skip
  have HE := Lib.hid h; clear h
  go_enter Try.func5, Try.ntmps5
  go_wp2_with fail
  refine (awake _).mono ?_
  rintro e w1 ⟨rfl, hz1⟩
  have hx : w1.heap[w.heap.size]? = some (.cells #[.int .u32 t0, .int .u32 t1] 23 (0, 0)) := by
    rw [hz1.block w.heap.size (by simp)]; exact heap_alloc_new w _
  have x0 : w1.cell? ⟨w.heap.size, 0, none⟩ = some (.int .u32 t0) := by simp [World.cell?, hx]
  have x1 : w1.cell? ⟨w.heap.size, 1, none⟩ = some (.int .u32 t1) := by simp [World.cell?, hx]
  have HX1 := Lib.hid hx
  have hxl := (Array.getElem?_eq_some_iff.1 hx).1
  have HZ1 := Lib.hid (((Below.refl w.heap.size w).alloc (Nat.le_refl _) (.cells #[.int .u32 t0, .int .u32 t1] 23)).trans (below_le hz1 (by simp)))
  clear hz1 hx
  go_wp2_with fail
  refine (set_law ps t0 t1 _ h0 h1 hps).mono ?_
  rintro e w2 ⟨p, rfl, hp, hb2, hz2⟩
  have HX2 : Hid (w2.heap[w.heap.size]? = some (.cells #[.int .u32 t0, .int .u32 t1] 23 (0, 0))) := Lib.hid (by rw [hz2.block w.heap.size hxl]; exact HX1.out)
  have hz2' := hz2.size
  have hsz2b : w.heap.size < w2.heap.size := by omega
  have HZ2 := Lib.hid (HZ1.out.trans (below_le hz2 (by omega)))
  have hpm : ps % 8 < 8 := Nat.mod_lt _ (by decide)
  obtain ⟨n, hn⟩ : ∃ n : Nat, n = 1 + ps % 8 := ⟨_, rfl⟩
  have hnl : n ≤ 8 := by omega
  have t : Terms n (1 + t0) (1 + t1) 1000000 0 := ⟨by omega, by omega, by omega, by omega, by omega, by omega⟩
  have HG := Lib.hid (good_start _ _ _ _ _ _ (by rw [hn]; exact hb2) t)
  have HT := Lib.hid t
  have HN := Lib.hid hn
  have hpb : w.heap.size < p := by omega
  clear hb2 hz2 x0 x1 hz2' hn t
  go_wp2_with fail
  go_loopw [9, 10] (fun bg i wr => ∃ (k : Nat) (b : Bd) (began : Int), k ≤ len ∧ k ≤ 200 ∧ i = .int .i64 k ∧ bg = .int .i64 began ∧ Good wr p n (1 + t0) (1 + t1) 1000000 began b ∧ Terms n (1 + t0) (1 + t1) 1000000 began ∧ Below w.heap.size w wr ∧ wr.heap[w.heap.size]? = some (.cells #[.int .u32 t0, .int .u32 t1] 23 (0, 0))) (fun _ i _ => 200 - (intOf i).toNat)
  case atStart => exact ⟨0, _, 0, by omega, by omega, rfl, rfl, HG.out, HT.out, HZ2.out, HX2.out⟩
  case round =>
    obtain ⟨k, b, began, hk, hk2, rfl, rfl, hg, ht, hb, hxr⟩ := hrel
    have HGr := Lib.hid hg; have HTr := Lib.hid ht; have HBr := Lib.hid hb; have HXr := Lib.hid hxr
    have hzr := hb.size
    clear hg ht hb hxr
    by_cases hlt : k < len
    · by_cases hlt1 : k < 200
      · skip
        obtain ⟨bo, off, rfl, hbo, hP, hns, hc⟩ := HE.out k hlt
        obtain ⟨hc0, hc1, hc2⟩ : wr.cell? ⟨bo, off + k * 3, none⟩ = some (.int .i64 (f k).kd) ∧ wr.cell? ⟨bo, off + k * 3 + 1, none⟩ = some (.int .u8 (f k).P) ∧ wr.cell? ⟨bo, off + k * 3 + 2, none⟩ = some (.int .u32 (f k).ns) := by
          rw [HBr.out.cell (p := ⟨bo, off + k * 3, none⟩) hbo, HBr.out.cell (p := ⟨bo, off + k * 3 + 1, none⟩) hbo, HBr.out.cell (p := ⟨bo, off + k * 3 + 2, none⟩) hbo]; exact hc
        have hbr : bo < wr.heap.size := by omega
        have HC := Lib.hid hc
        clear hc
        generalize f k = x at *
        obtain ⟨kd, P, ns⟩ := x
        simp only at hP hns hc0 hc1 hc2 HC
        by_cases hkd : kd = 2
        · subst hkd
          go_wp2_with fail
          refine (refill_any _ _ _ HGr.out.has).mono ?_
          rintro e w3 ⟨rfl, hb3, ht3⟩
          obtain ⟨hi3, hT3⟩ := HGr.out.inv.refill HTr.out
          have HB3 := Lib.hid (Good.below HBr.out ht3 (Nat.le_of_lt hpb) (Nat.le_refl _))
          have HX3 : Hid (w3.heap[w.heap.size]? = some (.cells #[.int .u32 t0, .int .u32 t1] 23 (0, 0))) := Lib.hid (by rw [ht3.block w.heap.size (Array.getElem?_eq_some_iff.1 HXr.out).1 (by omega)]; exact HXr.out)
          clear hc0 hc1 hc2
          obtain ⟨b3, bg3, hbg, HG3, HT3⟩ : ∃ b3 bg3, bg3 = b3.l.sum ∧ Hid (Good w3 p n (1 + t0) (1 + t1) 1000000 bg3 b3) ∧ Hid (Terms n (1 + t0) (1 + t1) 1000000 bg3) := ⟨b.refill, _, rfl, Lib.hid ⟨hb3, hi3⟩, Lib.hid hT3⟩
          clear hb3 ht3 hi3 hT3
          have HBG := Lib.hid hbg; clear hbg
          go_wp2_with fail
          refine (local_law ps _ _ _ HG3.out.has (HG3.out.inv.small HT3.out) (by rw [HG3.out.inv.len]; exact HN.out) hps).mono ?_
          rw [← HBG.out]
          rintro e w4 ⟨rfl, rfl⟩
          have hx0 : w3.cell? ⟨w.heap.size, 0, none⟩ = some (.int .u32 t0) := by simp [World.cell?, HX3.out]
          have hsz3 : w.heap.size < w3.heap.size := (Array.getElem?_eq_some_iff.1 HX3.out).1
          have HSm := Lib.hid (HG3.out.inv.small HT3.out)
          have HLn : Hid (b3.l.length = 1 + ps % 8) := Lib.hid (by rw [HG3.out.inv.len]; exact HN.out)
          obtain ⟨q1, q2⟩ := HT3.out.hq
          obtain ⟨g1, g2⟩ := HT3.out.hb
          obtain ⟨p1, p2⟩ := HSm.out.pool
          have p3 := HG3.out.inv.has
          have p4 := psum_nonneg b3.l
          have p5 := sum_psum b3.l
          have p6 := (low_sum HG3.out.inv.len HT3.out.hn.2 HT3.out.hd.1 HG3.out.inv.low).2
          have hs := HG3.out.inv.spent
          have d1 : decide (b3.pool < 0) = false := by simp; omega
          have d2 : decide (1 + (t0 : Int) < b3.pool) = false := by simp; omega
          have d3 : (b3.spent != 1 + (t0 : Int) - b3.pool + bg3 - b3.l.sum) = false := by simp [hs]
          have e1 : IntKind.i64.wrap (1 + (t0 : Int)) = 1 + (t0 : Int) := IntWalk.i64_in _ (by omega)
          have e2 : IntKind.i64.wrap (1 + (t0 : Int) - b3.pool) = 1 + (t0 : Int) - b3.pool := IntWalk.i64_in _ (by omega)
          have e3 : IntKind.i64.wrap (1 + (t0 : Int) - b3.pool + bg3) = 1 + (t0 : Int) - b3.pool + bg3 := IntWalk.i64_in _ (by omega)
          have e4 : IntKind.i64.wrap (1 + (t0 : Int) - b3.pool + bg3 - b3.l.sum) = 1 + (t0 : Int) - b3.pool + bg3 - b3.l.sum := IntWalk.i64_in _ (by omega)
          have e5 : 0 ≤ t0 ∧ (t0 : Int) ≤ 4294967295 := by omega
          clear p3 p4 p5 p6 hs g1 g2 q1 q2 p1 p2
          go_upto_region 13 with (fail)
          go_quiet (first | (go_at_call 12; exact Calls.quiet_of_same ((pool_any _ _ _ (HG3.out.has.drewN _)).mono fun _ _ h => ⟨h.1, h.2.symm⟩)) | (go_at_call 18; exact Calls.quiet_of_same ((spent_any _ _ _ (HG3.out.has.drewN _)).mono fun _ _ h => ⟨h.1, h.2.symm⟩)) | (go_at_call 19; exact Calls.quiet_of_same ((local_law ps _ _ _ (HG3.out.has.drewN _) HSm.out HLn.out hps).mono fun _ _ h => ⟨h.1, h.2.symm⟩)))
          clear e1 e2 e3 e4
          go_wp2_with fail
          go_roundw
          case rel => exact ⟨k + 1, _, _, by omega, by omega, by go_num, rfl, HG3.out.step (below_drewN (Below.refl _ _) _), HT3.out, below_drewN HB3.out _, HX3.out⟩
          case measure => simp [intOf]; omega
        · have hkb : (kd == 2) = false := beq_eq_false_iff_ne.2 hkd
          clear hkd
          go_wp2_with fail
          refine (serve_law kd P ns ps _ p n _ _ 1000000 began b HGr.out HTr.out HN.out hps hP hns).mono ?_
          rintro e w3 ⟨rfl, hg3, ht3⟩
          have HB3 := Lib.hid (Good.below HBr.out ht3 (Nat.le_of_lt hpb) (Nat.le_refl _))
          have HX3 : Hid (w3.heap[w.heap.size]? = some (.cells #[.int .u32 t0, .int .u32 t1] 23 (0, 0))) := Lib.hid (by rw [ht3.block w.heap.size (Array.getElem?_eq_some_iff.1 HXr.out).1 (by omega)]; exact HXr.out)
          clear hc0 hc1 hc2
          obtain ⟨b3, bg3, hbg, HG3, HT3⟩ : ∃ b3 bg3, bg3 = began ∧ Hid (Good w3 p n (1 + t0) (1 + t1) 1000000 bg3 b3) ∧ Hid (Terms n (1 + t0) (1 + t1) 1000000 bg3) := ⟨_, began, rfl, Lib.hid hg3, Lib.hid HTr.out⟩
          clear hg3 ht3
          subst hbg
          have hx0 : w3.cell? ⟨w.heap.size, 0, none⟩ = some (.int .u32 t0) := by simp [World.cell?, HX3.out]
          have hsz3 : w.heap.size < w3.heap.size := (Array.getElem?_eq_some_iff.1 HX3.out).1
          have HSm := Lib.hid (HG3.out.inv.small HT3.out)
          have HLn : Hid (b3.l.length = 1 + ps % 8) := Lib.hid (by rw [HG3.out.inv.len]; exact HN.out)
          obtain ⟨q1, q2⟩ := HT3.out.hq
          obtain ⟨g1, g2⟩ := HT3.out.hb
          obtain ⟨p1, p2⟩ := HSm.out.pool
          have p3 := HG3.out.inv.has
          have p4 := psum_nonneg b3.l
          have p5 := sum_psum b3.l
          have p6 := (low_sum HG3.out.inv.len HT3.out.hn.2 HT3.out.hd.1 HG3.out.inv.low).2
          have hs := HG3.out.inv.spent
          have d1 : decide (b3.pool < 0) = false := by simp; omega
          have d2 : decide (1 + (t0 : Int) < b3.pool) = false := by simp; omega
          have d3 : (b3.spent != 1 + (t0 : Int) - b3.pool + bg3 - b3.l.sum) = false := by simp [hs]
          have e1 : IntKind.i64.wrap (1 + (t0 : Int)) = 1 + (t0 : Int) := IntWalk.i64_in _ (by omega)
          have e2 : IntKind.i64.wrap (1 + (t0 : Int) - b3.pool) = 1 + (t0 : Int) - b3.pool := IntWalk.i64_in _ (by omega)
          have e3 : IntKind.i64.wrap (1 + (t0 : Int) - b3.pool + bg3) = 1 + (t0 : Int) - b3.pool + bg3 := IntWalk.i64_in _ (by omega)
          have e4 : IntKind.i64.wrap (1 + (t0 : Int) - b3.pool + bg3 - b3.l.sum) = 1 + (t0 : Int) - b3.pool + bg3 - b3.l.sum := IntWalk.i64_in _ (by omega)
          have e5 : 0 ≤ t0 ∧ (t0 : Int) ≤ 4294967295 := by omega
          clear p3 p4 p5 p6 hs g1 g2 q1 q2 p1 p2
          go_upto_region 13 with (fail)
          go_quiet (first | (go_at_call 12; exact Calls.quiet_of_same ((pool_any _ _ _ (HG3.out.has.drewN _)).mono fun _ _ h => ⟨h.1, h.2.symm⟩)) | (go_at_call 18; exact Calls.quiet_of_same ((spent_any _ _ _ (HG3.out.has.drewN _)).mono fun _ _ h => ⟨h.1, h.2.symm⟩)) | (go_at_call 19; exact Calls.quiet_of_same ((local_law ps _ _ _ (HG3.out.has.drewN _) HSm.out HLn.out hps).mono fun _ _ h => ⟨h.1, h.2.symm⟩)))
          clear e1 e2 e3 e4
          go_wp2_with fail
          go_roundw
          case rel => exact ⟨k + 1, _, _, by omega, by omega, by go_num, rfl, HG3.out.step (below_drewN (Below.refl _ _) _), HT3.out, below_drewN HB3.out _, HX3.out⟩
          case measure => simp [intOf]; omega
      · go_wp2
        go_ret
        exact ⟨rfl, HBr.out⟩
    · go_wp2
      go_ret
      exact ⟨rfl, HBr.out⟩
theorem walk_QuotaMakes' (ps : Int) (cs : List Value) (a : Option Addr) (len capo : Nat) (w : World) (hps : (Lit.int .u8 ps).wf = true) (hcs : Flat [some .u32, some .u32] cs) (h : FlatSlice [some .i64, some .u8, some .u32] w a len) :
    Calls Try.prog 5 #[.int .u8 ps, .agg ⟨cs⟩, .slice a len capo] w fun e w' => e = .returned (.bool true) ∧ Below w.heap.size w w' := by
  obtain ⟨t0, t1, rfl, u0, u1⟩ := flat_int2 hcs
  obtain ⟨m0, rfl, e0⟩ := u32_nat u0
  obtain ⟨m1, rfl, e1⟩ := u32_nat u1
  obtain ⟨m, rfl, e⟩ := u8_nat hps
  obtain ⟨f, hf⟩ := servesAt_of h
  exact walk_QuotaMakes m m0 m1 a len capo f w e e0 e1 hf h.1
end Go.Proofs.Ytbhiinodejhggaa
