/- The walk of the law QuotaHolds: it returns true. Condition: the last argument reads as a slice of Serve. -/
import Derived.Test.YtbhiinodejhggaaServes
namespace Go.Proofs.Ytbhiinodejhggaa
open Go Go.RowKit Go.ChangeShapes Go.WideShapes
set_option linter.unusedVariables false

set_option maxHeartbeats 2000000 in
set_option maxRecDepth 100000 in
theorem walk_QuotaHolds (ps t0 t1 t2 : Nat) (a : Option Addr) (len capo : Nat) (f : Nat → Srv) (w : World) (hps : ps ≤ 255) (h0 : t0 ≤ 4294967295) (h1 : t1 ≤ 4294967295) (h2 : t2 ≤ 4294967295) (h : ServesAt w a len f) (hlen : len ≤ 9223372036854775807) :
    Calls Try.prog 4 #[.int .u8 ps, .agg #[.int .u32 t0, .int .u32 t1, .int .u32 t2], .slice a len capo] w fun e w' => e = .returned (.bool true) ∧ Below w.heap.size w w' := by
  have HE := Lib.hid h; clear h
  go_enter Try.func4, Try.ntmps4
  go_wp2_with fail
  refine (awake _).mono ?_
  rintro e w1 ⟨rfl, hz1⟩
  have hx : w1.heap[w.heap.size]? = some (.cells #[.int .u32 t0, .int .u32 t1, .int .u32 t2] 32 (0, 0)) := by
    rw [hz1.block w.heap.size (by simp)]; exact heap_alloc_new w _
  have x0 : w1.cell? ⟨w.heap.size, 0, none⟩ = some (.int .u32 t0) := by simp [World.cell?, hx]
  have x1 : w1.cell? ⟨w.heap.size, 1, none⟩ = some (.int .u32 t1) := by simp [World.cell?, hx]
  have HX1 := Lib.hid hx
  have hxl := (Array.getElem?_eq_some_iff.1 hx).1
  have HZ1 := Lib.hid (((Below.refl w.heap.size w).alloc (Nat.le_refl _) (.cells #[.int .u32 t0, .int .u32 t1, .int .u32 t2] 32)).trans (below_le hz1 (by simp)))
  clear hz1 hx
  go_wp2_with fail
  refine (set_law ps t0 t1 _ h0 h1 hps).mono ?_
  rintro e w2 ⟨p, rfl, hp, hb2, hz2⟩
  have hx2 : w2.heap[w.heap.size]? = some (.cells #[.int .u32 t0, .int .u32 t1, .int .u32 t2] 32 (0, 0)) := by
    rw [hz2.block w.heap.size (by simp; omega), Below.heap_alloc _ _ _ hxl]; exact HX1.out
  have x2 : w2.cell? ⟨w.heap.size, 2, none⟩ = some (.int .u32 t2) := by simp [World.cell?, hx2]
  have hy2 : w2.heap[w1.heap.size]? = some (.cells #[.int .u32 t0, .int .u32 t1] 23 (0, 0)) := by
    rw [hz2.block w1.heap.size (by simp)]; exact heap_alloc_new w1 _
  have y0 : w2.cell? ⟨w1.heap.size, 0, none⟩ = some (.int .u32 t0) := by simp [World.cell?, hy2]
  have hz2' := hz2.size
  simp only [World.size_alloc] at hz2'
  have hsz2 : w1.heap.size < w2.heap.size := by omega
  have hsz2b : w.heap.size < w2.heap.size := by omega
  have HZ2 := Lib.hid ((HZ1.out.alloc (by omega) (.cells #[.int .u32 t0, .int .u32 t1] 23)).trans (below_le hz2 (by simp; omega)))
  have HB2 := Lib.hid hb2
  simp only [World.size_alloc] at hp
  clear hb2 hz2 hx2 hy2 x0 x1 hz2'
  go_upto_region 8 with (fail)
  have hd0 : 0 ≤ (t2 : Int) % 1000000001 := Int.emod_nonneg _ (by omega)
  have hd1 : (t2 : Int) % 1000000001 < 1000000001 := Int.emod_lt_of_pos _ (by omega)
  obtain ⟨d, hd⟩ : ∃ d : Int, d = (t2 : Int) % 1000000001 := ⟨_, rfl⟩
  rw [← hd] at hd0 hd1 ⊢
  have hpm : ps % 8 < 8 := Nat.mod_lt _ (by decide)
  obtain ⟨n, hn⟩ : ∃ n : Nat, n = 1 + ps % 8 := ⟨_, rfl⟩
  have hn' : (1 + (ps : Int) % 8) = n := by omega
  have hdn : d * (n : Int) ≤ d * 8 := Int.mul_le_mul_of_nonneg_left (by omega) hd0
  have hdn0 : 0 ≤ d * (n : Int) := Int.mul_nonneg hd0 (by omega)
  have hw : wrap64 (1 + (t0 : Int) + wrap64 (d * (1 + (ps : Int) % 8))) = 1 + (t0 : Int) + d * (n : Int) := by
    rw [hn', IntWalk.wrap64_in (d * (n : Int)) (by omega), IntWalk.wrap64_in _ (by omega)]
  rw [hw]
  have t : Terms n (1 + t0) (1 + t1) d 0 := ⟨by omega, by omega, by omega, by omega, by omega, by omega⟩
  have HG := Lib.hid (good_start _ _ _ _ _ _ (by rw [hn]; exact HB2.out) t)
  have HT := Lib.hid t
  have HN := Lib.hid hn
  obtain ⟨most, hmost⟩ : ∃ most : Int, most = 1 + (t0 : Int) + d * (n : Int) := ⟨_, rfl⟩
  rw [← hmost]
  have HM := Lib.hid hmost
  have hpb : w.heap.size ≤ p := by omega
  clear hd hw hdn hdn0 hn hn' hmost t x2 y0
  go_wp2_with fail
  go_loopw [12] (fun i wr => ∃ (k : Nat) (b : Bd) (began : Int), k ≤ len ∧ k ≤ 200 ∧ i = .int .i64 k ∧ Good wr p n (1 + t0) (1 + t1) d began b ∧ Terms n (1 + t0) (1 + t1) d began ∧ Below w.heap.size w wr) (fun i _ => 200 - (intOf i).toNat)
  case atStart => exact ⟨0, _, 0, by omega, by omega, rfl, HG.out, HT.out, HZ2.out⟩
  case round =>
    obtain ⟨k, b, began, hk, hk2, rfl, hg, ht, hb⟩ := hrel
    have HGr := Lib.hid hg; have HTr := Lib.hid ht; have HBr := Lib.hid hb
    have hzr := hb.size
    clear hg ht hb
    by_cases hlt : k < len
    · by_cases hlt1 : k < 200
      · obtain ⟨bo, off, rfl, hbo, hP, hns, hc⟩ := HE.out k hlt
        obtain ⟨hc0, hc1, hc2⟩ : wr.cell? ⟨bo, off + k * 3, none⟩ = some (.int .i64 (f k).kd) ∧ wr.cell? ⟨bo, off + k * 3 + 1, none⟩ = some (.int .u8 (f k).P) ∧ wr.cell? ⟨bo, off + k * 3 + 2, none⟩ = some (.int .u32 (f k).ns) := by
          rw [HBr.out.cell (p := ⟨bo, off + k * 3, none⟩) hbo, HBr.out.cell (p := ⟨bo, off + k * 3 + 1, none⟩) hbo, HBr.out.cell (p := ⟨bo, off + k * 3 + 2, none⟩) hbo]; exact hc
        have hbr : bo < wr.heap.size := by omega
        clear hc
        generalize f k = x at *
        obtain ⟨kd, P, ns⟩ := x
        simp only at hP hns hc0 hc1 hc2
        by_cases hkd : kd = 2
        · subst hkd
          go_wp2_with fail
          refine (refill_any _ _ _ HGr.out.has).mono ?_
          rintro e w3 ⟨rfl, hb3, ht3⟩
          obtain ⟨hi3, hT3⟩ := HGr.out.inv.refill HTr.out
          have HG3 : Hid (Good w3 p n (1 + t0) (1 + t1) d _ b.refill) := Lib.hid ⟨hb3, hi3⟩
          have HT3 := Lib.hid hT3
          have HB3 := Lib.hid (Good.below HBr.out ht3 hpb (Nat.le_refl _))
          have hsp := HG3.out.inv.most HT3.out
          rw [← HM.out] at hsp
          clear hb3 ht3 hi3 hT3 hc0 hc1 hc2
          go_wp2_with fail
          refine (spent_any _ _ _ HG3.out.has).mono ?_
          rintro e w4 ⟨rfl, rfl⟩
          go_wp2_with fail
          go_roundw
          case rel => exact ⟨k + 1, _, _, by omega, by omega, by go_num, HG3.out, HT3.out, HB3.out⟩
          case measure => simp [intOf]; omega
        · have hkb : (kd == 2) = false := beq_eq_false_iff_ne.2 hkd
          clear hkd
          go_wp2_with fail
          refine (serve_law kd P ns ps _ p n _ _ d began b HGr.out HTr.out HN.out hps hP hns).mono ?_
          rintro e w3 ⟨rfl, hg3, ht3⟩
          have HG3 := Lib.hid hg3
          have HB3 := Lib.hid (Good.below HBr.out ht3 hpb (Nat.le_refl _))
          have hsp := hg3.inv.most HTr.out
          rw [← HM.out] at hsp
          clear hg3 ht3 hc0 hc1 hc2
          go_wp2_with fail
          refine (spent_any _ _ _ HG3.out.has).mono ?_
          rintro e w4 ⟨rfl, rfl⟩
          go_wp2_with fail
          go_roundw
          case rel => exact ⟨k + 1, _, _, by omega, by omega, by go_num, HG3.out, HTr.out, HB3.out⟩
          case measure => simp [intOf]; omega
      · go_wp2
        go_ret
        exact ⟨rfl, HBr.out⟩
    · go_wp2
      go_ret
      exact ⟨rfl, HBr.out⟩
theorem walk_QuotaHolds' (ps : Int) (cs : List Value) (a : Option Addr) (len capo : Nat) (w : World) (hps : (Lit.int .u8 ps).wf = true) (hcs : Flat [some .u32, some .u32, some .u32] cs) (h : FlatSlice [some .i64, some .u8, some .u32] w a len) :
    Calls Try.prog 4 #[.int .u8 ps, .agg ⟨cs⟩, .slice a len capo] w fun e w' => e = .returned (.bool true) ∧ Below w.heap.size w w' := by
  obtain ⟨t0, t1, t2, rfl, u0, u1, u2⟩ := flat_int3 hcs
  obtain ⟨m0, rfl, e0⟩ := u32_nat u0
  obtain ⟨m1, rfl, e1⟩ := u32_nat u1
  obtain ⟨m2, rfl, e2⟩ := u32_nat u2
  obtain ⟨m, rfl, e⟩ := u8_nat hps
  obtain ⟨f, hf⟩ := servesAt_of h
  exact walk_QuotaHolds m m0 m1 m2 a len capo f w e e0 e1 e2 hf h.1
end Go.Proofs.Ytbhiinodejhggaa
