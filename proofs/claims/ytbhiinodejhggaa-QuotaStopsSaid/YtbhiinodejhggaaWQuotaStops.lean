/- The walk of the law QuotaStops: it returns true. Condition: the last argument reads as a slice of Serve. -/
import Derived.Test.YtbhiinodejhggaaServes
namespace Go.Proofs.Ytbhiinodejhggaa
open Go Go.RowKit Go.ChangeShapes Go.WideShapes
set_option linter.unusedVariables false

theorem ens_has {b : Bd} {j : Nat} (h : 0 < b.at j) : b.Ens j = b := by
  unfold Bd.Ens Bd.ens
  simp only [if_pos h, ite_self]
theorem ens_stops {n : Nat} {q s d began : Int} {b : Bd} (h : BInv n q s d began b) (t : Terms n q s d began) (k : Nat) (hk : k < n) (hn : ¬ 0 < (b.Ens k).at k) : (b.Ens k).pool = 0 := by
  have hg := Bd.at_get (b := b) (k := k) (by rw [h.len]; exact hk)
  have hs := h.hs
  have ht := t.hs
  unfold Bd.Ens Bd.ens at hn ⊢
  rw [if_neg (by rw [h.hq]; have := t.hq; omega)] at hn ⊢
  split
  · rename_i ho
    rw [if_pos ho] at hn
    exact absurd ho hn
  · rename_i ho
    rw [if_neg ho] at hn
    have e : (b.taken k (b.at k)).at k = b.at k + b.take (b.at k) := Bd.at_of (by unfold Bd.taken; exact List.getElem?_set_self (by rw [h.len]; exact hk))
    rw [e] at hn
    unfold Bd.take at hn
    show b.pool - min b.pool (b.s - b.at k) = 0
    omega
set_option maxHeartbeats 4000000 in
set_option maxRecDepth 100000 in
theorem walk_QuotaStops (ps t0 t1 : Nat) (a : Option Addr) (len capo : Nat) (f : Nat → Srv) (w : World) (hps : ps ≤ 255) (h0 : t0 ≤ 4294967295) (h1 : t1 ≤ 4294967295) (h : ServesAt w a len f) (hlen : len ≤ 9223372036854775807) :
    Calls Try.prog 6 #[.int .u8 ps, .agg #[.int .u32 t0, .int .u32 t1], .slice a len capo] w fun e w' => e = .returned (.bool true) ∧ Below w.heap.size w w' := by
  skip
  have HE := Lib.hid h; clear h
  go_enter Try.func6, Try.ntmps6
  go_wp2_with fail
  refine (awake _).mono ?_
  rintro e w1 ⟨rfl, hz1⟩
  have hx : w1.heap[w.heap.size]? = some (.cells #[.int .u32 t0, .int .u32 t1] 23 (0, 0)) := by
    rw [hz1.block w.heap.size (by simp)]; exact heap_alloc_new w _
  have x0 : w1.cell? ⟨w.heap.size, 0, none⟩ = some (.int .u32 t0) := by simp [World.cell?, hx]
  have x1 : w1.cell? ⟨w.heap.size, 1, none⟩ = some (.int .u32 t1) := by simp [World.cell?, hx]
  have HX1 := Lib.hid hx
  have hxl := (Array.getElem?_eq_some_iff.1 hx).1
  have HZ1 := Lib.hid (((Below.refl w.heap.size w).alloc (Nat.le_refl _) (.cells #[.int .u32 t0, .int .u32 t1] 23)).trans (below_le hz1 (by simp)))
  clear hz1 hx
  go_wp2_with fail
  refine (set_law ps t0 t1 _ h0 h1 hps).mono ?_
  rintro e w2 ⟨p, rfl, hp, hb2, hz2⟩
  have HX2 : Hid (w2.heap[w.heap.size]? = some (.cells #[.int .u32 t0, .int .u32 t1] 23 (0, 0))) := Lib.hid (by rw [hz2.block w.heap.size hxl]; exact HX1.out)
  have hz2' := hz2.size
  have hsz2b : w.heap.size < w2.heap.size := by omega
  have HZ2 := Lib.hid (HZ1.out.trans (below_le hz2 (by omega)))
  have hpm : ps % 8 < 8 := Nat.mod_lt _ (by decide)
  obtain ⟨n, hn⟩ : ∃ n : Nat, n = 1 + ps % 8 := ⟨_, rfl⟩
  have hnl : n ≤ 8 := by omega
  have t : Terms n (1 + t0) (1 + t1) 1000000 0 := ⟨by omega, by omega, by omega, by omega, by omega, by omega⟩
  have HG := Lib.hid (good_start _ _ _ _ _ _ (by rw [hn]; exact hb2) t)
  have HT := Lib.hid t
  have HN := Lib.hid hn
  have hpb : w.heap.size < p := by omega
  clear hb2 hz2 x0 x1 hz2' hn t
  go_wp2_with fail
  go_loopw [9] (fun i wr => ∃ (k : Nat) (b : Bd) (began : Int), k ≤ len ∧ k ≤ 150 ∧ i = .int .i64 k ∧ Good wr p n (1 + t0) (1 + t1) 1000000 began b ∧ Terms n (1 + t0) (1 + t1) 1000000 began ∧ Below w.heap.size w wr) (fun i _ => 150 - (intOf i).toNat)
  case atStart => exact ⟨0, _, 0, by omega, by omega, rfl, HG.out, HT.out, HZ2.out⟩
  case round =>
    obtain ⟨k, b, began, hk, hk2, rfl, hg, ht, hb⟩ := hrel
    have HGr := Lib.hid hg; have HTr := Lib.hid ht; have HBr := Lib.hid hb
    have hzr := hb.size
    clear hg ht hb
    by_cases hlt : k < len
    · by_cases hlt1 : k < 150
      · skip
        obtain ⟨bo, off, rfl, hbo, hP, hns, hc⟩ := HE.out k hlt
        obtain ⟨hc0, hc1, hc2⟩ : wr.cell? ⟨bo, off + k * 3, none⟩ = some (.int .i64 (f k).kd) ∧ wr.cell? ⟨bo, off + k * 3 + 1, none⟩ = some (.int .u8 (f k).P) ∧ wr.cell? ⟨bo, off + k * 3 + 2, none⟩ = some (.int .u32 (f k).ns) := by
          rw [HBr.out.cell (p := ⟨bo, off + k * 3, none⟩) hbo, HBr.out.cell (p := ⟨bo, off + k * 3 + 1, none⟩) hbo, HBr.out.cell (p := ⟨bo, off + k * 3 + 2, none⟩) hbo]; exact hc
        have hbr : bo < wr.heap.size := by omega
        have HC := Lib.hid hc
        clear hc
        generalize f k = x at *
        obtain ⟨kd, P, ns⟩ := x
        simp only at hP hns hc0 hc1 hc2 HC
        by_cases hkd : kd = 2
        · subst hkd
          go_wp2_with fail
          refine (refill_any _ _ _ HGr.out.has).mono ?_
          rintro e w3 ⟨rfl, hb3, ht3⟩
          obtain ⟨hi3, hT3⟩ := HGr.out.inv.refill HTr.out
          have HG3 : Hid (Good w3 p n (1 + t0) (1 + t1) 1000000 _ b.refill) := Lib.hid ⟨hb3, hi3⟩
          have HT3 := Lib.hid hT3
          have HB3 := Lib.hid (Good.below HBr.out ht3 (Nat.le_of_lt hpb) (Nat.le_refl _))
          clear hb3 ht3 hi3 hT3 hc0 hc1 hc2
          have hkn : P % n < n := Nat.mod_lt _ (by have := HT3.out.hn; omega)
          have HK : Hid ((P : Int) % (1 + (ps : Int) % 8) = ((P % n : Nat) : Int)) := Lib.hid (by rw [HN.out, Int.natCast_emod, show ((1 + ps % 8 : Nat) : Int) = 1 + (ps : Int) % 8 from by omega])
          obtain ⟨j, hj⟩ : ∃ j, j = P % n := ⟨_, rfl⟩
          rw [← hj] at hkn HK
          clear hj
          have hc1 : w3.cell? ⟨bo, off + k * 3 + 1, none⟩ = some (.int .u8 P) := by
            rw [HB3.out.cell (p := ⟨bo, off + k * 3 + 1, none⟩) hbo]; exact HC.out.2.1
          have hbr3 : bo < w3.heap.size := by have := HB3.out.size; omega
          obtain ⟨b3, bg3, HG3, HT3⟩ : ∃ b3 bg3, Hid (Good w3 p n (1 + t0) (1 + t1) 1000000 bg3 b3) ∧ Hid (Terms n (1 + t0) (1 + t1) 1000000 bg3) := ⟨_, _, HG3, HT3⟩
          have HL : Hid (j < b3.l.length) := Lib.hid (by rw [HG3.out.inv.len]; exact hkn)
          have HSm := Lib.hid (HG3.out.inv.small HT3.out)
          have HEi := Lib.hid (HG3.out.inv.ens HT3.out j hkn)
          have HL4 : Hid (j < (b3.Ens j).l.length) := Lib.hid (by rw [HEi.out.len]; exact hkn)
          have HMay := Lib.hid (HG3.out.inv.may HT3.out j hkn)
          have HSt := Lib.hid (ens_stops HG3.out.inv HT3.out j hkn)
          have HHas := Lib.hid (ens_has (b := b3) (j := j))
          go_wp2_with fail
          rw [HK.out]
          refine (local_k j _ _ _ HG3.out.has HL.out).mono ?_
          rintro e w4 ⟨rfl, rfl⟩
          go_wp2_with fail
          refine (pool_any _ _ _ HG3.out.has).mono ?_
          rintro e w4 ⟨rfl, rfl⟩
          go_wp2_with fail
          refine (ensure_k j _ _ _ HG3.out.has HSm.out HL.out).mono ?_
          rintro e w4 ⟨rfl, hb4, ht4⟩
          rw [HMay.out]
          have HG4 : Hid (Good w4 p n (1 + t0) (1 + t1) 1000000 _ (b3.Ens j)) := Lib.hid ⟨hb4, HEi.out⟩
          have HB4 := Lib.hid (Good.below HB3.out ht4 (Nat.le_of_lt hpb) (Nat.le_refl _))
          clear hb4 ht4 hc1
          by_cases hpos : 0 < (b3.Ens j).at j
          · have hd : decide (0 < (b3.Ens j).at j) = true := decide_eq_true hpos
            by_cases had : 0 < b3.at j
            · have e1 := HHas.out had
              obtain ⟨p1, hp1⟩ : ∃ p1, p1 = (b3.Ens j).pool := ⟨_, rfl⟩
              have h1 : (b3.Ens j).pool = b3.pool := by rw [e1]
              have h2 : (b3.Ens j).at j = b3.at j := by rw [e1]
              have hb1 : ((b3.Ens j).pool != b3.pool) = false := by simp [h1]
              have hb2 : ((b3.Ens j).at j != b3.at j) = false := by simp [h2]
              clear e1 hp1 h1 h2
              go_wp2_with (first | (go_at_call 14; refine (local_k j _ _ _ HG4.out.has HL4.out).mono ?_; rintro e w5 ⟨rfl, rfl⟩) | (go_at_call 12; refine (pool_any _ _ _ HG4.out.has).mono ?_; rintro e w5 ⟨rfl, rfl⟩))
              go_roundw
              case rel => exact ⟨k + 1, _, _, by omega, by omega, by go_num, HG4.out, HT3.out, HB4.out⟩
              case measure => simp [intOf]; omega
            · go_wp2_with (first | (go_at_call 14; refine (local_k j _ _ _ HG4.out.has HL4.out).mono ?_; rintro e w5 ⟨rfl, rfl⟩) | (go_at_call 12; refine (pool_any _ _ _ HG4.out.has).mono ?_; rintro e w5 ⟨rfl, rfl⟩))
              go_roundw
              case rel => exact ⟨k + 1, _, _, by omega, by omega, by go_num, HG4.out, HT3.out, HB4.out⟩
              case measure => simp [intOf]; omega
          · have hd : decide (0 < (b3.Ens j).at j) = false := decide_eq_false hpos
            have h0 := HSt.out (by omega)
            have hb0 : ((b3.Ens j).pool != 0) = false := by simp [h0]
            have hnn : b3.at j ≤ 0 := Int.not_lt.1 fun h => hpos (by rw [HHas.out h]; exact h)
            clear h0
            go_wp2_with (first | (go_at_call 14; refine (local_k j _ _ _ HG4.out.has HL4.out).mono ?_; rintro e w5 ⟨rfl, rfl⟩) | (go_at_call 12; refine (pool_any _ _ _ HG4.out.has).mono ?_; rintro e w5 ⟨rfl, rfl⟩))
            go_roundw
            case rel => exact ⟨k + 1, _, _, by omega, by omega, by go_num, HG4.out, HT3.out, HB4.out⟩
            case measure => simp [intOf]; omega
        · have hkb : (kd == 2) = false := beq_eq_false_iff_ne.2 hkd
          clear hkd
          go_wp2_with fail
          refine (serve_law kd P ns ps _ p n _ _ 1000000 began b HGr.out HTr.out HN.out hps hP hns).mono ?_
          rintro e w3 ⟨rfl, hg3, ht3⟩
          have HG3 := Lib.hid hg3
          have HT3 := Lib.hid HTr.out
          have HB3 := Lib.hid (Good.below HBr.out ht3 (Nat.le_of_lt hpb) (Nat.le_refl _))
          clear hg3 ht3 hc0 hc1 hc2
          have hkn : P % n < n := Nat.mod_lt _ (by have := HT3.out.hn; omega)
          have HK : Hid ((P : Int) % (1 + (ps : Int) % 8) = ((P % n : Nat) : Int)) := Lib.hid (by rw [HN.out, Int.natCast_emod, show ((1 + ps % 8 : Nat) : Int) = 1 + (ps : Int) % 8 from by omega])
          obtain ⟨j, hj⟩ : ∃ j, j = P % n := ⟨_, rfl⟩
          rw [← hj] at hkn HK
          clear hj
          have hc1 : w3.cell? ⟨bo, off + k * 3 + 1, none⟩ = some (.int .u8 P) := by
            rw [HB3.out.cell (p := ⟨bo, off + k * 3 + 1, none⟩) hbo]; exact HC.out.2.1
          have hbr3 : bo < w3.heap.size := by have := HB3.out.size; omega
          obtain ⟨b3, bg3, HG3, HT3⟩ : ∃ b3 bg3, Hid (Good w3 p n (1 + t0) (1 + t1) 1000000 bg3 b3) ∧ Hid (Terms n (1 + t0) (1 + t1) 1000000 bg3) := ⟨_, _, HG3, HT3⟩
          have HL : Hid (j < b3.l.length) := Lib.hid (by rw [HG3.out.inv.len]; exact hkn)
          have HSm := Lib.hid (HG3.out.inv.small HT3.out)
          have HEi := Lib.hid (HG3.out.inv.ens HT3.out j hkn)
          have HL4 : Hid (j < (b3.Ens j).l.length) := Lib.hid (by rw [HEi.out.len]; exact hkn)
          have HMay := Lib.hid (HG3.out.inv.may HT3.out j hkn)
          have HSt := Lib.hid (ens_stops HG3.out.inv HT3.out j hkn)
          have HHas := Lib.hid (ens_has (b := b3) (j := j))
          go_wp2_with fail
          rw [HK.out]
          refine (local_k j _ _ _ HG3.out.has HL.out).mono ?_
          rintro e w4 ⟨rfl, rfl⟩
          go_wp2_with fail
          refine (pool_any _ _ _ HG3.out.has).mono ?_
          rintro e w4 ⟨rfl, rfl⟩
          go_wp2_with fail
          refine (ensure_k j _ _ _ HG3.out.has HSm.out HL.out).mono ?_
          rintro e w4 ⟨rfl, hb4, ht4⟩
          rw [HMay.out]
          have HG4 : Hid (Good w4 p n (1 + t0) (1 + t1) 1000000 _ (b3.Ens j)) := Lib.hid ⟨hb4, HEi.out⟩
          have HB4 := Lib.hid (Good.below HB3.out ht4 (Nat.le_of_lt hpb) (Nat.le_refl _))
          clear hb4 ht4 hc1
          by_cases hpos : 0 < (b3.Ens j).at j
          · have hd : decide (0 < (b3.Ens j).at j) = true := decide_eq_true hpos
            by_cases had : 0 < b3.at j
            · have e1 := HHas.out had
              obtain ⟨p1, hp1⟩ : ∃ p1, p1 = (b3.Ens j).pool := ⟨_, rfl⟩
              have h1 : (b3.Ens j).pool = b3.pool := by rw [e1]
              have h2 : (b3.Ens j).at j = b3.at j := by rw [e1]
              have hb1 : ((b3.Ens j).pool != b3.pool) = false := by simp [h1]
              have hb2 : ((b3.Ens j).at j != b3.at j) = false := by simp [h2]
              clear e1 hp1 h1 h2
              go_wp2_with (first | (go_at_call 14; refine (local_k j _ _ _ HG4.out.has HL4.out).mono ?_; rintro e w5 ⟨rfl, rfl⟩) | (go_at_call 12; refine (pool_any _ _ _ HG4.out.has).mono ?_; rintro e w5 ⟨rfl, rfl⟩))
              go_roundw
              case rel => exact ⟨k + 1, _, _, by omega, by omega, by go_num, HG4.out, HT3.out, HB4.out⟩
              case measure => simp [intOf]; omega
            · go_wp2_with (first | (go_at_call 14; refine (local_k j _ _ _ HG4.out.has HL4.out).mono ?_; rintro e w5 ⟨rfl, rfl⟩) | (go_at_call 12; refine (pool_any _ _ _ HG4.out.has).mono ?_; rintro e w5 ⟨rfl, rfl⟩))
              go_roundw
              case rel => exact ⟨k + 1, _, _, by omega, by omega, by go_num, HG4.out, HT3.out, HB4.out⟩
              case measure => simp [intOf]; omega
          · have hd : decide (0 < (b3.Ens j).at j) = false := decide_eq_false hpos
            have h0 := HSt.out (by omega)
            have hb0 : ((b3.Ens j).pool != 0) = false := by simp [h0]
            have hnn : b3.at j ≤ 0 := Int.not_lt.1 fun h => hpos (by rw [HHas.out h]; exact h)
            clear h0
            go_wp2_with (first | (go_at_call 14; refine (local_k j _ _ _ HG4.out.has HL4.out).mono ?_; rintro e w5 ⟨rfl, rfl⟩) | (go_at_call 12; refine (pool_any _ _ _ HG4.out.has).mono ?_; rintro e w5 ⟨rfl, rfl⟩))
            go_roundw
            case rel => exact ⟨k + 1, _, _, by omega, by omega, by go_num, HG4.out, HT3.out, HB4.out⟩
            case measure => simp [intOf]; omega
      · go_wp2
        go_ret
        exact ⟨rfl, HBr.out⟩
    · go_wp2
      go_ret
      exact ⟨rfl, HBr.out⟩
theorem walk_QuotaStops' (ps : Int) (cs : List Value) (a : Option Addr) (len capo : Nat) (w : World) (hps : (Lit.int .u8 ps).wf = true) (hcs : Flat [some .u32, some .u32] cs) (h : FlatSlice [some .i64, some .u8, some .u32] w a len) :
    Calls Try.prog 6 #[.int .u8 ps, .agg ⟨cs⟩, .slice a len capo] w fun e w' => e = .returned (.bool true) ∧ Below w.heap.size w w' := by
  obtain ⟨t0, t1, rfl, u0, u1⟩ := flat_int2 hcs
  obtain ⟨m0, rfl, e0⟩ := u32_nat u0
  obtain ⟨m1, rfl, e1⟩ := u32_nat u1
  obtain ⟨m, rfl, e⟩ := u8_nat hps
  obtain ⟨f, hf⟩ := servesAt_of h
  exact walk_QuotaStops m m0 m1 a len capo f w e e0 e1 hf h.1
end Go.Proofs.Ytbhiinodejhggaa
