/- The walk of the law QuotaReturns: it returns true. No conditions beyond those in each statement. -/
import Derived.Test.YtbhiinodejhggaaQuotaL
namespace Go.Proofs.Ytbhiinodejhggaa
open Go Go.RowKit Go.ChangeShapes Go.WideShapes
set_option linter.unusedVariables false

theorem small_of (q s pool spent : Int) (l : List Int) (hq : 0 ≤ q ∧ q ≤ 4294967296) (hs : 0 ≤ s ∧ s ≤ 4294967296) (hp : 0 ≤ pool ∧ pool ≤ 4294967296) (ht : 0 ≤ spent ∧ spent ≤ 4294967296) (hl : ∀ x ∈ l, 0 ≤ x ∧ x ≤ 4294967296) : (⟨q, s, pool, spent, l⟩ : Bd).Small :=
  ⟨by simp; omega, by simp; omega, by simp; omega, by simp; omega, fun x hx => by have := hl x hx; omega⟩
set_option maxHeartbeats 1000000 in
theorem walk_QuotaReturns (t0 t1 : Nat) (w : World) (h0 : t0 ≤ 4294967295) (h1 : t1 ≤ 4294967295) :
    Calls Try.prog 3 #[.agg #[.int .u32 t0, .int .u32 t1]] w fun e w' => e = .returned (.bool true) ∧ Below w.heap.size w w' := by
  go_enter Try.func3, Try.ntmps3
  go_wp2_with fail
  refine (awake _).mono ?_
  rintro e w1 ⟨rfl, hz1⟩
  have hx : w1.heap[w.heap.size]? = some (.cells #[.int .u32 t0, .int .u32 t1] 23 (0, 0)) := by
    rw [hz1.block w.heap.size (by simp)]; exact heap_alloc_new w _
  have x0 : w1.cell? ⟨w.heap.size, 0, none⟩ = some (.int .u32 t0) := by simp [World.cell?, hx]
  have x1 : w1.cell? ⟨w.heap.size, 1, none⟩ = some (.int .u32 t1) := by simp [World.cell?, hx]
  have HZ1 := Lib.hid (((Below.refl w.heap.size w).alloc (Nat.le_refl _) (.cells #[.int .u32 t0, .int .u32 t1] 23)).trans (below_le hz1 (by simp)))
  clear hz1 hx
  go_wp2_with fail
  refine (set_law 2 t0 t1 _ h0 h1 (by omega)).mono ?_
  rintro e w2 ⟨p, rfl, hp, hb2, hz2⟩
  obtain ⟨q, hq⟩ : ∃ q : Int, q = 1 + t0 := ⟨_, rfl⟩
  obtain ⟨s, hs⟩ : ∃ s : Int, s = 1 + t1 := ⟨_, rfl⟩
  obtain ⟨m, hm⟩ : ∃ m : Int, m = min q s := ⟨_, rfl⟩
  have hq1 : 1 ≤ q := by omega
  have hq2 : q ≤ 4294967296 := by omega
  have hs1 : 1 ≤ s := by omega
  have hs2 : s ≤ 4294967296 := by omega
  have hm1 : 1 ≤ m := by omega
  have hm2 : m ≤ q := by omega
  have HB2 : Hid (HasBand w2 p ⟨q, s, q, 0, [0, 0, 0]⟩) := Lib.hid (by rw [hq, hs]; exact hb2)
  have E1 : Hid ((⟨q, s, q, 0, [0, 0, 0]⟩ : Bd).taken 0 0 = ⟨q, s, q - m, 0, [m, 0, 0]⟩) := Lib.hid (by simp [Bd.taken, Bd.take, hm])
  have E2 : Hid ((⟨q, s, q - m, 0, [m, 0, 0]⟩ : Bd).back 0 m = ⟨q, s, q, 0, [0, 0, 0]⟩) := Lib.hid (by
    have : max m 0 = m := by omega
    simp [Bd.back, this])
  have E3 : Hid ((⟨q, s, q, 0, [0, 0, 0]⟩ : Bd).taken 1 0 = ⟨q, s, q - m, 0, [0, m, 0]⟩) := Lib.hid (by simp [Bd.taken, Bd.take, hm])
  have ET : Hid (0 + (⟨q, s, q, 0, [0, 0, 0]⟩ : Bd).take 0 = m) := Lib.hid (by simp [Bd.take, hm])
  have HZ2 := Lib.hid (HZ1.out.trans (below_le hz2 HZ1.out.size))
  have hpw : w.heap.size ≤ p := by have := HZ1.out.size; omega
  clear hb2 hz2 hp x0 x1 hq hs hm
  have HS0 := Lib.hid (small_of q s q 0 [0, 0, 0] (by omega) (by omega) (by omega) (by omega) (by simp))
  have HS1 := Lib.hid (small_of q s (q - m) 0 [m, 0, 0] (by omega) (by omega) (by omega) (by omega) (by simp; omega))
  have hd : decide (0 < m) = true := decide_eq_true (by omega)
  have HD := Lib.hid hd; clear hd
  have hsum : (m + (q - m) == q) = true := beq_iff_eq.2 (by omega)
  go_wp2_with fail
  refine (pool_any _ _ _ HB2.out).mono ?_
  rintro e w3 ⟨rfl, rfl⟩
  go_wp2_with fail
  refine (ensure_take 0 0 _ _ _ HB2.out HS0.out rfl (by show 0 < q; omega) (by omega)).mono ?_
  rw [ET.out, HD.out, E1.out]
  rintro e w3 ⟨rfl, hb3, ht3⟩
  have HB3 := Lib.hid hb3; have HZ3 := Lib.hid (HZ2.out.trans (ht3.below HZ2.out.size (fun k hk => by omega))); clear hb3 ht3
  go_wp2_with fail
  refine (local_in 0 _ _ _ HB3.out (by simp)).mono ?_
  rintro e w4 ⟨rfl, rfl⟩
  go_wp2_with fail
  refine (pool_any _ _ _ HB3.out).mono ?_
  rintro e w4 ⟨rfl, rfl⟩
  go_wp2_with fail
  refine (return_in 0 m _ _ _ HB3.out HS1.out rfl).mono ?_
  rw [E2.out]
  rintro e w4 ⟨rfl, hb4, ht4⟩
  have HB4 := Lib.hid hb4; have HZ4 := Lib.hid (HZ3.out.trans (ht4.below HZ3.out.size (fun k hk => by omega))); clear hb4 ht4
  go_wp2_with fail
  refine (pool_any _ _ _ HB4.out).mono ?_
  rintro e w5 ⟨rfl, rfl⟩
  go_wp2_with fail
  refine (ensure_take 1 0 _ _ _ HB4.out HS0.out rfl (by show 0 < q; omega) (by omega)).mono ?_
  rw [ET.out, HD.out, E3.out]
  rintro e w5 ⟨rfl, hb5, ht5⟩
  have HB5 := Lib.hid hb5; have HZ5 := Lib.hid (HZ4.out.trans (ht5.below HZ4.out.size (fun k hk => by omega))); clear hb5 ht5
  go_wp2_with fail
  refine (local_in 0 _ _ _ HB5.out (by simp)).mono ?_
  rintro e w6 ⟨rfl, rfl⟩
  go_wp2_with fail
  refine (local_in 1 _ _ _ HB5.out (by simp)).mono ?_
  rintro e w6 ⟨rfl, rfl⟩
  go_wp2
  go_ret
  exact ⟨rfl, HZ5.out⟩
theorem u32_nat {n : Int} (h : (Lit.int .u32 n).wf = true) : ∃ m : Nat, n = m ∧ m ≤ 4294967295 := by
  have hu := u32_of_wf h
  obtain ⟨m, rfl⟩ := Int.eq_ofNat_of_zero_le hu.1
  exact ⟨m, rfl, by omega⟩
theorem u8_nat {n : Int} (h : (Lit.int .u8 n).wf = true) : ∃ m : Nat, n = m ∧ m ≤ 255 := by
  have hu := u8_of_wf h
  obtain ⟨m, rfl⟩ := Int.eq_ofNat_of_zero_le hu.1
  exact ⟨m, rfl, by omega⟩
end Go.Proofs.Ytbhiinodejhggaa
