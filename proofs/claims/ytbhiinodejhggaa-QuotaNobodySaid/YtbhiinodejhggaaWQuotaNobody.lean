/- The walk of the law QuotaNobody: it returns true. No conditions beyond those in each statement. -/
import Derived.Test.YtbhiinodejhggaaServes
namespace Go.Proofs.Ytbhiinodejhggaa
open Go Go.RowKit Go.ChangeShapes Go.WideShapes
set_option linter.unusedVariables false

set_option maxHeartbeats 4000000 in
set_option maxRecDepth 100000 in
theorem walk_nobody_in (ps m : Nat) (ns : Int) (w : World) (hps : ps ≤ 255) (hm : m < 1 + ps % 64) :
    Calls Try.prog 9 #[.int .u8 ps, .int .i64 m, .int .i64 ns] w fun e w' => e = .returned (.bool true) ∧ Below w.heap.size w w' := by
  have hmod : ps % 64 < 64 := Nat.mod_lt _ (by decide)
  have hmi : decide ((m : Int) < 1 + (ps : Int) % 64) = true := decide_eq_true (by omega)
  have hm0 : decide (0 ≤ (m : Int)) = true := decide_eq_true (by omega)
  by_cases hns : 0 ≤ ns ∧ ns ≤ 1000000000
  · obtain ⟨ha, hb⟩ := hns
    have d1 : decide (0 ≤ ns) = true := decide_eq_true ha
    have d2 : decide (ns ≤ 1000000000) = true := decide_eq_true hb
    go_enter Try.func9, Try.ntmps9
    go_wp2_with fail
    refine (awake _).mono ?_
    rintro e w1 ⟨rfl, hz1⟩
    have HZ1 := Lib.hid hz1
    go_wp2_with fail
    rw [show (1 + (ps : Int) % 64) = ((1 + ps % 64 : Nat) : Int) from by omega]
    refine (new_yes (1 + ps % 64) _ (by omega) (by omega)).mono ?_
    rintro e w2 ⟨rfl, hb2, hz2⟩
    have HB2 := Lib.hid hb2
    have HZ2 := Lib.hid (HZ1.out.trans (below_le hz2 hz1.size))
    obtain ⟨p, hp⟩ : ∃ p, p = w1.heap.size := ⟨_, rfl⟩
    rw [← hp] at HB2 ⊢
    have hpb : w.heap.size ≤ p := by have := hz1.size; omega
    obtain ⟨n, hn⟩ : ∃ n, n = 1 + ps % 64 := ⟨_, rfl⟩
    rw [← hn] at HB2
    have hn1 : n ≤ 64 := by omega
    have hz64 : (⟨0, 0, 0, 0, List.replicate n 0⟩ : Bd).Small := ⟨by simp, by simp, by simp, by simp, fun x hx => by rw [List.eq_of_mem_replicate hx]; omega⟩
    have HSm := Lib.hid hz64
    rw [← hn] at hm
    clear hz1 hz2 hb2 hp hn hz64
    go_wp2_with fail
    refine (ensure_free m _ _ _ HB2.out (by simpa using hm) rfl).mono ?_
    rintro e w3 ⟨rfl, rfl⟩
    go_wp2_with fail
    have hge : (⟨0, 0, 0, 0, List.replicate n 0⟩ : Bd).l[m]? = some 0 := by simp [hm]
    have e1 : (⟨0, 0, 0, 0, List.replicate n 0⟩ : Bd).charged m 0 ns = ⟨0, 0, 0, ns, List.replicate n 0⟩ := by simp [Bd.charged]
    have e2 : (⟨0, 0, 0, ns, List.replicate n 0⟩ : Bd).ens m 0 = ⟨0, 0, 0, ns, List.replicate n 0⟩ := by simp [Bd.ens]
    have e3 : (⟨0, 0, 0, 0, List.replicate n 0⟩ : Bd).left 0 ns = 0 := by simp [Bd.left]
    have e4 : (⟨0, 0, 0, ns, List.replicate n 0⟩ : Bd).may 0 = true := by simp [Bd.may]
    have c := charge_any m 0 ns w2 p _ HB2.out HSm.out hge ha hb (by rw [e1]; exact ⟨by simp, by simp, by simp, by simp; omega, HSm.out.l⟩)
    rw [e1, e3, e4, e2] at c
    have HC := Lib.hid c
    clear hge e1 e2 e3 e4 c
    refine HC.out.mono ?_
    rintro e w3 ⟨rfl, hb3, ht3⟩
    obtain ⟨b3, hq3, hl3, HB3⟩ : ∃ b3 : Bd, b3.q = 0 ∧ b3.l.length = n ∧ Hid (HasBand w3 p b3) := ⟨_, rfl, by simp, Lib.hid hb3⟩
    have HZ3 := Lib.hid (Good.below HZ2.out ht3 hpb (Nat.le_refl _))
    clear hb3 ht3
    have HZb := Lib.hid HB3.out.hi
    go_wp2_with fail
    refine (refill_any _ _ _ HB3.out).mono ?_
    rintro e w4 ⟨rfl, hb4, ht4⟩
    have HB4 : Hid (HasBand w4 p b3.refill) := Lib.hid hb4
    have HZ4 := Lib.hid (Good.below HZ3.out ht4 hpb (Nat.le_refl _))
    clear hb4 ht4
    go_wp2_with fail
    refine (ensure_free m _ _ _ HB4.out (by show m < (b3.l.map _).length; rw [List.length_map, hl3]; exact hm) hq3).mono ?_
    rintro e w5 ⟨rfl, rfl⟩
    go_wp2_with fail
    refine (return_nil _ _).mono ?_
    rintro e w5 ⟨rfl, rfl⟩
    go_wp2_with fail
    refine (refill_nil _).mono ?_
    rintro e w5 ⟨rfl, rfl⟩
    go_wp2_with fail
    refine (charge_nil _ _ _).mono ?_
    rintro e w5 ⟨rfl, rfl⟩
    have hlim : decide (0 < b3.refill.q) = false := by
      show decide (0 < b3.q) = false
      rw [hq3]; rfl
    go_wp2_with fail
    refine (limited_any _ _ _ HB4.out).mono ?_
    rw [hlim]
    rintro e w5 ⟨rfl, rfl⟩
    go_wp2_with fail
    refine (set_nil _ _ _).mono ?_
    rintro e w5 ⟨rfl, rfl⟩
    go_wp2_with fail
    refine (ensure_nil _ _).mono ?_
    rintro e w5 ⟨rfl, rfl⟩
    go_wp2_with fail
    refine (limited_nil _).mono ?_
    rintro e w5 ⟨rfl, rfl⟩
    go_wp2_with fail
    refine (pool_nil _).mono ?_
    rintro e w5 ⟨rfl, rfl⟩
    go_wp2_with fail
    refine (local_nil _ _).mono ?_
    rintro e w5 ⟨rfl, rfl⟩
    go_wp2_with fail
    refine (spent_nil _).mono ?_
    rintro e w5 ⟨rfl, rfl⟩
    go_wp2
    go_ret
    exact ⟨rfl, HZ4.out⟩
  · have hbad : ns < 0 ∨ 1000000000 < ns := by omega
    have HBad := Lib.hid hbad
    have hd : decide (0 ≤ ns) = false ∨ (decide (0 ≤ ns) = true ∧ decide (ns ≤ 1000000000) = false) := by
      by_cases h0 : 0 ≤ ns
      · exact .inr ⟨decide_eq_true h0, decide_eq_false (by omega)⟩
      · exact .inl (decide_eq_false h0)
    clear hns hbad
    rcases hd with d1 | ⟨d1, d2⟩
    all_goals
      skip
      go_enter Try.func9, Try.ntmps9
      go_wp2_with fail
      refine (awake _).mono ?_
      rintro e w1 ⟨rfl, hz1⟩
      have HZ1 := Lib.hid hz1
      go_wp2_with fail
      rw [show (1 + (ps : Int) % 64) = ((1 + ps % 64 : Nat) : Int) from by omega]
      refine (new_yes (1 + ps % 64) _ (by omega) (by omega)).mono ?_
      rintro e w2 ⟨rfl, hb2, hz2⟩
      have HB2 := Lib.hid hb2
      have HZ2 := Lib.hid (HZ1.out.trans (below_le hz2 hz1.size))
      obtain ⟨p, hp⟩ : ∃ p, p = w1.heap.size := ⟨_, rfl⟩
      rw [← hp] at HB2 ⊢
      have hpb : w.heap.size ≤ p := by have := hz1.size; omega
      obtain ⟨n, hn⟩ : ∃ n, n = 1 + ps % 64 := ⟨_, rfl⟩
      rw [← hn] at HB2
      have hn1 : n ≤ 64 := by omega
      have hz64 : (⟨0, 0, 0, 0, List.replicate n 0⟩ : Bd).Small := ⟨by simp, by simp, by simp, by simp, fun x hx => by rw [List.eq_of_mem_replicate hx]; omega⟩
      have HSm := Lib.hid hz64
      rw [← hn] at hm
      clear hz1 hz2 hb2 hp hn hz64
      go_wp2_with fail
      refine (ensure_free m _ _ _ HB2.out (by simpa using hm) rfl).mono ?_
      rintro e w3 ⟨rfl, rfl⟩
      go_wp2_with fail
      refine (charge_tick m ns _ _ _ HB2.out (by simpa using hm) HBad.out).mono ?_
      rintro e w3 ⟨rfl, rfl⟩
      obtain ⟨b3, hq3, hl3, HB3⟩ : ∃ b3 : Bd, b3.q = 0 ∧ b3.l.length = n ∧ Hid (HasBand w2 p b3) := ⟨_, rfl, by simp, HB2⟩
      have HZ3 := HZ2
      have HZb := Lib.hid HB3.out.hi
      go_wp2_with fail
      refine (refill_any _ _ _ HB3.out).mono ?_
      rintro e w4 ⟨rfl, hb4, ht4⟩
      have HB4 : Hid (HasBand w4 p b3.refill) := Lib.hid hb4
      have HZ4 := Lib.hid (Good.below HZ3.out ht4 hpb (Nat.le_refl _))
      clear hb4 ht4
      go_wp2_with fail
      refine (ensure_free m _ _ _ HB4.out (by show m < (b3.l.map _).length; rw [List.length_map, hl3]; exact hm) hq3).mono ?_
      rintro e w5 ⟨rfl, rfl⟩
      go_wp2_with fail
      refine (return_nil _ _).mono ?_
      rintro e w5 ⟨rfl, rfl⟩
      go_wp2_with fail
      refine (refill_nil _).mono ?_
      rintro e w5 ⟨rfl, rfl⟩
      go_wp2_with fail
      refine (charge_nil _ _ _).mono ?_
      rintro e w5 ⟨rfl, rfl⟩
      have hlim : decide (0 < b3.refill.q) = false := by
        show decide (0 < b3.q) = false
        rw [hq3]; rfl
      go_wp2_with fail
      refine (limited_any _ _ _ HB4.out).mono ?_
      rw [hlim]
      rintro e w5 ⟨rfl, rfl⟩
      go_wp2_with fail
      refine (set_nil _ _ _).mono ?_
      rintro e w5 ⟨rfl, rfl⟩
      go_wp2_with fail
      refine (ensure_nil _ _).mono ?_
      rintro e w5 ⟨rfl, rfl⟩
      go_wp2_with fail
      refine (limited_nil _).mono ?_
      rintro e w5 ⟨rfl, rfl⟩
      go_wp2_with fail
      refine (pool_nil _).mono ?_
      rintro e w5 ⟨rfl, rfl⟩
      go_wp2_with fail
      refine (local_nil _ _).mono ?_
      rintro e w5 ⟨rfl, rfl⟩
      go_wp2_with fail
      refine (spent_nil _).mono ?_
      rintro e w5 ⟨rfl, rfl⟩
      go_wp2
      go_ret
      exact ⟨rfl, HZ4.out⟩
set_option maxHeartbeats 4000000 in
set_option maxRecDepth 100000 in
theorem walk_nobody_not (ps : Nat) (k ns : Int) (w : World) (hps : ps ≤ 255) (hk : k < 0 ∨ ((1 + ps % 64 : Nat) : Int) ≤ k) :
    Calls Try.prog 9 #[.int .u8 ps, .int .i64 k, .int .i64 ns] w fun e w' => e = .returned (.bool true) ∧ Below w.heap.size w w' := by
  have hmod : ps % 64 < 64 := Nat.mod_lt _ (by decide)
  have hd : decide (0 ≤ k) = false ∨ (decide (0 ≤ k) = true ∧ decide (k < 1 + (ps : Int) % 64) = false) := by
    by_cases h0 : 0 ≤ k
    · exact .inr ⟨decide_eq_true h0, decide_eq_false (by omega)⟩
    · exact .inl (decide_eq_false h0)
  rcases hd with d1 | ⟨d1, d2⟩
  all_goals
    skip
    go_enter Try.func9, Try.ntmps9
    go_wp2_with fail
    refine (awake _).mono ?_
    rintro e w1 ⟨rfl, hz1⟩
    have HZ1 := Lib.hid hz1
    go_wp2_with fail
    rw [show (1 + (ps : Int) % 64) = ((1 + ps % 64 : Nat) : Int) from by omega]
    refine (new_yes (1 + ps % 64) _ (by omega) (by omega)).mono ?_
    rintro e w2 ⟨rfl, hb2, hz2⟩
    have HB2 := Lib.hid hb2
    have HZ2 := Lib.hid (HZ1.out.trans (below_le hz2 hz1.size))
    obtain ⟨p, hp⟩ : ∃ p, p = w1.heap.size := ⟨_, rfl⟩
    rw [← hp] at HB2 ⊢
    have hpb : w.heap.size ≤ p := by have := hz1.size; omega
    obtain ⟨n, hn⟩ : ∃ n, n = 1 + ps % 64 := ⟨_, rfl⟩
    rw [← hn] at HB2
    have hn1 : n ≤ 64 := by omega
    have hz64 : (⟨0, 0, 0, 0, List.replicate n 0⟩ : Bd).Small := ⟨by simp, by simp, by simp, by simp, fun x hx => by rw [List.eq_of_mem_replicate hx]; omega⟩
    have HSm := Lib.hid hz64
    rw [← hn] at hk
    have HK := Lib.hid hk
    clear hz1 hz2 hb2 hp hn hz64 hk
    go_wp2_with fail
    refine (ensure_not k _ _ _ HB2.out (by unfold NotP; simpa using HK.out)).mono ?_
    rintro e w3 ⟨rfl, rfl⟩
    go_wp2_with fail
    refine (charge_not k ns _ _ _ HB2.out (by unfold NotP; simpa using HK.out)).mono ?_
    rintro e w3 ⟨rfl, rfl⟩
    obtain ⟨b3, hq3, hl3, HB3⟩ : ∃ b3 : Bd, b3.q = 0 ∧ b3.l.length = n ∧ Hid (HasBand w2 p b3) := ⟨_, rfl, by simp, HB2⟩
    have HZ3 := HZ2
    have HZb := Lib.hid HB3.out.hi
    go_wp2_with fail
    refine (refill_any _ _ _ HB3.out).mono ?_
    rintro e w4 ⟨rfl, hb4, ht4⟩
    have HB4 : Hid (HasBand w4 p b3.refill) := Lib.hid hb4
    have HZ4 := Lib.hid (Good.below HZ3.out ht4 hpb (Nat.le_refl _))
    clear hb4 ht4
    go_wp2_with fail
    refine (ensure_not k _ _ _ HB4.out (by unfold NotP; show k < 0 ∨ (((b3.l.map _).length : Nat) : Int) ≤ k; rw [List.length_map, hl3]; exact HK.out)).mono ?_
    rintro e w5 ⟨rfl, rfl⟩
    go_wp2_with fail
    refine (return_nil _ _).mono ?_
    rintro e w5 ⟨rfl, rfl⟩
    go_wp2_with fail
    refine (refill_nil _).mono ?_
    rintro e w5 ⟨rfl, rfl⟩
    go_wp2_with fail
    refine (charge_nil _ _ _).mono ?_
    rintro e w5 ⟨rfl, rfl⟩
    have hlim : decide (0 < b3.refill.q) = false := by
      show decide (0 < b3.q) = false
      rw [hq3]; rfl
    go_wp2_with fail
    refine (limited_any _ _ _ HB4.out).mono ?_
    rw [hlim]
    rintro e w5 ⟨rfl, rfl⟩
    go_wp2_with fail
    refine (set_nil _ _ _).mono ?_
    rintro e w5 ⟨rfl, rfl⟩
    go_wp2_with fail
    refine (ensure_nil _ _).mono ?_
    rintro e w5 ⟨rfl, rfl⟩
    go_wp2_with fail
    refine (limited_nil _).mono ?_
    rintro e w5 ⟨rfl, rfl⟩
    go_wp2_with fail
    refine (pool_nil _).mono ?_
    rintro e w5 ⟨rfl, rfl⟩
    go_wp2_with fail
    refine (local_nil _ _).mono ?_
    rintro e w5 ⟨rfl, rfl⟩
    go_wp2_with fail
    refine (spent_nil _).mono ?_
    rintro e w5 ⟨rfl, rfl⟩
    go_wp2
    go_ret
    exact ⟨rfl, HZ4.out⟩
theorem walk_QuotaNobody' (ps k ns : Int) (w : World) (hps : (Lit.int .u8 ps).wf = true) :
    Calls Try.prog 9 #[.int .u8 ps, .int .i64 k, .int .i64 ns] w fun e w' => e = .returned (.bool true) ∧ Below w.heap.size w w' := by
  obtain ⟨m, rfl, e⟩ := u8_nat hps
  by_cases hk : k < 0 ∨ ((1 + m % 64 : Nat) : Int) ≤ k
  · exact walk_nobody_not m k ns w e hk
  · obtain ⟨j, rfl⟩ := Int.eq_ofNat_of_zero_le (show 0 ≤ k by omega)
    exact walk_nobody_in m j ns w e (by omega)
end Go.Proofs.Ytbhiinodejhggaa
