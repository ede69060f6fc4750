/- Contracts of the program's package quota: Refill; and the laws' own small test, awake. Conditions: the band lies in memory as HasBand says. -/
import Derived.Test.YtbhiinodejhggaaQuotaG
namespace Go.Proofs.Ytbhiinodejhggaa
open Go Go.RowKit Go.ChangeShapes Go.WideShapes
set_option linter.unusedVariables false

theorem refill_nil (w : World) : Calls Try.prog 16 #[.pointer none] w fun e w' => e = .returned (.tuple #[]) ∧ w = w' := by
  go_enter Try.func16, Try.ntmps16
  go_wp2
  refine bodyPost_ret (results_none rfl _ _ _) rfl ?_
  exact ⟨rfl, rfl⟩
def refillL (l : List Int) (k : Nat) : List Int := (l.take k).map (fun x => min x 0) ++ l.drop k
theorem refillL_length (l : List Int) (k : Nat) : (refillL l k).length = l.length := by simp [refillL]; omega
theorem refillL_get (l : List Int) (k : Nat) (h : k < l.length) : (refillL l k)[k]? = some l[k] := by
  unfold refillL
  rw [List.getElem?_append_right (by simp <;> omega)]
  have e : k - ((l.take k).map (fun x => min x 0)).length = 0 := by simp <;> omega
  rw [e, List.getElem?_drop]
  simp [h]
theorem refillL_step (l : List Int) (k : Nat) (h : k < l.length) : (refillL l k).set k (min l[k] 0) = refillL l (k + 1) := by
  unfold refillL
  have hl : ((l.take k).map (fun x => min x 0)).length = k := by simp <;> omega
  rw [List.set_append_right _ _ (by omega), hl, Nat.sub_self, List.drop_eq_getElem_cons h, List.set_cons_zero, List.take_succ_eq_append_getElem h, List.map_append, List.append_assoc]
  rfl
theorem refillL_all (l : List Int) : refillL l l.length = l.map (fun x => min x 0) := by simp [refillL]
def Bd.refill (b : Bd) : Bd := { b with spent := 0, pool := b.q, l := b.l.map (fun x => min x 0) }
set_option maxHeartbeats 1000000 in
theorem refill_any (w : World) (p : Nat) (b : Bd) (hb : HasBand w p b) :
    Calls Try.prog 16 #[.pointer (some ⟨p, 0, none⟩)] w fun e w' => e = .returned (.tuple #[]) ∧ HasBand w' p b.refill ∧ Tch (· = p) w w' := by
  obtain ⟨c0, c1, c2, c3, c4⟩ := hb.cell
  have hp := hb.lt
  have hi := hb.hi
  have hf2 := hb.free 2
  have hf3 := hb.free 3
  have h1 : HasBand ((w.setCell ⟨p, 3, none⟩ (.int .i64 0)).setCell ⟨p, 2, none⟩ (.int .i64 b.q)) p ⟨b.q, b.s, b.q, 0, refillL b.l 0⟩ := by
    have := (hb.spent_ 0).pool_ b.q
    simpa [refillL] using this
  have H1 := Lib.hid h1
  have HT : Hid (Tch (· = p) w ((w.setCell ⟨p, 3, none⟩ (.int .i64 0)).setCell ⟨p, 2, none⟩ (.int .i64 b.q))) := Lib.hid (Tch.setCell (F := (· = p)) (Tch.setCell (F := (· = p)) (Tch.refl _ _) (.inl rfl) _) (.inl rfl) _)
  obtain ⟨n, hn⟩ : ∃ n, n = b.l.length := ⟨_, rfl⟩
  rw [← hn] at c4 hi
  have HN := Lib.hid hn
  clear hb h1 hn
  go_enter Try.func16, Try.ntmps16
  go_wp2_with fail
  go_loopw [21] (fun i wr => ∃ k : Nat, k ≤ n ∧ i = .int .i64 k ∧ HasBand wr p ⟨b.q, b.s, b.q, 0, refillL b.l k⟩ ∧ Tch (· = p) w wr) (fun i _ => n - (intOf i).toNat)
  case atStart => exact ⟨0, by omega, rfl, H1.out, HT.out⟩
  case round =>
    obtain ⟨k, hk, rfl, hbr, htr⟩ := hrel
    have hpr := hbr.lt
    have HBr := Lib.hid hbr; have HTr := Lib.hid htr
    have c5 := hbr.cell.2.2.2.2
    rw [show (⟨b.q, b.s, b.q, 0, refillL b.l k⟩ : Bd).l.length = b.l.length from refillL_length _ _, ← HN.out] at c5
    clear hbr htr
    by_cases hlt : k < n
    · have hk' : k < b.l.length := by rw [← HN.out]; exact hlt
      obtain ⟨o, ho⟩ : ∃ o, o = b.l[k] := ⟨_, rfl⟩
      have hl := HBr.out.loc k (by show k < (refillL b.l k).length; rw [refillL_length]; exact hk')
      have hg : (refillL b.l k)[k]'(by rw [refillL_length]; exact hk') = o := by rw [ho]; exact (List.getElem?_eq_some_iff.1 (refillL_get b.l k hk')).2
      have hl' : wr.cell? ⟨p, 4 + k, none⟩ = some (.int .i64 o) := by rw [hl]; exact congrArg some (congrArg (Value.int .i64) hg)
      have hf4 := HBr.out.free (4 + k)
      have HS := Lib.hid (refillL_step b.l k hk')
      rw [← ho] at HS
      have hst : HasBand (wr.setCell ⟨p, 4 + k, none⟩ (.int .i64 (min o 0))) p ⟨b.q, b.s, b.q, 0, refillL b.l (k + 1)⟩ := by
        have := HBr.out.loc_ k (by show k < (refillL b.l k).length; rw [refillL_length]; exact hk') (min o 0)
        rw [← HS.out]; exact this
      have HST := Lib.hid hst
      clear hl hg ho hk' hst
      go_wp2
      go_roundw
      case rel => exact ⟨k + 1, by omega, by go_num, HST.out, Tch.setCell (F := (· = p)) HTr.out (.inl rfl) _⟩
      case measure => simp [intOf]; omega
    · have hkn : k = b.l.length := by rw [← HN.out]; omega
      have hfin : HasBand wr p b.refill := by
        have := HBr.out
        rw [hkn, refillL_all] at this
        exact this
      have HF := Lib.hid hfin
      clear hfin hkn
      go_wp2
      go_end0
      exact ⟨rfl, HF.out, HTr.out⟩

theorem awake_small (q s pool spent : Int) (l : List Int) (hq : 0 ≤ q ∧ q ≤ 100) (hs : 0 ≤ s ∧ s ≤ 100) (hp : 0 ≤ pool ∧ pool ≤ 100) (ht : 0 ≤ spent ∧ spent ≤ 100) (hl : ∀ x ∈ l, -100 ≤ x ∧ x ≤ 100) : (⟨q, s, pool, spent, l⟩ : Bd).Small :=
  ⟨by simp; omega, by simp; omega, by simp; omega, by simp; omega, fun x hx => by have := hl x hx; omega⟩
theorem HasBand.step {w w' : World} {p : Nat} {b b2 : Bd} (h : HasBand w' p b) (e : b = b2) : HasBand w' p b2 := e ▸ h
set_option maxHeartbeats 1000000 in
theorem awake (w : World) : Calls Try.prog 10 #[] w fun e w' => e = .returned (.bool true) ∧ Below w.heap.size w w' := by
  go_enter Try.func10, Try.ntmps10
  go_wp2_with fail
  refine (new_yes 2 _ (by omega) (by omega)).mono ?_
  rintro e w1 ⟨rfl, hb1, hz1⟩
  have HB1 := Lib.hid hb1; have HZ1 := Lib.hid hz1; clear hb1 hz1
  go_wp2_with fail
  refine (set_ok 10 4 _ _ _ HB1.out (by unfold BadSet; omega)).mono ?_
  rintro e w2 ⟨rfl, hb2, ht2⟩
  have HB2 : Hid (HasBand w2 w.heap.size ⟨10, 4, 10, 0, [0, 0]⟩) := Lib.hid hb2
  have HZ2 := Lib.hid (HZ1.out.trans (ht2.below HZ1.out.size (fun k hk => by omega))); clear hb2 ht2
  go_wp2_with fail
  refine (ensure_any 0 0 _ _ _ HB2.out (awake_small _ _ _ _ _ (by omega) (by omega) (by omega) (by omega) (by simp)) rfl).mono ?_
  rintro e w3 ⟨he, hb3, ht3⟩
  obtain rfl : e = .returned (.bool true) := he.trans rfl
  clear he
  have HB3 : Hid (HasBand w3 w.heap.size ⟨10, 4, 6, 0, [4, 0]⟩) := Lib.hid hb3
  have HZ3 := Lib.hid (HZ2.out.trans (ht3.below HZ2.out.size (fun k hk => by omega))); clear hb3 ht3
  go_wp2_with fail
  refine (charge_any 0 4 5 _ _ _ HB3.out (awake_small _ _ _ _ _ (by omega) (by omega) (by omega) (by omega) (by simp)) rfl (by omega) (by omega) (by rw [show (⟨10, 4, 6, 0, [4, 0]⟩ : Bd).charged 0 4 5 = ⟨10, 4, 6, 5, [-1, 0]⟩ from by simp [Bd.charged]]; exact awake_small 10 4 6 5 [-1, 0] (by omega) (by omega) (by omega) (by omega) (by simp))).mono ?_
  rintro e w4 ⟨he, hb4, ht4⟩
  obtain rfl : e = .returned (.tuple #[.bool true, .int .i64 0]) := he.trans rfl
  clear he
  have HB4 : Hid (HasBand w4 w.heap.size ⟨10, 4, 1, 5, [4, 0]⟩) := Lib.hid hb4
  have HZ4 := Lib.hid (HZ3.out.trans (ht4.below HZ3.out.size (fun k hk => by omega))); clear hb4 ht4
  go_wp2_with fail
  refine (ensure_any 1 0 _ _ _ HB4.out (awake_small _ _ _ _ _ (by omega) (by omega) (by omega) (by omega) (by simp)) rfl).mono ?_
  rintro e w5 ⟨he, hb5, ht5⟩
  obtain rfl : e = .returned (.bool true) := he.trans rfl
  clear he
  have HB5 : Hid (HasBand w5 w.heap.size ⟨10, 4, 0, 5, [4, 1]⟩) := Lib.hid hb5
  have HZ5 := Lib.hid (HZ4.out.trans (ht5.below HZ4.out.size (fun k hk => by omega))); clear hb5 ht5
  go_wp2_with fail
  refine (charge_any 1 1 3 _ _ _ HB5.out (awake_small _ _ _ _ _ (by omega) (by omega) (by omega) (by omega) (by simp)) rfl (by omega) (by omega) (by rw [show (⟨10, 4, 0, 5, [4, 1]⟩ : Bd).charged 1 1 3 = ⟨10, 4, 0, 8, [4, -2]⟩ from by simp [Bd.charged]]; exact awake_small 10 4 0 8 [4, -2] (by omega) (by omega) (by omega) (by omega) (by simp))).mono ?_
  rintro e w6 ⟨he, hb6, ht6⟩
  obtain rfl : e = .returned (.tuple #[.bool false, .int .i64 0]) := he.trans rfl
  clear he
  have HB6 : Hid (HasBand w6 w.heap.size ⟨10, 4, 0, 8, [4, -2]⟩) := Lib.hid hb6
  have HZ6 := Lib.hid (HZ5.out.trans (ht6.below HZ5.out.size (fun k hk => by omega))); clear hb6 ht6
  go_wp2_with fail
  refine (local_in 0 _ _ _ HB6.out (by simp)).mono ?_
  rintro e w7 ⟨rfl, rfl⟩
  go_wp2_with fail
  refine (local_in 1 _ _ _ HB6.out (by simp)).mono ?_
  rintro e w7 ⟨rfl, rfl⟩
  go_wp2_with fail
  refine (pool_any _ _ _ HB6.out).mono ?_
  rintro e w7 ⟨rfl, rfl⟩
  go_wp2_with fail
  refine (spent_any _ _ _ HB6.out).mono ?_
  rintro e w7 ⟨rfl, rfl⟩
  go_wp2
  go_ret
  exact ⟨rfl, HZ6.out⟩
end Go.Proofs.Ytbhiinodejhggaa
