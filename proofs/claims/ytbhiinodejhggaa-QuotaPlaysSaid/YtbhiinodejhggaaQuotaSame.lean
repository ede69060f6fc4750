/- Contract of the laws' helper same: a band and the document's. Conditions: both lie in memory as HasBand and RefB say. -/
import Derived.Test.YtbhiinodejhggaaQuotaRefH
import Derived.Deep.RegionWith
namespace Go.Proofs.Ytbhiinodejhggaa
open Go Go.RowKit Go.ChangeShapes Go.WideShapes
set_option linter.unusedVariables false

theorem HasBand.drew {w : World} {p : Nat} {b : Bd} (h : HasBand w p b) : HasBand w.drew p b := ⟨h.blk, h.lo, h.hi⟩
set_option maxHeartbeats 4000000 in
theorem same_any (w : World) (p : Nat) (b : Bd) (g cap : Nat) (hb : HasBand w p b) (hr : RefB w b g cap) :
    Calls Try.prog 29 #[.pointer (some ⟨p, 0, none⟩), refV b g cap] w fun e w' => e = .returned (.bool true) ∧ Below w.heap.size w w' := by
  have HB := Lib.hid hb; have HR := Lib.hid hr
  have hlo := hr.lo
  have hhi := hr.hi
  clear hb hr
  go_enter Try.func29, Try.ntmps29
  go_wp2_with fail
  go_loopw [5] (fun i wr => ∃ j : Nat, j ≤ b.l.length + 2 ∧ i = .int .i64 ((j : Int) - 1) ∧ Bx wr w.heap.size (bcells b g cap) ∧ HasBand wr p b ∧ RefB wr b g cap ∧ Below w.heap.size w wr) (fun i _ => b.l.length + 2 - (intOf i + 1).toNat)
  case atStart => exact ⟨0, by omega, rfl, Bx.new w _, HB.out.alloc _, HR.out.behind (below_alloc _ _), below_alloc _ _⟩
  case round =>
    obtain ⟨j, hj, rfl, hx, hbr, hrr, hbl⟩ := hrel
    have X0 := Lib.hid hx; have HBr := Lib.hid hbr; have HRr := Lib.hid hrr; have HZr := Lib.hid hbl
    clear hx hbr hrr hbl
    obtain ⟨q0, q1, q2, q3, q4⟩ := X0.out.c5
    have l0 := X0.out.lt
    by_cases hjn : j < b.l.length + 2
    · have hle : decide ((j : Int) - 1 ≤ (b.l.length : Int)) = true := decide_eq_true (by omega)
      by_cases hin : 1 ≤ j ∧ j ≤ b.l.length
      · obtain ⟨m, rfl⟩ : ∃ m, j = m + 1 := ⟨j - 1, by omega⟩
        have hm : m < b.l.length := by omega
        go_wp2_with fail
        go_region_with (first | (go_at_call 14; refine (local_k m _ _ _ ?_ hm).mono ?_; (first | exact HBr.out.drew | exact HBr.out.drew.behind (by assumption)); rintro e w5 ⟨rfl, rfl⟩) | (go_at_call 36; refine (rlocal_in m (b.at m) _ _ _ _ ?_ (Bd.at_get hm)).mono ?_; (first | exact HRr.out.drew | exact HRr.out.drew.behind (by assumption)); rintro e w6 ⟨rfl, hb6⟩))
        all_goals
          go_wp2_with fail
          go_roundw
          case rel => exact ⟨m + 2, by omega, by go_num, X0.out.drew.behind (by assumption), HBr.out.drew.behind (by assumption), RefB.behind HRr.out.drew (by assumption), below_trans (below_drew HZr.out) (by assumption) HZr.out.size⟩
          case measure => simp [intOf]; omega
      · have hnot : NotP b ((j : Int) - 1) := by unfold NotP; omega
        go_wp2_with fail
        go_region_with (first | (go_at_call 14; refine (local_not _ _ _ _ ?_ hnot).mono ?_; (first | exact HBr.out.drew | exact HBr.out.drew.behind (by assumption)); rintro e w5 ⟨rfl, rfl⟩) | (go_at_call 36; refine (rlocal_not _ _ _ _ _ hnot).mono ?_; rintro e w6 ⟨rfl, hb6⟩))
        all_goals
          go_wp2_with fail
          go_roundw
          case rel => exact ⟨j + 1, by omega, by go_num, X0.out.drew.behind (by assumption), HBr.out.drew.behind (by assumption), RefB.behind HRr.out.drew (by assumption), below_trans (below_drew HZr.out) (by assumption) HZr.out.size⟩
          case measure => simp [intOf]; omega
    · have hle : decide ((j : Int) - 1 ≤ (b.l.length : Int)) = false := decide_eq_false (by omega)
      go_wp2_with fail
      go_quiet (first | (go_at_call 12; exact Calls.quiet_of_same ((pool_any _ _ _ (HBr.out.drewN _)).mono fun _ _ h => ⟨h.1, h.2.symm⟩)) | (go_at_call 18; exact Calls.quiet_of_same ((spent_any _ _ _ (HBr.out.drewN _)).mono fun _ _ h => ⟨h.1, h.2.symm⟩)) | (go_at_call 30; exact Calls.quiet_of_same ((limited_any _ _ _ (HBr.out.drewN _)).mono fun _ _ h => ⟨h.1, h.2.symm⟩)))
      go_wp2
      go_ret
      exact ⟨rfl, below_drewN HZr.out _⟩
end Go.Proofs.Ytbhiinodejhggaa
