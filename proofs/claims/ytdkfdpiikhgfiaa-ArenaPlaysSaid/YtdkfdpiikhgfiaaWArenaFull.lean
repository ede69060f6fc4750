/- The walk of the law ArenaFull: it returns true. Condition: the argument is a number of uint8. -/
import Derived.Test.YtdkfdpiikhgfiaaPoolA
namespace Go.Proofs.Ytdkfdpiikhgfiaa
open Go Go.RowKit Go.ChangeShapes Go.WideShapes
set_option linter.unusedVariables false

theorem ret_true {b : Bool} (h : b = true) : Ending.returned (.bool b) = .returned (.bool true) := by rw [h]
/-- the places of a pool into which 0, 1, .. were put -/
def fullL : Nat → List Pl
  | 0 => []
  | n + 1 => fullL n ++ [⟨n, 0, true, -1⟩]
theorem fullL_length (n : Nat) : (fullL n).length = n := by
  induction n with
  | zero => rfl
  | succ n ih => simp [fullL, ih]
theorem fullL_get (n k : Nat) (h : k < n) : (fullL n)[k]? = some ⟨k, 0, true, -1⟩ := by
  induction n with
  | zero => omega
  | succ n ih =>
    by_cases e : k = n
    · subst e
      rw [fullL, List.getElem?_append_right (by rw [fullL_length]; omega), fullL_length]; simp
    · rw [fullL, List.getElem?_append_left (by rw [fullL_length]; omega)]; exact ih (by omega)
theorem put_next (k : Nat) (w : World) (base p : Nat) (v : Value) (room many : Int) (h : HasPool w base p v room many (-1) (fullL k)) (hm : many = k) (hl : k < 4096) (hr : (k : Int) < room) (hbase : base ≤ w.heap.size) :
    Calls Try.prog 11 #[.pointer (some ⟨p, 0, none⟩), .int .i64 k] w fun e w' => e = .returned (.tuple #[.agg #[.int .i64 k, .int .i64 0], .int .i64 0]) ∧
      ∃ g cap, HasPool w' base p (.slice (some ⟨g, 0, none⟩) (k + 1) cap) room (k + 1 : Nat) (-1) (fullL (k + 1)) ∧ PoolStep base p w w' := by
  subst hm
  have c := put_grow k w base p v room k (fullL k) h (by rw [fullL_length]; omega) (by omega) hr hbase
  rw [fullL_length] at c
  exact c

set_option maxHeartbeats 1000000 in
theorem walk_ArenaFull (r : Nat) (w : World) (hr : r ≤ 255) :
    Calls Try.prog 4 #[.int .u8 r] w fun e w' => e = .returned (.bool true) ∧ Below w.heap.size w w' := by
  go_enter Try.func4, Try.ntmps4
  go_wp2_with fail
  refine (awake _).mono ?_
  rintro e w1 ⟨rfl, b1⟩
  go_wp2_with fail
  refine (new_yes _ _ (by omega)).mono ?_
  rintro e w2 ⟨rfl, rfl⟩
  have hz1 := b1.size
  have HP := Lib.hid (HasPool.made w1 (1 + r) w.heap.size b1.size)
  have HB := Lib.hid (b1.alloc b1.size (.cells #[.int .i64 (1 + r), .int .i64 0, .slice none 0 0, .int .i64 (-1)] 64))
  clear b1
  go_wp2_with fail
  go_loopw [7] (fun i wr => ∃ (k : Nat) (v : Value), k ≤ r + 1 ∧ i = .int .i64 k ∧ HasPool wr w.heap.size w1.heap.size v (1 + r) k (-1) (fullL k) ∧ Below w.heap.size w wr) (fun i _ => (r + 1) - (intOf i).toNat)
  case atStart => exact ⟨0, _, by omega, rfl, HP.out, HB.out⟩
  case round =>
    obtain ⟨k, v, hk, rfl, hp, hb⟩ := hrel
    have hzr := hb.size
    have HPr := Lib.hid hp; have HBr := Lib.hid hb; clear hp hb
    by_cases hlt : (k : Int) < 1 + r
    · go_wp2_with fail
      refine (put_next k _ _ _ _ _ _ HPr.out rfl (by omega) (by omega) (by omega)).mono ?_
      rintro e w3 ⟨rfl, g, cap, hp3, hs3⟩
      have hz3 := hs3.tch.size
      have HP3 := Lib.hid hp3; have HB3 := Lib.hid (HBr.out.trans hs3.below); clear hp3 hs3
      go_wp2_with fail
      go_roundw
      case rel => exact ⟨k + 1, _, by omega, by go_num, HP3.out.alloc _, HB3.out.alloc (by omega) _⟩
      case measure => simp [intOf]; omega
    · obtain rfl : k = r + 1 := by omega
      obtain ⟨g, cap, rfl⟩ : ∃ g cap, v = .slice (some ⟨g, 0, none⟩) (r + 1) cap := by
        rcases HPr.out.row with ⟨_, hn⟩ | ⟨g, cap, hv, _⟩
        · simp [fullL] at hn
        · rw [fullL_length] at hv; exact ⟨g, cap, hv⟩
      have hk0 : (1 + (r : Int)) / 2 = (((r + 1) / 2 : Nat) : Int) := by omega
      have HK := Lib.hid hk0; clear hk0
      generalize hkk : (r + 1) / 2 = k0 at *
      have hk1 : k0 < r + 1 := by omega
      have HKK := Lib.hid hkk; clear hkk
      have hrr : (((r + 1 : Nat)) : Int) = 1 + (r : Int) := by omega
      have HRR := Lib.hid hrr; clear hrr
      go_wp2_with fail
      refine (put_full _ _ _ _ _ _ _ _ _ HPr.out HRR.out).mono ?_
      rintro e w3 ⟨rfl, hs3⟩
      have hz3 := hs3.size
      have HP3 := Lib.hid (HPr.out.behind hs3); have HB3 := Lib.hid (HBr.out.trans (below_le hs3 (by omega))); clear hs3
      go_wp2_with fail
      rw [HK.out]
      refine (free_step _ 0 k0 ⟨k0, 0, true, -1⟩ _ _ _ _ _ _ _ _ _ _ (HP3.out.alloc _) (by rw [fullL_length]; omega) ⟨rfl, fullL_get _ _ hk1, rfl, rfl⟩ (by simp) (by omega) (by simp; omega)).mono ?_
      rintro e w4 ⟨rfl, hp4, hs4⟩
      have hz4 := hs4.tch.size
      simp at hz4
      have HP4 := Lib.hid hp4; have HB4 := Lib.hid ((HB3.out.alloc (by omega) _).trans hs4.below); clear hp4 hs4
      go_wp2_with fail
      refine (put_again _ k0 ⟨0, 1, false, -1⟩ _ _ _ _ _ _ _ _ _ HP4.out (by simp [fullL_length]; omega) (by rw [List.getElem?_set_self (by rw [fullL_length]; omega)]; rfl) (by omega) (by omega) (by omega)).mono ?_
      rintro e w5 ⟨rfl, hp5, hs5⟩
      have hz5 := hs5.tch.size
      have HP5 := Lib.hid hp5; have HB5 := Lib.hid (HB4.out.trans hs5.below); clear hp5 hs5
      go_wp2_with fail
      refine (put_full _ _ _ _ _ _ _ _ _ (HP5.out.alloc _) (by have := HRR.out; omega)).mono ?_
      rintro e w6 ⟨rfl, hs6⟩
      have hz6 := hs6.size
      simp at hz6
      have hx6 := (Box.new w5 k0 1).below hs6
      obtain ⟨y0, y1⟩ := (hx6.alloc (.cells #[.int .i64 0, .int .i64 0] 31)).cells
      have HP6 := Lib.hid ((HP5.out.alloc _).behind hs6); have HB6 := Lib.hid ((HB5.out.alloc (by omega) _).trans (below_le hs6 (by simp; omega))); clear hs6 hx6
      have hkb : ((1 + (r : Int)) / 2 == (k0 : Int)) = true := by rw [HK.out]; exact beq_self_eq_true _
      have hkc : ((k0 : Int) == (1 + (r : Int)) / 2) = true := by rw [HK.out]; exact beq_self_eq_true _
      have hkd : ((((r + 1 : Nat)) : Int) - 1 + 1 == 1 + (r : Int)) = true := beq_iff_eq.2 (by omega)
      go_wp2_with fail
      refine (len_any _ _ _ _ _ _ _ _ (HP6.out.alloc _)).mono ?_
      rintro e w7 ⟨rfl, rfl⟩
      go_wp2
      go_ret
      exact ⟨ret_true (beq_iff_eq.2 (by omega)), HB6.out.alloc (by omega) _⟩
end Go.Proofs.Ytdkfdpiikhgfiaa
