/- The walk of the law VrunSplits: it returns true. Conditions: the arguments are numbers that their kinds hold, and a slice of such. -/
import Derived.Test.YtbmpepimldjmhaaVrun
import Derived.Test.YtbmpepimldjmhaaVrunPlain
import Derived.Test.YtbmpepimldjmhaaFlat
namespace Go.Proofs.Ytbmpepimldjmhaa
open Go Go.RowKit Go.ChangeShapes Go.WideShapes
set_option linter.unusedVariables false

/-- what the walk knows of a slice of uint32 that came in -/
def Elems (w : World) (a : Option Addr) (len : Nat) : Prop :=
  len ≤ 9223372036854775807 ∧ ∀ j, j < len → ∃ b off v, a = some ⟨b, off, none⟩ ∧ w.cell? ⟨b, off + j, none⟩ = some (.int .u32 v) ∧ 0 ≤ v ∧ v ≤ 4294967295

/-- what stands at a round's head: so many pieces were served for A in all, S is how far it went, o is left over -/
structure SplitIs (x l k S A o : Int) : Prop where
  sum : S * x + o = l + A * 1024
  pos : 0 ≤ S
  low : 0 ≤ o
  less : o < x
  all0 : 0 ≤ A
  all1 : A ≤ k * 19999999

theorem elems_of {w : World} {a : Option Addr} {len : Nat} (h : FlatSlice [some .u32] w a len) : Elems w a len :=
  ⟨h.1, fun j hj => by
    obtain ⟨b, off, cs, ha, _, hf, hc⟩ := h.2 j hj
    match cs, hf with
    | [c], hf =>
      obtain ⟨⟨v, rfl, hv⟩, _⟩ := hf
      have := hc 0 (by decide)
      exact ⟨b, off, v, ha, by simpa using this, (in32_of_wf hv).1, (in32_of_wf hv).2⟩⟩
theorem below_drewN {B : Nat} {a w : World} (h : Below B a w) (n : Nat) : Below B a (w.drewN n) := ⟨h.os, h.tape, h.output, h.size, h.block⟩

set_option maxHeartbeats 1000000 in
theorem walk_VrunSplits (a b : Int) (p : Option Addr) (len cap : Nat) (w : World) (ha : 0 ≤ a ∧ a ≤ 4294967295) (hb : 0 ≤ b ∧ b ≤ 4294967295) (hel : Elems w p len) :
    Calls Try.prog 4 #[.int .u32 a, .int .u32 b, .slice p len cap] w fun e w' => e = .returned (.bool true) ∧ Below w.heap.size w w' := by
  obtain ⟨hlen, hel⟩ := hel
  have HEL := Lib.hid hel; clear hel
  go_enter Try.func4, Try.ntmps4
  go_wp2_with fail
  refine (awake _).mono ?_
  rintro e w' ⟨rfl, n1, rfl⟩
  go_wp2_with fail
  refine (weight_ex _ _ _ ha.1 hb.1 ha.2 hb.2).mono ?_
  rintro e w' ⟨x, l, rfl, hx1, hx2, hl1, hl2, n2, rfl⟩
  go_wp2_with fail
  go_loopw [10, 11, 12, 13] (fun o A S i wr => ∃ (k : Nat) (oo AA SS : Int), k ≤ len ∧ k ≤ 50 ∧ i = .int .i64 k ∧ o = .int .u64 oo ∧ A = .int .u64 AA ∧ S = .int .i64 SS ∧ SplitIs x l k SS AA oo ∧ ∃ n, wr = w.drewN n) (fun _ _ _ i _ => 50 - (intOf i).toNat)
  case atStart => exact ⟨0, l, 0, 0, Nat.zero_le _, Nat.zero_le _, rfl, rfl, rfl, rfl, ⟨by omega, by omega, by omega, by omega, by omega, by omega⟩, _, rfl⟩
  case round =>
    obtain ⟨k, o, A, S, hk, hk2, rfl, rfl, rfl, rfl, hI, n, rfl⟩ := hrel
    have i1 := hI.pos; have i2 := hI.low; have i3 := hI.less; have i4 := hI.all0; have i5 := hI.all1
    have i6 : S ≤ S * x := le_times i1 (by omega)
    have i7 : S * x ≤ l + A * 1024 := by have := hI.sum; omega
    have i8 : A ≤ 999999950 := by omega
    by_cases hlt : k < len
    · by_cases hlt2 : k < 50
      · obtain ⟨bb, off, v, rfl, hc, v0, v1⟩ := HEL.out k hlt
        have HI := Lib.hid hI; clear hI
        go_wp2_with fail
        refine (charge_is _ _ _ _ hx1 hx2 i3 i2 (by omega) (by omega)).mono ?_
        rintro e w' ⟨d, r, rfl, hC, n3, rfl⟩
        have j1 := hC.pos
        have j2 : d ≤ d * x := le_times j1 (by omega)
        have j3 : d * x ≤ o + v % 20000000 * 1024 := by have := hC.sum; have := hC.rest; omega
        have HC := Lib.hid hC; clear hC
        go_wp2_with fail
        go_roundw
        case rel =>
          have hI := HI.out; have hC := HC.out
          refine ⟨k + 1, r, A + v % 20000000, S + d, by omega, by omega, by go_num, rfl, rfl, rfl, ⟨?_, by omega, hC.rest, hC.less, by omega, by omega⟩, _, rfl⟩
          have := hI.sum; have := hC.sum
          rw [Int.add_mul]; omega
        case measure => simp [intOf]; omega
      · have HI := Lib.hid hI; clear hI
        go_wp2_with fail
        refine (charge_is _ _ _ _ hx1 hx2 hl2 hl1 (by omega) (by omega)).mono ?_
        rintro e w' ⟨d, r, rfl, hC, n3, rfl⟩
        obtain ⟨rfl, rfl⟩ : d = S ∧ r = o := quo_one hC.rest hC.less i2 i3 (by have := hC.sum; have := HI.out.sum; omega)
        clear hC
        go_wp2_with fail
        go_ret
        exact ⟨rfl, by repeat (first | exact Below.refl _ _ | apply below_drewN)⟩
    · have HI := Lib.hid hI; clear hI
      go_wp2_with fail
      refine (charge_is _ _ _ _ hx1 hx2 hl2 hl1 (by omega) (by omega)).mono ?_
      rintro e w' ⟨d, r, rfl, hC, n3, rfl⟩
      obtain ⟨rfl, rfl⟩ : d = S ∧ r = o := quo_one hC.rest hC.less i2 i3 (by have := hC.sum; have := HI.out.sum; omega)
      clear hC
      go_wp2_with fail
      go_ret
      exact ⟨rfl, by repeat (first | exact Below.refl _ _ | apply below_drewN)⟩
end Go.Proofs.Ytbmpepimldjmhaa
