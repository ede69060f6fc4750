/- Plain facts on sums, differences and products of 64-bit numbers, with no program in sight. No conditions beyond those in each statement. -/
import Derived.Handy
import Derived.Lib.Hide
namespace Go.Proofs.Ytbhiinodejhggaa
open Go Go.RowKit

/-- a number that int64 holds -/
def In64 (n : Int) : Prop := -9223372036854775808 ≤ n ∧ n ≤ 9223372036854775807

theorem in64_of_wf {n : Int} (h : (Lit.int .i64 n).wf = true) : -9223372036854775808 ≤ n ∧ n ≤ 9223372036854775807 := by
  simp [Lit.wf, IntKind.min, IntKind.max, IntKind.signed, IntKind.bits] at h; omega

theorem wrap_toNat (v : BitVec 64) : IntKind.i64.wrap (v.toNat : Int) = v.toInt := by
  have h := v.isLt
  rw [IntKind.wrap_i64, BitVec.toInt_eq_toNat_cond]
  split <;> omega

theorem ofInt_neg (x : Int) (hx : -9223372036854775808 ≤ x ∧ x ≤ 9223372036854775807) : (BitVec.ofInt 64 x).msb = decide (x < 0) := by
  rw [BitVec.msb_eq_toInt, BitVec.toInt_ofInt]
  congr 1
  rw [Int.bmod_eq_of_le (by omega) (by omega)]

theorem bits_neg (op : BinOp) (x y : Int) (f : BitVec 64 → BitVec 64 → BitVec 64) (h : bits op .i64 x y = IntKind.i64.wrap ((f (BitVec.ofInt 64 x) (BitVec.ofInt 64 y)).toNat : Int)) :
    decide (bits op .i64 x y < 0) = (f (BitVec.ofInt 64 x) (BitVec.ofInt 64 y)).msb := by
  rw [h, wrap_toNat, BitVec.msb_eq_toInt]

theorem bits_in (op : BinOp) (x y : Int) (f : BitVec 64 → BitVec 64 → BitVec 64) (h : bits op .i64 x y = IntKind.i64.wrap ((f (BitVec.ofInt 64 x) (BitVec.ofInt 64 y)).toNat : Int)) :
    -9223372036854775808 ≤ bits op .i64 x y ∧ bits op .i64 x y ≤ 9223372036854775807 := by
  rw [h, wrap_toNat]
  have h1 := BitVec.le_toInt (f (BitVec.ofInt 64 x) (BitVec.ofInt 64 y))
  have h2 := BitVec.toInt_lt (x := f (BitVec.ofInt 64 x) (BitVec.ofInt 64 y))
  constructor <;> omega

theorem xor_in (x y : Int) : -9223372036854775808 ≤ bits .xor .i64 x y ∧ bits .xor .i64 x y ≤ 9223372036854775807 := bits_in .xor x y (· ^^^ ·) rfl

theorem xor_neg (x y : Int) (hx : -9223372036854775808 ≤ x ∧ x ≤ 9223372036854775807) (hy : -9223372036854775808 ≤ y ∧ y ≤ 9223372036854775807) :
    bits .xor .i64 x y < 0 ↔ (x < 0 ↔ ¬ y < 0) := by
  have h := bits_neg .xor x y (· ^^^ ·) rfl
  rw [BitVec.msb_xor, ofInt_neg x hx, ofInt_neg y hy] at h
  by_cases h1 : x < 0 <;> by_cases h2 : y < 0 <;> simp [h1, h2] at h ⊢ <;> omega

theorem and_neg (x y : Int) (hx : -9223372036854775808 ≤ x ∧ x ≤ 9223372036854775807) (hy : -9223372036854775808 ≤ y ∧ y ≤ 9223372036854775807) :
    bits .and .i64 x y < 0 ↔ (x < 0 ∧ y < 0) := by
  have h := bits_neg .and x y (· &&& ·) rfl
  rw [BitVec.msb_and, ofInt_neg x hx, ofInt_neg y hy] at h
  by_cases h1 : x < 0 <;> by_cases h2 : y < 0 <;> simp [h1, h2] at h ⊢ <;> omega

/-- Add's test: the sum that went round has another sign than both. -/
theorem add_test (a b : Int) (ha : -9223372036854775808 ≤ a ∧ a ≤ 9223372036854775807) (hb : -9223372036854775808 ≤ b ∧ b ≤ 9223372036854775807) :
    bits .and .i64 (bits .xor .i64 a (wrap64 (a + b))) (bits .xor .i64 b (wrap64 (a + b))) < 0 ↔ ¬ (-9223372036854775808 ≤ a + b ∧ a + b ≤ 9223372036854775807) := by
  have hn : -9223372036854775808 ≤ wrap64 (a + b) ∧ wrap64 (a + b) ≤ 9223372036854775807 := by unfold wrap64; omega
  rw [and_neg _ _ (xor_in _ _) (xor_in _ _), xor_neg _ _ ha hn, xor_neg _ _ hb hn]
  unfold wrap64
  omega

/-- Sub's test. -/
theorem sub_test (a b : Int) (ha : -9223372036854775808 ≤ a ∧ a ≤ 9223372036854775807) (hb : -9223372036854775808 ≤ b ∧ b ≤ 9223372036854775807) :
    bits .and .i64 (bits .xor .i64 a b) (bits .xor .i64 a (wrap64 (a - b))) < 0 ↔ ¬ (-9223372036854775808 ≤ a - b ∧ a - b ≤ 9223372036854775807) := by
  have hn : -9223372036854775808 ≤ wrap64 (a - b) ∧ wrap64 (a - b) ≤ 9223372036854775807 := by unfold wrap64; omega
  rw [and_neg _ _ (xor_in _ _) (xor_in _ _), xor_neg _ _ ha hb, xor_neg _ _ ha hn]
  unfold wrap64
  omega
end Go.Proofs.Ytbhiinodejhggaa
