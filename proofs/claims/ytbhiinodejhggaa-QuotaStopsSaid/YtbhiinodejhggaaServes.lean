/- What the laws' slices of Serve hold. No conditions beyond those in each statement. -/
import Derived.Test.YtbhiinodejhggaaQuotaL
import Derived.Test.YtbhiinodejhggaaFlat
import Derived.Test.YtbhiinodejhggaaWQuotaReturns
namespace Go.Proofs.Ytbhiinodejhggaa
open Go Go.RowKit Go.ChangeShapes Go.WideShapes
set_option linter.unusedVariables false

structure Srv where
  kd : Int
  P : Nat
  ns : Nat
/-- what a slice of Serve holds -/
def ServesAt (w : World) (a : Option Addr) (len : Nat) (f : Nat → Srv) : Prop := ∀ j, j < len → ∃ b off, a = some ⟨b, off, none⟩ ∧ b < w.heap.size ∧ (f j).P ≤ 255 ∧ (f j).ns ≤ 4294967295 ∧
  w.cell? ⟨b, off + j * 3, none⟩ = some (.int .i64 (f j).kd) ∧ w.cell? ⟨b, off + j * 3 + 1, none⟩ = some (.int .u8 (f j).P) ∧ w.cell? ⟨b, off + j * 3 + 2, none⟩ = some (.int .u32 (f j).ns)
theorem servesAt_of {w : World} {a : Option Addr} {len : Nat} (h : FlatSlice [some .i64, some .u8, some .u32] w a len) : ∃ f, ServesAt w a len f := by
  have g : ∀ j, ∃ x : Srv, j < len → ∃ b off, a = some ⟨b, off, none⟩ ∧ b < w.heap.size ∧ x.P ≤ 255 ∧ x.ns ≤ 4294967295 ∧
      w.cell? ⟨b, off + j * 3, none⟩ = some (.int .i64 x.kd) ∧ w.cell? ⟨b, off + j * 3 + 1, none⟩ = some (.int .u8 x.P) ∧ w.cell? ⟨b, off + j * 3 + 2, none⟩ = some (.int .u32 x.ns) := by
    intro j
    by_cases hj : j < len
    · obtain ⟨b, off, cs, ha, hb, hf, hc⟩ := h.2 j hj
      obtain ⟨v0, v1, v2, rfl, w0, w1, w2⟩ := flat_int3 hf
      obtain ⟨P, rfl, hP⟩ := u8_nat w1
      obtain ⟨ns, rfl, hns⟩ := u32_nat w2
      have c0 := hc 0 (by simp)
      have c1 := hc 1 (by simp)
      have c2 := hc 2 (by simp)
      exact ⟨⟨v0, P, ns⟩, fun _ => ⟨b, off, ha, hb, hP, hns, by simpa using c0, by simpa [Nat.add_assoc] using c1, by simpa [Nat.add_assoc] using c2⟩⟩
    · exact ⟨⟨0, 0, 0⟩, fun h => absurd h hj⟩
  exact ⟨fun j => (g j).choose, fun j hj => (g j).choose_spec hj⟩
theorem Good.step {w w' : World} {p n : Nat} {q s d began : Int} {b : Bd} (g : Good w p n q s d began b) (hb : Below w.heap.size w w') : Good w' p n q s d began b := ⟨g.has.behind hb, g.inv⟩
theorem Good.below {base : Nat} {w0 w w' : World} {p : Nat} (h : Below base w0 w) (t : Tch (· = p) w w') (hp : base ≤ p) (h0 : base ≤ w0.heap.size) : Below base w0 w' := h.trans (t.below (Nat.le_trans h0 h.size) (fun k hk => by omega))
theorem good_start (w : World) (p n : Nat) (q s d : Int) (h : HasBand w p ⟨q, s, q, 0, List.replicate n 0⟩) (t : Terms n q s d 0) : Good w p n q s d 0 ⟨q, s, q, 0, List.replicate n 0⟩ := ⟨h, BInv.start n q s d t⟩
end Go.Proofs.Ytbhiinodejhggaa
