/- Parts for TopPlaces. Conditions: as stated. -/
import Derived.Lib.Hide
set_option linter.unusedVariables false
set_option maxRecDepth 100000
set_option maxHeartbeats 4000000
namespace Go.Proofs.YtmpdpmhpkgbepaaGreatDoor
theorem yw {p : Prop} (h : p) : Go.RowKit.Hid p := h
theorem yx {α : Type} {xs : Array α} {i : Nat} {a : α} (h : xs[i]? = some a) : ∃ h : i < xs.size, xs[i] = a := Array.getElem?_eq_some_iff.1 h
theorem yy {α : Type} {xs : List α} {i : Nat} {a : α} (h : xs[i]? = some a) : ∃ h : i < xs.length, xs[i] = a := List.getElem?_eq_some_iff.1 h
theorem yz {n m k : Nat} (h : n < m) (h2 : m ≤ k) : n < k := Nat.lt_of_lt_of_le h h2
theorem yA (n : Nat) : n ≤ n := Nat.le_refl n
theorem yB {α : Sort _} (a : α) : ∃ b, b = a := ⟨a, rfl⟩
theorem Qe {p0 p1 p2 : Prop} (h0 : p0) (h1 : p1) (h2 : p2) : Go.RowKit.Hid p0 ∧ Go.RowKit.Hid p1 ∧ Go.RowKit.Hid p2 := ⟨h0, h1, h2⟩
theorem Qf {p0 p1 p2 p3 : Prop} (h0 : p0) (h1 : p1) (h2 : p2) (h3 : p3) : Go.RowKit.Hid p0 ∧ Go.RowKit.Hid p1 ∧ Go.RowKit.Hid p2 ∧ Go.RowKit.Hid p3 := ⟨h0, h1, h2, h3⟩
theorem Qg {p0 p1 p2 p3 p4 : Prop} (h0 : p0) (h1 : p1) (h2 : p2) (h3 : p3) (h4 : p4) : Go.RowKit.Hid p0 ∧ Go.RowKit.Hid p1 ∧ Go.RowKit.Hid p2 ∧ Go.RowKit.Hid p3 ∧ Go.RowKit.Hid p4 := ⟨h0, h1, h2, h3, h4⟩
theorem Qh {p0 p1 p2 p3 p4 p5 : Prop} (h0 : p0) (h1 : p1) (h2 : p2) (h3 : p3) (h4 : p4) (h5 : p5) : Go.RowKit.Hid p0 ∧ Go.RowKit.Hid p1 ∧ Go.RowKit.Hid p2 ∧ Go.RowKit.Hid p3 ∧ Go.RowKit.Hid p4 ∧ Go.RowKit.Hid p5 := ⟨h0, h1, h2, h3, h4, h5⟩
theorem Qi {p0 p1 p2 p3 p4 p5 p6 : Prop} (h0 : p0) (h1 : p1) (h2 : p2) (h3 : p3) (h4 : p4) (h5 : p5) (h6 : p6) : Go.RowKit.Hid p0 ∧ Go.RowKit.Hid p1 ∧ Go.RowKit.Hid p2 ∧ Go.RowKit.Hid p3 ∧ Go.RowKit.Hid p4 ∧ Go.RowKit.Hid p5 ∧ Go.RowKit.Hid p6 := ⟨h0, h1, h2, h3, h4, h5, h6⟩
theorem Qj {p0 p1 p2 p3 p4 p5 p6 p7 : Prop} (h0 : p0) (h1 : p1) (h2 : p2) (h3 : p3) (h4 : p4) (h5 : p5) (h6 : p6) (h7 : p7) : Go.RowKit.Hid p0 ∧ Go.RowKit.Hid p1 ∧ Go.RowKit.Hid p2 ∧ Go.RowKit.Hid p3 ∧ Go.RowKit.Hid p4 ∧ Go.RowKit.Hid p5 ∧ Go.RowKit.Hid p6 ∧ Go.RowKit.Hid p7 := ⟨h0, h1, h2, h3, h4, h5, h6, h7⟩
end Go.Proofs.YtmpdpmhpkgbepaaGreatDoor
