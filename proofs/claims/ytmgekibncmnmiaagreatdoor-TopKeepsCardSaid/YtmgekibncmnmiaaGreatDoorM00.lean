/- Parts of the proof of the law TopKeeps: contracts of the functions that it reaches, and plain laws of what they compute. Conditions: those in each statement. -/
import Derived.Lib.Hide
set_option linter.unusedVariables false
set_option maxRecDepth 100000
set_option maxHeartbeats 4000000
namespace Go.Proofs.YtmgekibncmnmiaaGreatDoor
theorem zc {p : Prop} (h : p) : Go.RowKit.Hid p := h
theorem zd {α : Type} {xs : Array α} {i : Nat} {a : α} (h : xs[i]? = some a) : ∃ h : i < xs.size, xs[i] = a := Array.getElem?_eq_some_iff.1 h
theorem ze {α : Type} {xs : List α} {i : Nat} {a : α} (h : xs[i]? = some a) : ∃ h : i < xs.length, xs[i] = a := List.getElem?_eq_some_iff.1 h
theorem zf {n m k : Nat} (h : n < m) (h2 : m ≤ k) : n < k := Nat.lt_of_lt_of_le h h2
theorem zg (n : Nat) : n ≤ n := Nat.le_refl n
theorem zh {α : Sort _} (a : α) : ∃ b, b = a := ⟨a, rfl⟩
end Go.Proofs.YtmgekibncmnmiaaGreatDoor
