/-
  No cell of these rows narrows 'for every input' (looked for: loops, veiled, ifaces, maps, wideKeys, modest, calm, conditions, laid).
  DERIVED. THE GIVEN ROWS OF THIS SEAT. 6 by the template 'for every input the law returns true; each argument reads behind the call as it read before'; 0 by the template 'total and deterministic' (their statements: YtjokpdgcjhgeeaaTotals.lean).
  GIVEN WITH THE SEED: the statements are not yours to turn. If you find one false, say at which input.
  Laid BY PROGRAM, IN A SANDBOX (cutbox-rows.mjs): the forced cells as the released guide's own fill.sh prints them over the translation 6871119205e09b73… (all of the seat's roots in one cut). By AI agents, Wed Nov 11 2026. No macro, syntax, notation, axiom, sorry.
-/
import Derived.Test.YtjokpdgcjhgeeaaChecked
import GoSem.Claim
import GoSem.ClaimJoined
import GoSem.ClaimMapViews
import Derived.JoinedTies
import Derived.KernelRfl
namespace Go.Proofs.Ytjokpdgcjhgeeaa
/- THE CELL 'sum', in the pinned program and in every row, IS THE sha256 OF THE DUMP (.gsa) THAT YtjokpdgcjhgeeaaProg.lean LOADS. Nothing in Lean hashes anything: it is a label: what it is worth is what the hold of that sum in a sandbox is worth. -/
noncomputable def Try.pinned : Pinned := { name := "ytjokpdgcjhgeeaa", sum := "6871119205e09b738279d73f9559f3b5c2870fed3eae530118ff6c520f5aa6fb", checked := Try.checked }
namespace Rows
def none {H : Type} : Left H := { results := [], args := [] }

/-- 'dolelaw07.RenormPlaces': WHATEVER THE INPUT: true; the input reads as it did. -/
def renormPlacesSpec : ChangeSpec := { name := "renormPlaces", fn := fun _ => fun
  | [d1, d2, d3] => { results := [.lit (.bool true)], args := [d1, d2, d3] }
  | _ => none }
def renormPlacesRow : OpenClaim := { program := "ytjokpdgcjhgeeaa", sum := "6871119205e09b738279d73f9559f3b5c2870fed3eae530118ff6c520f5aa6fb", func := "dole/dolelaw07.RenormPlaces", spec := "renormPlaces", unfollowed := true, recurses := true, apart := false }
def RenormPlacesSaid : Prop := renormPlacesRow.holds Try.pinned (OpenSpec.ofChange renormPlacesSpec)

/-- ITS FALSE NEIGHBOUR: 'it returns false'. Refute it at one input. -/
def renormPlacesWrong : ChangeSpec := { name := "renormPlaces", fn := fun _ => fun
  | [d1, d2, d3] => { results := [.lit (.bool false)], args := [d1, d2, d3] }
  | _ => none }
def RenormPlacesWrongFalsely : Prop := renormPlacesRow.holds Try.pinned (OpenSpec.ofChange renormPlacesWrong)

/-- 'dolelaw07.RenormHigher': WHATEVER THE INPUT: true; the input reads as it did. -/
def renormHigherSpec : ChangeSpec := { name := "renormHigher", fn := fun _ => fun
  | [d1, d2] => { results := [.lit (.bool true)], args := [d1, d2] }
  | _ => none }
def renormHigherRow : OpenClaim := { program := "ytjokpdgcjhgeeaa", sum := "6871119205e09b738279d73f9559f3b5c2870fed3eae530118ff6c520f5aa6fb", func := "dole/dolelaw07.RenormHigher", spec := "renormHigher", unfollowed := true, recurses := true, apart := false }
def RenormHigherSaid : Prop := renormHigherRow.holds Try.pinned (OpenSpec.ofChange renormHigherSpec)

/-- ITS FALSE NEIGHBOUR: 'it returns false'. Refute it at one input. -/
def renormHigherWrong : ChangeSpec := { name := "renormHigher", fn := fun _ => fun
  | [d1, d2] => { results := [.lit (.bool false)], args := [d1, d2] }
  | _ => none }
def RenormHigherWrongFalsely : Prop := renormHigherRow.holds Try.pinned (OpenSpec.ofChange renormHigherWrong)

/-- 'dolelaw07.RenormKeeps': WHATEVER THE INPUT: true; the input reads as it did. -/
def renormKeepsSpec : ChangeSpec := { name := "renormKeeps", fn := fun _ => fun
  | [d1, d2, d3] => { results := [.lit (.bool true)], args := [d1, d2, d3] }
  | _ => none }
def renormKeepsRow : OpenClaim := { program := "ytjokpdgcjhgeeaa", sum := "6871119205e09b738279d73f9559f3b5c2870fed3eae530118ff6c520f5aa6fb", func := "dole/dolelaw07.RenormKeeps", spec := "renormKeeps", unfollowed := true, recurses := true, apart := false }
def RenormKeepsSaid : Prop := renormKeepsRow.holds Try.pinned (OpenSpec.ofChange renormKeepsSpec)

/-- ITS FALSE NEIGHBOUR: 'it returns false'. Refute it at one input. -/
def renormKeepsWrong : ChangeSpec := { name := "renormKeeps", fn := fun _ => fun
  | [d1, d2, d3] => { results := [.lit (.bool false)], args := [d1, d2, d3] }
  | _ => none }
def RenormKeepsWrongFalsely : Prop := renormKeepsRow.holds Try.pinned (OpenSpec.ofChange renormKeepsWrong)

/-- 'dolelaw07.RenormNear': WHATEVER THE INPUT: true; the input reads as it did. -/
def renormNearSpec : ChangeSpec := { name := "renormNear", fn := fun _ => fun
  | [d] => { results := [.lit (.bool true)], args := [d] }
  | _ => none }
def renormNearRow : OpenClaim := { program := "ytjokpdgcjhgeeaa", sum := "6871119205e09b738279d73f9559f3b5c2870fed3eae530118ff6c520f5aa6fb", func := "dole/dolelaw07.RenormNear", spec := "renormNear", unfollowed := true, recurses := true, apart := false }
def RenormNearSaid : Prop := renormNearRow.holds Try.pinned (OpenSpec.ofChange renormNearSpec)

/-- ITS FALSE NEIGHBOUR: 'it returns false'. Refute it at one input. -/
def renormNearWrong : ChangeSpec := { name := "renormNear", fn := fun _ => fun
  | [d] => { results := [.lit (.bool false)], args := [d] }
  | _ => none }
def RenormNearWrongFalsely : Prop := renormNearRow.holds Try.pinned (OpenSpec.ofChange renormNearWrong)

/-- 'dolelaw07.RenormSleeps': WHATEVER THE INPUT: true; the input reads as it did. -/
def renormSleepsSpec : ChangeSpec := { name := "renormSleeps", fn := fun _ => fun
  | [d1, d2, d3] => { results := [.lit (.bool true)], args := [d1, d2, d3] }
  | _ => none }
def renormSleepsRow : OpenClaim := { program := "ytjokpdgcjhgeeaa", sum := "6871119205e09b738279d73f9559f3b5c2870fed3eae530118ff6c520f5aa6fb", func := "dole/dolelaw07.RenormSleeps", spec := "renormSleeps", unfollowed := true, recurses := true, apart := false }
def RenormSleepsSaid : Prop := renormSleepsRow.holds Try.pinned (OpenSpec.ofChange renormSleepsSpec)

/-- ITS FALSE NEIGHBOUR: 'it returns false'. Refute it at one input. -/
def renormSleepsWrong : ChangeSpec := { name := "renormSleeps", fn := fun _ => fun
  | [d1, d2, d3] => { results := [.lit (.bool false)], args := [d1, d2, d3] }
  | _ => none }
def RenormSleepsWrongFalsely : Prop := renormSleepsRow.holds Try.pinned (OpenSpec.ofChange renormSleepsWrong)

/-- 'dolelaw07.RenormRises': WHATEVER THE INPUT: true; the input reads as it did. -/
def renormRisesSpec : ChangeSpec := { name := "renormRises", fn := fun _ => fun
  | [d1, d2, d3] => { results := [.lit (.bool true)], args := [d1, d2, d3] }
  | _ => none }
def renormRisesRow : OpenClaim := { program := "ytjokpdgcjhgeeaa", sum := "6871119205e09b738279d73f9559f3b5c2870fed3eae530118ff6c520f5aa6fb", func := "dole/dolelaw07.RenormRises", spec := "renormRises", unfollowed := true, recurses := true, apart := false }
def RenormRisesSaid : Prop := renormRisesRow.holds Try.pinned (OpenSpec.ofChange renormRisesSpec)

/-- ITS FALSE NEIGHBOUR: 'it returns false'. Refute it at one input. -/
def renormRisesWrong : ChangeSpec := { name := "renormRises", fn := fun _ => fun
  | [d1, d2, d3] => { results := [.lit (.bool false)], args := [d1, d2, d3] }
  | _ => none }
def RenormRisesWrongFalsely : Prop := renormRisesRow.holds Try.pinned (OpenSpec.ofChange renormRisesWrong)

/- THE SECOND FORM. 'bulk': how many values and letters a reading holds, each counted each time it is reached (what is shared counts as often as it is met; a slice's spare places count too). A statement '..UptoSaid' is the law's where the arguments, and the package variables that the reading takes, are together of bulk at most 1048576: NARROWER than '..Said'. Prove '..Said' where nothing that the law and all that it calls make is longer than what came in: it says more and counts as full. Else prove '..UptoSaid'. A law counts once. -/
mutual
def uptoBulk {H : Type} : DataW H → Nat
  | .lit (.string bytes) => bytes.length + 1
  | .lit _ => 1
  | .nil => 1
  | .ptr d => uptoBulk d + 1
  | .slice elems spare => uptoBulkAll elems + uptoBulkAll spare + 1
  | .agg parts => uptoBulkAll parts + 1
  | .iface _ d => uptoBulk d + 1
  | .map entries => uptoBulkEntries entries + 1
  | .held _ => 1
def uptoBulkAll {H : Type} : List (DataW H) → Nat
  | [] => 0
  | d :: r => uptoBulk d + uptoBulkAll r
def uptoBulkEntries {H : Type} : List (Lit × DataW H) → Nat
  | [] => 0
  | x :: r => uptoBulkEntry x + uptoBulkEntries r
def uptoBulkEntry {H : Type} : Lit × DataW H → Nat
  | (.string bytes, d) => bytes.length + uptoBulk d + 1
  | (_, d) => uptoBulk d + 1
 end
def uptoSmall : (H : Type) → List (DataW H) → Bool := fun _ ds => decide (uptoBulkAll ds ≤ 1048576)
def OpenSpec.upto (s : _root_.Go.ChangeSpec) : _root_.Go.OpenSpec := { _root_.Go.OpenSpec.ofChange s with cond := some uptoSmall }

/-- 'dolelaw07.RenormPlaces', WHERE WHAT IT READS IS OF BULK AT MOST 1048576: true; the input reads as it did. -/
def renormPlacesUptoRow : OpenClaim := { program := "ytjokpdgcjhgeeaa", sum := "6871119205e09b738279d73f9559f3b5c2870fed3eae530118ff6c520f5aa6fb", func := "dole/dolelaw07.RenormPlaces", spec := "renormPlaces", unfollowed := true, recurses := true, apart := false, narrowed := true }
def RenormPlacesUptoSaid : Prop := renormPlacesUptoRow.holds Try.pinned (OpenSpec.upto renormPlacesSpec)

/-- 'dolelaw07.RenormHigher', WHERE WHAT IT READS IS OF BULK AT MOST 1048576: true; the input reads as it did. -/
def renormHigherUptoRow : OpenClaim := { program := "ytjokpdgcjhgeeaa", sum := "6871119205e09b738279d73f9559f3b5c2870fed3eae530118ff6c520f5aa6fb", func := "dole/dolelaw07.RenormHigher", spec := "renormHigher", unfollowed := true, recurses := true, apart := false, narrowed := true }
def RenormHigherUptoSaid : Prop := renormHigherUptoRow.holds Try.pinned (OpenSpec.upto renormHigherSpec)

/-- 'dolelaw07.RenormKeeps', WHERE WHAT IT READS IS OF BULK AT MOST 1048576: true; the input reads as it did. -/
def renormKeepsUptoRow : OpenClaim := { program := "ytjokpdgcjhgeeaa", sum := "6871119205e09b738279d73f9559f3b5c2870fed3eae530118ff6c520f5aa6fb", func := "dole/dolelaw07.RenormKeeps", spec := "renormKeeps", unfollowed := true, recurses := true, apart := false, narrowed := true }
def RenormKeepsUptoSaid : Prop := renormKeepsUptoRow.holds Try.pinned (OpenSpec.upto renormKeepsSpec)

/-- 'dolelaw07.RenormNear', WHERE WHAT IT READS IS OF BULK AT MOST 1048576: true; the input reads as it did. -/
def renormNearUptoRow : OpenClaim := { program := "ytjokpdgcjhgeeaa", sum := "6871119205e09b738279d73f9559f3b5c2870fed3eae530118ff6c520f5aa6fb", func := "dole/dolelaw07.RenormNear", spec := "renormNear", unfollowed := true, recurses := true, apart := false, narrowed := true }
def RenormNearUptoSaid : Prop := renormNearUptoRow.holds Try.pinned (OpenSpec.upto renormNearSpec)

/-- 'dolelaw07.RenormSleeps', WHERE WHAT IT READS IS OF BULK AT MOST 1048576: true; the input reads as it did. -/
def renormSleepsUptoRow : OpenClaim := { program := "ytjokpdgcjhgeeaa", sum := "6871119205e09b738279d73f9559f3b5c2870fed3eae530118ff6c520f5aa6fb", func := "dole/dolelaw07.RenormSleeps", spec := "renormSleeps", unfollowed := true, recurses := true, apart := false, narrowed := true }
def RenormSleepsUptoSaid : Prop := renormSleepsUptoRow.holds Try.pinned (OpenSpec.upto renormSleepsSpec)

/-- 'dolelaw07.RenormRises', WHERE WHAT IT READS IS OF BULK AT MOST 1048576: true; the input reads as it did. -/
def renormRisesUptoRow : OpenClaim := { program := "ytjokpdgcjhgeeaa", sum := "6871119205e09b738279d73f9559f3b5c2870fed3eae530118ff6c520f5aa6fb", func := "dole/dolelaw07.RenormRises", spec := "renormRises", unfollowed := true, recurses := true, apart := false, narrowed := true }
def RenormRisesUptoSaid : Prop := renormRisesUptoRow.holds Try.pinned (OpenSpec.upto renormRisesSpec)

end Rows
end Go.Proofs.Ytjokpdgcjhgeeaa
