/-
  No cell of these rows narrows 'for every input' (looked for: loops, veiled, ifaces, maps, wideKeys, modest, calm, conditions, laid).
  DERIVED. THE GIVEN ROWS OF THIS SEAT. 7 by the template 'for every input the law returns true; each argument reads behind the call as it read before'; 0 by the template 'total and deterministic' (their statements: YtbmpepimldjmhaaTotals.lean).
  GIVEN WITH THE SEED: the statements are not yours to turn. If you find one false, say at which input.
  Laid BY PROGRAM, IN A SANDBOX (cutbox-rows.mjs): the forced cells as the released guide's own fill.sh prints them over the translation 18ec0e9633ad02b1… (all of the seat's roots in one cut). By AI agents, Wed Nov 11 2026. No macro, syntax, notation, axiom, sorry.
-/
import Derived.Test.YtbmpepimldjmhaaChecked
import GoSem.Claim
import GoSem.ClaimJoined
import GoSem.ClaimMapViews
import Derived.JoinedTies
import Derived.KernelRfl
namespace Go.Proofs.Ytbmpepimldjmhaa
/- THE CELL 'sum', in the pinned program and in every row, IS THE sha256 OF THE DUMP (.gsa) THAT YtbmpepimldjmhaaProg.lean LOADS. Nothing in Lean hashes anything: it is a label: what it is worth is what the hold of that sum in a sandbox is worth. -/
noncomputable def Try.pinned : Pinned := { name := "ytbmpepimldjmhaa", sum := "18ec0e9633ad02b151dcc46bfbc6a02577c85d930244b460a014f1bae9389bab", checked := Try.checked }
namespace Rows
def none {H : Type} : Left H := { results := [], args := [] }

/-- 'dolelaw04.VrunCharges': WHATEVER THE INPUT: true; the input reads as it did. -/
def vrunChargesSpec : ChangeSpec := { name := "vrunCharges", fn := fun _ => fun
  | [d1, d2] => { results := [.lit (.bool true)], args := [d1, d2] }
  | _ => none }
def vrunChargesRow : OpenClaim := { program := "ytbmpepimldjmhaa", sum := "18ec0e9633ad02b151dcc46bfbc6a02577c85d930244b460a014f1bae9389bab", func := "dole/dolelaw04.VrunCharges", spec := "vrunCharges", apart := false }
def VrunChargesSaid : Prop := vrunChargesRow.holds Try.pinned (OpenSpec.ofChange vrunChargesSpec)

/-- ITS FALSE NEIGHBOUR: 'it returns false'. Refute it at one input. -/
def vrunChargesWrong : ChangeSpec := { name := "vrunCharges", fn := fun _ => fun
  | [d1, d2] => { results := [.lit (.bool false)], args := [d1, d2] }
  | _ => none }
def VrunChargesWrongFalsely : Prop := vrunChargesRow.holds Try.pinned (OpenSpec.ofChange vrunChargesWrong)

/-- 'dolelaw04.VrunSplits': WHATEVER THE INPUT: true; the input reads as it did. -/
def vrunSplitsSpec : ChangeSpec := { name := "vrunSplits", fn := fun _ => fun
  | [d1, d2, d3] => { results := [.lit (.bool true)], args := [d1, d2, d3] }
  | _ => none }
def vrunSplitsRow : OpenClaim := { program := "ytbmpepimldjmhaa", sum := "18ec0e9633ad02b151dcc46bfbc6a02577c85d930244b460a014f1bae9389bab", func := "dole/dolelaw04.VrunSplits", spec := "vrunSplits", apart := false }
def VrunSplitsSaid : Prop := vrunSplitsRow.holds Try.pinned (OpenSpec.ofChange vrunSplitsSpec)

/-- ITS FALSE NEIGHBOUR: 'it returns false'. Refute it at one input. -/
def vrunSplitsWrong : ChangeSpec := { name := "vrunSplits", fn := fun _ => fun
  | [d1, d2, d3] => { results := [.lit (.bool false)], args := [d1, d2, d3] }
  | _ => none }
def VrunSplitsWrongFalsely : Prop := vrunSplitsRow.holds Try.pinned (OpenSpec.ofChange vrunSplitsWrong)

/-- 'dolelaw04.VrunExact': WHATEVER THE INPUT: true; the input reads as it did. -/
def vrunExactSpec : ChangeSpec := { name := "vrunExact", fn := fun _ => fun
  | [d1, d2, d3] => { results := [.lit (.bool true)], args := [d1, d2, d3] }
  | _ => none }
def vrunExactRow : OpenClaim := { program := "ytbmpepimldjmhaa", sum := "18ec0e9633ad02b151dcc46bfbc6a02577c85d930244b460a014f1bae9389bab", func := "dole/dolelaw04.VrunExact", spec := "vrunExact", apart := false }
def VrunExactSaid : Prop := vrunExactRow.holds Try.pinned (OpenSpec.ofChange vrunExactSpec)

/-- ITS FALSE NEIGHBOUR: 'it returns false'. Refute it at one input. -/
def vrunExactWrong : ChangeSpec := { name := "vrunExact", fn := fun _ => fun
  | [d1, d2, d3] => { results := [.lit (.bool false)], args := [d1, d2, d3] }
  | _ => none }
def VrunExactWrongFalsely : Prop := vrunExactRow.holds Try.pinned (OpenSpec.ofChange vrunExactWrong)

/-- 'dolelaw04.VrunNeeds': WHATEVER THE INPUT: true; the input reads as it did. -/
def vrunNeedsSpec : ChangeSpec := { name := "vrunNeeds", fn := fun _ => fun
  | [d1, d2, d3] => { results := [.lit (.bool true)], args := [d1, d2, d3] }
  | _ => none }
def vrunNeedsRow : OpenClaim := { program := "ytbmpepimldjmhaa", sum := "18ec0e9633ad02b151dcc46bfbc6a02577c85d930244b460a014f1bae9389bab", func := "dole/dolelaw04.VrunNeeds", spec := "vrunNeeds", apart := false }
def VrunNeedsSaid : Prop := vrunNeedsRow.holds Try.pinned (OpenSpec.ofChange vrunNeedsSpec)

/-- ITS FALSE NEIGHBOUR: 'it returns false'. Refute it at one input. -/
def vrunNeedsWrong : ChangeSpec := { name := "vrunNeeds", fn := fun _ => fun
  | [d1, d2, d3] => { results := [.lit (.bool false)], args := [d1, d2, d3] }
  | _ => none }
def VrunNeedsWrongFalsely : Prop := vrunNeedsRow.holds Try.pinned (OpenSpec.ofChange vrunNeedsWrong)

/-- 'dolelaw04.VrunWeighs': WHATEVER THE INPUT: true; the input reads as it did. -/
def vrunWeighsSpec : ChangeSpec := { name := "vrunWeighs", fn := fun _ => fun
  | [d1, d2, d3] => { results := [.lit (.bool true)], args := [d1, d2, d3] }
  | _ => none }
def vrunWeighsRow : OpenClaim := { program := "ytbmpepimldjmhaa", sum := "18ec0e9633ad02b151dcc46bfbc6a02577c85d930244b460a014f1bae9389bab", func := "dole/dolelaw04.VrunWeighs", spec := "vrunWeighs", apart := false }
def VrunWeighsSaid : Prop := vrunWeighsRow.holds Try.pinned (OpenSpec.ofChange vrunWeighsSpec)

/-- ITS FALSE NEIGHBOUR: 'it returns false'. Refute it at one input. -/
def vrunWeighsWrong : ChangeSpec := { name := "vrunWeighs", fn := fun _ => fun
  | [d1, d2, d3] => { results := [.lit (.bool false)], args := [d1, d2, d3] }
  | _ => none }
def VrunWeighsWrongFalsely : Prop := vrunWeighsRow.holds Try.pinned (OpenSpec.ofChange vrunWeighsWrong)

/-- 'dolelaw04.VrunUnits': WHATEVER THE INPUT: true; the input reads as it did. -/
def vrunUnitsSpec : ChangeSpec := { name := "vrunUnits", fn := fun _ => fun
  | [d1, d2, d3] => { results := [.lit (.bool true)], args := [d1, d2, d3] }
  | _ => none }
def vrunUnitsRow : OpenClaim := { program := "ytbmpepimldjmhaa", sum := "18ec0e9633ad02b151dcc46bfbc6a02577c85d930244b460a014f1bae9389bab", func := "dole/dolelaw04.VrunUnits", spec := "vrunUnits", apart := false }
def VrunUnitsSaid : Prop := vrunUnitsRow.holds Try.pinned (OpenSpec.ofChange vrunUnitsSpec)

/-- ITS FALSE NEIGHBOUR: 'it returns false'. Refute it at one input. -/
def vrunUnitsWrong : ChangeSpec := { name := "vrunUnits", fn := fun _ => fun
  | [d1, d2, d3] => { results := [.lit (.bool false)], args := [d1, d2, d3] }
  | _ => none }
def VrunUnitsWrongFalsely : Prop := vrunUnitsRow.holds Try.pinned (OpenSpec.ofChange vrunUnitsWrong)

/-- 'dolelaw04.VrunOnes': WHATEVER THE INPUT: true; the input reads as it did. -/
def vrunOnesSpec : ChangeSpec := { name := "vrunOnes", fn := fun _ => fun
  | [d1, d2, d3] => { results := [.lit (.bool true)], args := [d1, d2, d3] }
  | _ => none }
def vrunOnesRow : OpenClaim := { program := "ytbmpepimldjmhaa", sum := "18ec0e9633ad02b151dcc46bfbc6a02577c85d930244b460a014f1bae9389bab", func := "dole/dolelaw04.VrunOnes", spec := "vrunOnes", apart := false }
def VrunOnesSaid : Prop := vrunOnesRow.holds Try.pinned (OpenSpec.ofChange vrunOnesSpec)

/-- ITS FALSE NEIGHBOUR: 'it returns false'. Refute it at one input. -/
def vrunOnesWrong : ChangeSpec := { name := "vrunOnes", fn := fun _ => fun
  | [d1, d2, d3] => { results := [.lit (.bool false)], args := [d1, d2, d3] }
  | _ => none }
def VrunOnesWrongFalsely : Prop := vrunOnesRow.holds Try.pinned (OpenSpec.ofChange vrunOnesWrong)

/- THE SECOND FORM. 'bulk': how many values and letters a reading holds, each counted each time it is reached (what is shared counts as often as it is met; a slice's spare places count too). A statement '..UptoSaid' is the law's where the arguments, and the package variables that the reading takes, are together of bulk at most 1048576: NARROWER than '..Said'. Prove '..Said' where nothing that the law and all that it calls make is longer than what came in: it says more and counts as full. Else prove '..UptoSaid'. A law counts once. -/
mutual
def uptoBulk {H : Type} : DataW H → Nat
  | .lit (.string bytes) => bytes.length + 1
  | .lit _ => 1
  | .nil => 1
  | .ptr d => uptoBulk d + 1
  | .slice elems spare => uptoBulkAll elems + uptoBulkAll spare + 1
  | .agg parts => uptoBulkAll parts + 1
  | .iface _ d => uptoBulk d + 1
  | .map entries => uptoBulkEntries entries + 1
  | .held _ => 1
def uptoBulkAll {H : Type} : List (DataW H) → Nat
  | [] => 0
  | d :: r => uptoBulk d + uptoBulkAll r
def uptoBulkEntries {H : Type} : List (Lit × DataW H) → Nat
  | [] => 0
  | x :: r => uptoBulkEntry x + uptoBulkEntries r
def uptoBulkEntry {H : Type} : Lit × DataW H → Nat
  | (.string bytes, d) => bytes.length + uptoBulk d + 1
  | (_, d) => uptoBulk d + 1
 end
def uptoSmall : (H : Type) → List (DataW H) → Bool := fun _ ds => decide (uptoBulkAll ds ≤ 1048576)
def OpenSpec.upto (s : _root_.Go.ChangeSpec) : _root_.Go.OpenSpec := { _root_.Go.OpenSpec.ofChange s with cond := some uptoSmall }

/-- 'dolelaw04.VrunCharges', WHERE WHAT IT READS IS OF BULK AT MOST 1048576: true; the input reads as it did. -/
def vrunChargesUptoRow : OpenClaim := { program := "ytbmpepimldjmhaa", sum := "18ec0e9633ad02b151dcc46bfbc6a02577c85d930244b460a014f1bae9389bab", func := "dole/dolelaw04.VrunCharges", spec := "vrunCharges", apart := false, narrowed := true }
def VrunChargesUptoSaid : Prop := vrunChargesUptoRow.holds Try.pinned (OpenSpec.upto vrunChargesSpec)

/-- 'dolelaw04.VrunSplits', WHERE WHAT IT READS IS OF BULK AT MOST 1048576: true; the input reads as it did. -/
def vrunSplitsUptoRow : OpenClaim := { program := "ytbmpepimldjmhaa", sum := "18ec0e9633ad02b151dcc46bfbc6a02577c85d930244b460a014f1bae9389bab", func := "dole/dolelaw04.VrunSplits", spec := "vrunSplits", apart := false, narrowed := true }
def VrunSplitsUptoSaid : Prop := vrunSplitsUptoRow.holds Try.pinned (OpenSpec.upto vrunSplitsSpec)

/-- 'dolelaw04.VrunExact', WHERE WHAT IT READS IS OF BULK AT MOST 1048576: true; the input reads as it did. -/
def vrunExactUptoRow : OpenClaim := { program := "ytbmpepimldjmhaa", sum := "18ec0e9633ad02b151dcc46bfbc6a02577c85d930244b460a014f1bae9389bab", func := "dole/dolelaw04.VrunExact", spec := "vrunExact", apart := false, narrowed := true }
def VrunExactUptoSaid : Prop := vrunExactUptoRow.holds Try.pinned (OpenSpec.upto vrunExactSpec)

/-- 'dolelaw04.VrunNeeds', WHERE WHAT IT READS IS OF BULK AT MOST 1048576: true; the input reads as it did. -/
def vrunNeedsUptoRow : OpenClaim := { program := "ytbmpepimldjmhaa", sum := "18ec0e9633ad02b151dcc46bfbc6a02577c85d930244b460a014f1bae9389bab", func := "dole/dolelaw04.VrunNeeds", spec := "vrunNeeds", apart := false, narrowed := true }
def VrunNeedsUptoSaid : Prop := vrunNeedsUptoRow.holds Try.pinned (OpenSpec.upto vrunNeedsSpec)

/-- 'dolelaw04.VrunWeighs', WHERE WHAT IT READS IS OF BULK AT MOST 1048576: true; the input reads as it did. -/
def vrunWeighsUptoRow : OpenClaim := { program := "ytbmpepimldjmhaa", sum := "18ec0e9633ad02b151dcc46bfbc6a02577c85d930244b460a014f1bae9389bab", func := "dole/dolelaw04.VrunWeighs", spec := "vrunWeighs", apart := false, narrowed := true }
def VrunWeighsUptoSaid : Prop := vrunWeighsUptoRow.holds Try.pinned (OpenSpec.upto vrunWeighsSpec)

/-- 'dolelaw04.VrunUnits', WHERE WHAT IT READS IS OF BULK AT MOST 1048576: true; the input reads as it did. -/
def vrunUnitsUptoRow : OpenClaim := { program := "ytbmpepimldjmhaa", sum := "18ec0e9633ad02b151dcc46bfbc6a02577c85d930244b460a014f1bae9389bab", func := "dole/dolelaw04.VrunUnits", spec := "vrunUnits", apart := false, narrowed := true }
def VrunUnitsUptoSaid : Prop := vrunUnitsUptoRow.holds Try.pinned (OpenSpec.upto vrunUnitsSpec)

/-- 'dolelaw04.VrunOnes', WHERE WHAT IT READS IS OF BULK AT MOST 1048576: true; the input reads as it did. -/
def vrunOnesUptoRow : OpenClaim := { program := "ytbmpepimldjmhaa", sum := "18ec0e9633ad02b151dcc46bfbc6a02577c85d930244b460a014f1bae9389bab", func := "dole/dolelaw04.VrunOnes", spec := "vrunOnes", apart := false, narrowed := true }
def VrunOnesUptoSaid : Prop := vrunOnesUptoRow.holds Try.pinned (OpenSpec.upto vrunOnesSpec)

end Rows
end Go.Proofs.Ytbmpepimldjmhaa
