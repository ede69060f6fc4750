/-
  No cell of these rows narrows 'for every input' (looked for: loops, veiled, ifaces, maps, wideKeys, modest, calm, conditions, laid).
  DERIVED. THE GIVEN ROWS OF THIS SEAT. 7 by the template 'for every input the law returns true; each argument reads behind the call as it read before'; 0 by the template 'total and deterministic' (their statements: YtchomlcnfnphgaaTotals.lean).
  GIVEN WITH THE SEED: the statements are not yours to turn. If you find one false, say at which input.
  Laid BY PROGRAM, IN A SANDBOX (cutbox-rows.mjs): the forced cells as the released guide's own fill.sh prints them over the translation 1fdd1d4d97fc1d0a… (all of the seat's roots in one cut). By AI agents, Wed Nov 11 2026. No macro, syntax, notation, axiom, sorry.
-/
import Derived.Test.YtchomlcnfnphgaaChecked
import GoSem.Claim
import GoSem.ClaimJoined
import GoSem.ClaimMapViews
import Derived.JoinedTies
import Derived.KernelRfl
namespace Go.Proofs.Ytchomlcnfnphgaa
/- THE CELL 'sum', in the pinned program and in every row, IS THE sha256 OF THE DUMP (.gsa) THAT YtchomlcnfnphgaaProg.lean LOADS. Nothing in Lean hashes anything: it is a label: what it is worth is what the hold of that sum in a sandbox is worth. -/
noncomputable def Try.pinned : Pinned := { name := "ytchomlcnfnphgaa", sum := "1fdd1d4d97fc1d0ae7d17310d6f830b8be0357426d0b4b05e083367130fe9630", checked := Try.checked }
namespace Rows
def none {H : Type} : Left H := { results := [], args := [] }

/-- 'dolelaw01.FixWithin': WHATEVER THE INPUT: true; the input reads as it did. -/
def fixWithinSpec : ChangeSpec := { name := "fixWithin", fn := fun _ => fun
  | [d1, d2, d3] => { results := [.lit (.bool true)], args := [d1, d2, d3] }
  | _ => none }
def fixWithinRow : OpenClaim := { program := "ytchomlcnfnphgaa", sum := "1fdd1d4d97fc1d0ae7d17310d6f830b8be0357426d0b4b05e083367130fe9630", func := "dole/dolelaw01.FixWithin", spec := "fixWithin", unfollowed := true, recurses := true, apart := false }
def FixWithinSaid : Prop := fixWithinRow.holds Try.pinned (OpenSpec.ofChange fixWithinSpec)

/-- ITS FALSE NEIGHBOUR: 'it returns false'. Refute it at one input. -/
def fixWithinWrong : ChangeSpec := { name := "fixWithin", fn := fun _ => fun
  | [d1, d2, d3] => { results := [.lit (.bool false)], args := [d1, d2, d3] }
  | _ => none }
def FixWithinWrongFalsely : Prop := fixWithinRow.holds Try.pinned (OpenSpec.ofChange fixWithinWrong)

/-- 'dolelaw01.FixBack': WHATEVER THE INPUT: true; the input reads as it did. -/
def fixBackSpec : ChangeSpec := { name := "fixBack", fn := fun _ => fun
  | [d1, d2] => { results := [.lit (.bool true)], args := [d1, d2] }
  | _ => none }
def fixBackRow : OpenClaim := { program := "ytchomlcnfnphgaa", sum := "1fdd1d4d97fc1d0ae7d17310d6f830b8be0357426d0b4b05e083367130fe9630", func := "dole/dolelaw01.FixBack", spec := "fixBack", unfollowed := true, recurses := true, apart := false }
def FixBackSaid : Prop := fixBackRow.holds Try.pinned (OpenSpec.ofChange fixBackSpec)

/-- ITS FALSE NEIGHBOUR: 'it returns false'. Refute it at one input. -/
def fixBackWrong : ChangeSpec := { name := "fixBack", fn := fun _ => fun
  | [d1, d2] => { results := [.lit (.bool false)], args := [d1, d2] }
  | _ => none }
def FixBackWrongFalsely : Prop := fixBackRow.holds Try.pinned (OpenSpec.ofChange fixBackWrong)

/-- 'dolelaw01.FixHolds': WHATEVER THE INPUT: true; the input reads as it did. -/
def fixHoldsSpec : ChangeSpec := { name := "fixHolds", fn := fun _ => fun
  | [d1, d2, d3] => { results := [.lit (.bool true)], args := [d1, d2, d3] }
  | _ => none }
def fixHoldsRow : OpenClaim := { program := "ytchomlcnfnphgaa", sum := "1fdd1d4d97fc1d0ae7d17310d6f830b8be0357426d0b4b05e083367130fe9630", func := "dole/dolelaw01.FixHolds", spec := "fixHolds", unfollowed := true, recurses := true, apart := false }
def FixHoldsSaid : Prop := fixHoldsRow.holds Try.pinned (OpenSpec.ofChange fixHoldsSpec)

/-- ITS FALSE NEIGHBOUR: 'it returns false'. Refute it at one input. -/
def fixHoldsWrong : ChangeSpec := { name := "fixHolds", fn := fun _ => fun
  | [d1, d2, d3] => { results := [.lit (.bool false)], args := [d1, d2, d3] }
  | _ => none }
def FixHoldsWrongFalsely : Prop := fixHoldsRow.holds Try.pinned (OpenSpec.ofChange fixHoldsWrong)

/-- 'dolelaw01.FixEnds': WHATEVER THE INPUT: true; the input reads as it did. -/
def fixEndsSpec : ChangeSpec := { name := "fixEnds", fn := fun _ => fun
  | [d1, d2, d3] => { results := [.lit (.bool true)], args := [d1, d2, d3] }
  | _ => none }
def fixEndsRow : OpenClaim := { program := "ytchomlcnfnphgaa", sum := "1fdd1d4d97fc1d0ae7d17310d6f830b8be0357426d0b4b05e083367130fe9630", func := "dole/dolelaw01.FixEnds", spec := "fixEnds", unfollowed := true, recurses := true, apart := false }
def FixEndsSaid : Prop := fixEndsRow.holds Try.pinned (OpenSpec.ofChange fixEndsSpec)

/-- ITS FALSE NEIGHBOUR: 'it returns false'. Refute it at one input. -/
def fixEndsWrong : ChangeSpec := { name := "fixEnds", fn := fun _ => fun
  | [d1, d2, d3] => { results := [.lit (.bool false)], args := [d1, d2, d3] }
  | _ => none }
def FixEndsWrongFalsely : Prop := fixEndsRow.holds Try.pinned (OpenSpec.ofChange fixEndsWrong)

/-- 'dolelaw01.FixTurned': WHATEVER THE INPUT: true; the input reads as it did. -/
def fixTurnedSpec : ChangeSpec := { name := "fixTurned", fn := fun _ => fun
  | [d1, d2] => { results := [.lit (.bool true)], args := [d1, d2] }
  | _ => none }
def fixTurnedRow : OpenClaim := { program := "ytchomlcnfnphgaa", sum := "1fdd1d4d97fc1d0ae7d17310d6f830b8be0357426d0b4b05e083367130fe9630", func := "dole/dolelaw01.FixTurned", spec := "fixTurned", unfollowed := true, recurses := true, apart := false }
def FixTurnedSaid : Prop := fixTurnedRow.holds Try.pinned (OpenSpec.ofChange fixTurnedSpec)

/-- ITS FALSE NEIGHBOUR: 'it returns false'. Refute it at one input. -/
def fixTurnedWrong : ChangeSpec := { name := "fixTurned", fn := fun _ => fun
  | [d1, d2] => { results := [.lit (.bool false)], args := [d1, d2] }
  | _ => none }
def FixTurnedWrongFalsely : Prop := fixTurnedRow.holds Try.pinned (OpenSpec.ofChange fixTurnedWrong)

/-- 'dolelaw01.FixSpreads': WHATEVER THE INPUT: true; the input reads as it did. -/
def fixSpreadsSpec : ChangeSpec := { name := "fixSpreads", fn := fun _ => fun
  | [d1, d2, d3] => { results := [.lit (.bool true)], args := [d1, d2, d3] }
  | _ => none }
def fixSpreadsRow : OpenClaim := { program := "ytchomlcnfnphgaa", sum := "1fdd1d4d97fc1d0ae7d17310d6f830b8be0357426d0b4b05e083367130fe9630", func := "dole/dolelaw01.FixSpreads", spec := "fixSpreads", unfollowed := true, recurses := true, apart := false }
def FixSpreadsSaid : Prop := fixSpreadsRow.holds Try.pinned (OpenSpec.ofChange fixSpreadsSpec)

/-- ITS FALSE NEIGHBOUR: 'it returns false'. Refute it at one input. -/
def fixSpreadsWrong : ChangeSpec := { name := "fixSpreads", fn := fun _ => fun
  | [d1, d2, d3] => { results := [.lit (.bool false)], args := [d1, d2, d3] }
  | _ => none }
def FixSpreadsWrongFalsely : Prop := fixSpreadsRow.holds Try.pinned (OpenSpec.ofChange fixSpreadsWrong)

/-- 'dolelaw01.FixSums': WHATEVER THE INPUT: true; the input reads as it did. -/
def fixSumsSpec : ChangeSpec := { name := "fixSums", fn := fun _ => fun
  | [d1, d2] => { results := [.lit (.bool true)], args := [d1, d2] }
  | _ => none }
def fixSumsRow : OpenClaim := { program := "ytchomlcnfnphgaa", sum := "1fdd1d4d97fc1d0ae7d17310d6f830b8be0357426d0b4b05e083367130fe9630", func := "dole/dolelaw01.FixSums", spec := "fixSums", unfollowed := true, recurses := true, apart := false }
def FixSumsSaid : Prop := fixSumsRow.holds Try.pinned (OpenSpec.ofChange fixSumsSpec)

/-- ITS FALSE NEIGHBOUR: 'it returns false'. Refute it at one input. -/
def fixSumsWrong : ChangeSpec := { name := "fixSums", fn := fun _ => fun
  | [d1, d2] => { results := [.lit (.bool false)], args := [d1, d2] }
  | _ => none }
def FixSumsWrongFalsely : Prop := fixSumsRow.holds Try.pinned (OpenSpec.ofChange fixSumsWrong)

/- THE SECOND FORM. 'bulk': how many values and letters a reading holds, each counted each time it is reached (what is shared counts as often as it is met; a slice's spare places count too). A statement '..UptoSaid' is the law's where the arguments, and the package variables that the reading takes, are together of bulk at most 1048576: NARROWER than '..Said'. Prove '..Said' where nothing that the law and all that it calls make is longer than what came in: it says more and counts as full. Else prove '..UptoSaid'. A law counts once. -/
mutual
def uptoBulk {H : Type} : DataW H → Nat
  | .lit (.string bytes) => bytes.length + 1
  | .lit _ => 1
  | .nil => 1
  | .ptr d => uptoBulk d + 1
  | .slice elems spare => uptoBulkAll elems + uptoBulkAll spare + 1
  | .agg parts => uptoBulkAll parts + 1
  | .iface _ d => uptoBulk d + 1
  | .map entries => uptoBulkEntries entries + 1
  | .held _ => 1
def uptoBulkAll {H : Type} : List (DataW H) → Nat
  | [] => 0
  | d :: r => uptoBulk d + uptoBulkAll r
def uptoBulkEntries {H : Type} : List (Lit × DataW H) → Nat
  | [] => 0
  | x :: r => uptoBulkEntry x + uptoBulkEntries r
def uptoBulkEntry {H : Type} : Lit × DataW H → Nat
  | (.string bytes, d) => bytes.length + uptoBulk d + 1
  | (_, d) => uptoBulk d + 1
 end
def uptoSmall : (H : Type) → List (DataW H) → Bool := fun _ ds => decide (uptoBulkAll ds ≤ 1048576)
def OpenSpec.upto (s : _root_.Go.ChangeSpec) : _root_.Go.OpenSpec := { _root_.Go.OpenSpec.ofChange s with cond := some uptoSmall }

/-- 'dolelaw01.FixWithin', WHERE WHAT IT READS IS OF BULK AT MOST 1048576: true; the input reads as it did. -/
def fixWithinUptoRow : OpenClaim := { program := "ytchomlcnfnphgaa", sum := "1fdd1d4d97fc1d0ae7d17310d6f830b8be0357426d0b4b05e083367130fe9630", func := "dole/dolelaw01.FixWithin", spec := "fixWithin", unfollowed := true, recurses := true, apart := false, narrowed := true }
def FixWithinUptoSaid : Prop := fixWithinUptoRow.holds Try.pinned (OpenSpec.upto fixWithinSpec)

/-- 'dolelaw01.FixBack', WHERE WHAT IT READS IS OF BULK AT MOST 1048576: true; the input reads as it did. -/
def fixBackUptoRow : OpenClaim := { program := "ytchomlcnfnphgaa", sum := "1fdd1d4d97fc1d0ae7d17310d6f830b8be0357426d0b4b05e083367130fe9630", func := "dole/dolelaw01.FixBack", spec := "fixBack", unfollowed := true, recurses := true, apart := false, narrowed := true }
def FixBackUptoSaid : Prop := fixBackUptoRow.holds Try.pinned (OpenSpec.upto fixBackSpec)

/-- 'dolelaw01.FixHolds', WHERE WHAT IT READS IS OF BULK AT MOST 1048576: true; the input reads as it did. -/
def fixHoldsUptoRow : OpenClaim := { program := "ytchomlcnfnphgaa", sum := "1fdd1d4d97fc1d0ae7d17310d6f830b8be0357426d0b4b05e083367130fe9630", func := "dole/dolelaw01.FixHolds", spec := "fixHolds", unfollowed := true, recurses := true, apart := false, narrowed := true }
def FixHoldsUptoSaid : Prop := fixHoldsUptoRow.holds Try.pinned (OpenSpec.upto fixHoldsSpec)

/-- 'dolelaw01.FixEnds', WHERE WHAT IT READS IS OF BULK AT MOST 1048576: true; the input reads as it did. -/
def fixEndsUptoRow : OpenClaim := { program := "ytchomlcnfnphgaa", sum := "1fdd1d4d97fc1d0ae7d17310d6f830b8be0357426d0b4b05e083367130fe9630", func := "dole/dolelaw01.FixEnds", spec := "fixEnds", unfollowed := true, recurses := true, apart := false, narrowed := true }
def FixEndsUptoSaid : Prop := fixEndsUptoRow.holds Try.pinned (OpenSpec.upto fixEndsSpec)

/-- 'dolelaw01.FixTurned', WHERE WHAT IT READS IS OF BULK AT MOST 1048576: true; the input reads as it did. -/
def fixTurnedUptoRow : OpenClaim := { program := "ytchomlcnfnphgaa", sum := "1fdd1d4d97fc1d0ae7d17310d6f830b8be0357426d0b4b05e083367130fe9630", func := "dole/dolelaw01.FixTurned", spec := "fixTurned", unfollowed := true, recurses := true, apart := false, narrowed := true }
def FixTurnedUptoSaid : Prop := fixTurnedUptoRow.holds Try.pinned (OpenSpec.upto fixTurnedSpec)

/-- 'dolelaw01.FixSpreads', WHERE WHAT IT READS IS OF BULK AT MOST 1048576: true; the input reads as it did. -/
def fixSpreadsUptoRow : OpenClaim := { program := "ytchomlcnfnphgaa", sum := "1fdd1d4d97fc1d0ae7d17310d6f830b8be0357426d0b4b05e083367130fe9630", func := "dole/dolelaw01.FixSpreads", spec := "fixSpreads", unfollowed := true, recurses := true, apart := false, narrowed := true }
def FixSpreadsUptoSaid : Prop := fixSpreadsUptoRow.holds Try.pinned (OpenSpec.upto fixSpreadsSpec)

/-- 'dolelaw01.FixSums', WHERE WHAT IT READS IS OF BULK AT MOST 1048576: true; the input reads as it did. -/
def fixSumsUptoRow : OpenClaim := { program := "ytchomlcnfnphgaa", sum := "1fdd1d4d97fc1d0ae7d17310d6f830b8be0357426d0b4b05e083367130fe9630", func := "dole/dolelaw01.FixSums", spec := "fixSums", unfollowed := true, recurses := true, apart := false, narrowed := true }
def FixSumsUptoSaid : Prop := fixSumsUptoRow.holds Try.pinned (OpenSpec.upto fixSumsSpec)

end Rows
end Go.Proofs.Ytchomlcnfnphgaa
