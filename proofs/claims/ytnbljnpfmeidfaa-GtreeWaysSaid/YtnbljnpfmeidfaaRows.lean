/-
  No cell of these rows narrows 'for every input' (looked for: loops, veiled, ifaces, maps, wideKeys, modest, calm, conditions, laid).
  DERIVED. THE GIVEN ROWS OF THIS SEAT. 6 by the template 'for every input the law returns true; each argument reads behind the call as it read before'; 0 by the template 'total and deterministic' (their statements: YtnbljnpfmeidfaaTotals.lean).
  GIVEN WITH THE SEED: the statements are not yours to turn. If you find one false, say at which input.
  Laid BY PROGRAM, IN A SANDBOX (cutbox-rows.mjs): the forced cells as the released guide's own fill.sh prints them over the translation ed63cb695a29c580… (all of the seat's roots in one cut). By AI agents, Wed Nov 11 2026. No macro, syntax, notation, axiom, sorry.
-/
import Derived.Test.YtnbljnpfmeidfaaChecked
import GoSem.Claim
import GoSem.ClaimJoined
import GoSem.ClaimMapViews
import Derived.JoinedTies
import Derived.KernelRfl
namespace Go.Proofs.Ytnbljnpfmeidfaa
/- THE CELL 'sum', in the pinned program and in every row, IS THE sha256 OF THE DUMP (.gsa) THAT YtnbljnpfmeidfaaProg.lean LOADS. Nothing in Lean hashes anything: it is a label: what it is worth is what the hold of that sum in a sandbox is worth. -/
noncomputable def Try.pinned : Pinned := { name := "ytnbljnpfmeidfaa", sum := "ed63cb695a29c58042de963c74761d2ebe4eeb864aee75fa69a660bad8a414f2", checked := Try.checked }
namespace Rows
def none {H : Type} : Left H := { results := [], args := [] }

/-- 'dolelaw10.GtreeUnder': WHATEVER THE INPUT: true; the input reads as it did. -/
def gtreeUnderSpec : ChangeSpec := { name := "gtreeUnder", fn := fun _ => fun
  | [d1, d2] => { results := [.lit (.bool true)], args := [d1, d2] }
  | _ => none }
def gtreeUnderRow : OpenClaim := { program := "ytnbljnpfmeidfaa", sum := "ed63cb695a29c58042de963c74761d2ebe4eeb864aee75fa69a660bad8a414f2", func := "dole/dolelaw10.GtreeUnder", spec := "gtreeUnder", unfollowed := true, recurses := true, apart := false }
def GtreeUnderSaid : Prop := gtreeUnderRow.holds Try.pinned (OpenSpec.ofChange gtreeUnderSpec)

/-- ITS FALSE NEIGHBOUR: 'it returns false'. Refute it at one input. -/
def gtreeUnderWrong : ChangeSpec := { name := "gtreeUnder", fn := fun _ => fun
  | [d1, d2] => { results := [.lit (.bool false)], args := [d1, d2] }
  | _ => none }
def GtreeUnderWrongFalsely : Prop := gtreeUnderRow.holds Try.pinned (OpenSpec.ofChange gtreeUnderWrong)

/-- 'dolelaw10.GtreeMoves': WHATEVER THE INPUT: true; the input reads as it did. -/
def gtreeMovesSpec : ChangeSpec := { name := "gtreeMoves", fn := fun _ => fun
  | [d1, d2, d3] => { results := [.lit (.bool true)], args := [d1, d2, d3] }
  | _ => none }
def gtreeMovesRow : OpenClaim := { program := "ytnbljnpfmeidfaa", sum := "ed63cb695a29c58042de963c74761d2ebe4eeb864aee75fa69a660bad8a414f2", func := "dole/dolelaw10.GtreeMoves", spec := "gtreeMoves", unfollowed := true, recurses := true, apart := false }
def GtreeMovesSaid : Prop := gtreeMovesRow.holds Try.pinned (OpenSpec.ofChange gtreeMovesSpec)

/-- ITS FALSE NEIGHBOUR: 'it returns false'. Refute it at one input. -/
def gtreeMovesWrong : ChangeSpec := { name := "gtreeMoves", fn := fun _ => fun
  | [d1, d2, d3] => { results := [.lit (.bool false)], args := [d1, d2, d3] }
  | _ => none }
def GtreeMovesWrongFalsely : Prop := gtreeMovesRow.holds Try.pinned (OpenSpec.ofChange gtreeMovesWrong)

/-- 'dolelaw10.GtreeWays': WHATEVER THE INPUT: true; the input reads as it did. -/
def gtreeWaysSpec : ChangeSpec := { name := "gtreeWays", fn := fun _ => fun
  | [d] => { results := [.lit (.bool true)], args := [d] }
  | _ => none }
def gtreeWaysRow : OpenClaim := { program := "ytnbljnpfmeidfaa", sum := "ed63cb695a29c58042de963c74761d2ebe4eeb864aee75fa69a660bad8a414f2", func := "dole/dolelaw10.GtreeWays", spec := "gtreeWays", unfollowed := true, recurses := true, apart := false }
def GtreeWaysSaid : Prop := gtreeWaysRow.holds Try.pinned (OpenSpec.ofChange gtreeWaysSpec)

/-- ITS FALSE NEIGHBOUR: 'it returns false'. Refute it at one input. -/
def gtreeWaysWrong : ChangeSpec := { name := "gtreeWays", fn := fun _ => fun
  | [d] => { results := [.lit (.bool false)], args := [d] }
  | _ => none }
def GtreeWaysWrongFalsely : Prop := gtreeWaysRow.holds Try.pinned (OpenSpec.ofChange gtreeWaysWrong)

/-- 'dolelaw10.GtreeDeep': WHATEVER THE INPUT: true; the input reads as it did. -/
def gtreeDeepSpec : ChangeSpec := { name := "gtreeDeep", fn := fun _ => fun
  | [d] => { results := [.lit (.bool true)], args := [d] }
  | _ => none }
def gtreeDeepRow : OpenClaim := { program := "ytnbljnpfmeidfaa", sum := "ed63cb695a29c58042de963c74761d2ebe4eeb864aee75fa69a660bad8a414f2", func := "dole/dolelaw10.GtreeDeep", spec := "gtreeDeep", unfollowed := true, recurses := true, apart := false }
def GtreeDeepSaid : Prop := gtreeDeepRow.holds Try.pinned (OpenSpec.ofChange gtreeDeepSpec)

/-- ITS FALSE NEIGHBOUR: 'it returns false'. Refute it at one input. -/
def gtreeDeepWrong : ChangeSpec := { name := "gtreeDeep", fn := fun _ => fun
  | [d] => { results := [.lit (.bool false)], args := [d] }
  | _ => none }
def GtreeDeepWrongFalsely : Prop := gtreeDeepRow.holds Try.pinned (OpenSpec.ofChange gtreeDeepWrong)

/-- 'dolelaw10.GtreePlays': WHATEVER THE INPUT: true; the input reads as it did. -/
def gtreePlaysSpec : ChangeSpec := { name := "gtreePlays", fn := fun _ => fun
  | [d] => { results := [.lit (.bool true)], args := [d] }
  | _ => none }
def gtreePlaysRow : OpenClaim := { program := "ytnbljnpfmeidfaa", sum := "ed63cb695a29c58042de963c74761d2ebe4eeb864aee75fa69a660bad8a414f2", func := "dole/dolelaw10.GtreePlays", spec := "gtreePlays", unfollowed := true, recurses := true, apart := false }
def GtreePlaysSaid : Prop := gtreePlaysRow.holds Try.pinned (OpenSpec.ofChange gtreePlaysSpec)

/-- ITS FALSE NEIGHBOUR: 'it returns false'. Refute it at one input. -/
def gtreePlaysWrong : ChangeSpec := { name := "gtreePlays", fn := fun _ => fun
  | [d] => { results := [.lit (.bool false)], args := [d] }
  | _ => none }
def GtreePlaysWrongFalsely : Prop := gtreePlaysRow.holds Try.pinned (OpenSpec.ofChange gtreePlaysWrong)

/-- 'dolelaw10.GtreeNobody': WHATEVER THE INPUT: true; the input reads as it did. -/
def gtreeNobodySpec : ChangeSpec := { name := "gtreeNobody", fn := fun _ => fun
  | [d1, d2] => { results := [.lit (.bool true)], args := [d1, d2] }
  | _ => none }
def gtreeNobodyRow : OpenClaim := { program := "ytnbljnpfmeidfaa", sum := "ed63cb695a29c58042de963c74761d2ebe4eeb864aee75fa69a660bad8a414f2", func := "dole/dolelaw10.GtreeNobody", spec := "gtreeNobody", unfollowed := true, recurses := true, apart := false }
def GtreeNobodySaid : Prop := gtreeNobodyRow.holds Try.pinned (OpenSpec.ofChange gtreeNobodySpec)

/-- ITS FALSE NEIGHBOUR: 'it returns false'. Refute it at one input. -/
def gtreeNobodyWrong : ChangeSpec := { name := "gtreeNobody", fn := fun _ => fun
  | [d1, d2] => { results := [.lit (.bool false)], args := [d1, d2] }
  | _ => none }
def GtreeNobodyWrongFalsely : Prop := gtreeNobodyRow.holds Try.pinned (OpenSpec.ofChange gtreeNobodyWrong)

/- THE SECOND FORM. 'bulk': how many values and letters a reading holds, each counted each time it is reached (what is shared counts as often as it is met; a slice's spare places count too). A statement '..UptoSaid' is the law's where the arguments, and the package variables that the reading takes, are together of bulk at most 1048576: NARROWER than '..Said'. Prove '..Said' where nothing that the law and all that it calls make is longer than what came in: it says more and counts as full. Else prove '..UptoSaid'. A law counts once. -/
mutual
def uptoBulk {H : Type} : DataW H → Nat
  | .lit (.string bytes) => bytes.length + 1
  | .lit _ => 1
  | .nil => 1
  | .ptr d => uptoBulk d + 1
  | .slice elems spare => uptoBulkAll elems + uptoBulkAll spare + 1
  | .agg parts => uptoBulkAll parts + 1
  | .iface _ d => uptoBulk d + 1
  | .map entries => uptoBulkEntries entries + 1
  | .held _ => 1
def uptoBulkAll {H : Type} : List (DataW H) → Nat
  | [] => 0
  | d :: r => uptoBulk d + uptoBulkAll r
def uptoBulkEntries {H : Type} : List (Lit × DataW H) → Nat
  | [] => 0
  | x :: r => uptoBulkEntry x + uptoBulkEntries r
def uptoBulkEntry {H : Type} : Lit × DataW H → Nat
  | (.string bytes, d) => bytes.length + uptoBulk d + 1
  | (_, d) => uptoBulk d + 1
 end
def uptoSmall : (H : Type) → List (DataW H) → Bool := fun _ ds => decide (uptoBulkAll ds ≤ 1048576)
def OpenSpec.upto (s : _root_.Go.ChangeSpec) : _root_.Go.OpenSpec := { _root_.Go.OpenSpec.ofChange s with cond := some uptoSmall }

/-- 'dolelaw10.GtreeUnder', WHERE WHAT IT READS IS OF BULK AT MOST 1048576: true; the input reads as it did. -/
def gtreeUnderUptoRow : OpenClaim := { program := "ytnbljnpfmeidfaa", sum := "ed63cb695a29c58042de963c74761d2ebe4eeb864aee75fa69a660bad8a414f2", func := "dole/dolelaw10.GtreeUnder", spec := "gtreeUnder", unfollowed := true, recurses := true, apart := false, narrowed := true }
def GtreeUnderUptoSaid : Prop := gtreeUnderUptoRow.holds Try.pinned (OpenSpec.upto gtreeUnderSpec)

/-- 'dolelaw10.GtreeMoves', WHERE WHAT IT READS IS OF BULK AT MOST 1048576: true; the input reads as it did. -/
def gtreeMovesUptoRow : OpenClaim := { program := "ytnbljnpfmeidfaa", sum := "ed63cb695a29c58042de963c74761d2ebe4eeb864aee75fa69a660bad8a414f2", func := "dole/dolelaw10.GtreeMoves", spec := "gtreeMoves", unfollowed := true, recurses := true, apart := false, narrowed := true }
def GtreeMovesUptoSaid : Prop := gtreeMovesUptoRow.holds Try.pinned (OpenSpec.upto gtreeMovesSpec)

/-- 'dolelaw10.GtreeWays', WHERE WHAT IT READS IS OF BULK AT MOST 1048576: true; the input reads as it did. -/
def gtreeWaysUptoRow : OpenClaim := { program := "ytnbljnpfmeidfaa", sum := "ed63cb695a29c58042de963c74761d2ebe4eeb864aee75fa69a660bad8a414f2", func := "dole/dolelaw10.GtreeWays", spec := "gtreeWays", unfollowed := true, recurses := true, apart := false, narrowed := true }
def GtreeWaysUptoSaid : Prop := gtreeWaysUptoRow.holds Try.pinned (OpenSpec.upto gtreeWaysSpec)

/-- 'dolelaw10.GtreeDeep', WHERE WHAT IT READS IS OF BULK AT MOST 1048576: true; the input reads as it did. -/
def gtreeDeepUptoRow : OpenClaim := { program := "ytnbljnpfmeidfaa", sum := "ed63cb695a29c58042de963c74761d2ebe4eeb864aee75fa69a660bad8a414f2", func := "dole/dolelaw10.GtreeDeep", spec := "gtreeDeep", unfollowed := true, recurses := true, apart := false, narrowed := true }
def GtreeDeepUptoSaid : Prop := gtreeDeepUptoRow.holds Try.pinned (OpenSpec.upto gtreeDeepSpec)

/-- 'dolelaw10.GtreePlays', WHERE WHAT IT READS IS OF BULK AT MOST 1048576: true; the input reads as it did. -/
def gtreePlaysUptoRow : OpenClaim := { program := "ytnbljnpfmeidfaa", sum := "ed63cb695a29c58042de963c74761d2ebe4eeb864aee75fa69a660bad8a414f2", func := "dole/dolelaw10.GtreePlays", spec := "gtreePlays", unfollowed := true, recurses := true, apart := false, narrowed := true }
def GtreePlaysUptoSaid : Prop := gtreePlaysUptoRow.holds Try.pinned (OpenSpec.upto gtreePlaysSpec)

/-- 'dolelaw10.GtreeNobody', WHERE WHAT IT READS IS OF BULK AT MOST 1048576: true; the input reads as it did. -/
def gtreeNobodyUptoRow : OpenClaim := { program := "ytnbljnpfmeidfaa", sum := "ed63cb695a29c58042de963c74761d2ebe4eeb864aee75fa69a660bad8a414f2", func := "dole/dolelaw10.GtreeNobody", spec := "gtreeNobody", unfollowed := true, recurses := true, apart := false, narrowed := true }
def GtreeNobodyUptoSaid : Prop := gtreeNobodyUptoRow.holds Try.pinned (OpenSpec.upto gtreeNobodySpec)

end Rows
end Go.Proofs.Ytnbljnpfmeidfaa
