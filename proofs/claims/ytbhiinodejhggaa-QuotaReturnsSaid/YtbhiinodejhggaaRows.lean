/-
  No cell of these rows narrows 'for every input' (looked for: loops, veiled, ifaces, maps, wideKeys, modest, calm, conditions, laid).
  DERIVED. THE GIVEN ROWS OF THIS SEAT. 7 by the template 'for every input the law returns true; each argument reads behind the call as it read before'; 0 by the template 'total and deterministic' (their statements: YtbhiinodejhggaaTotals.lean).
  GIVEN WITH THE SEED: the statements are not yours to turn. If you find one false, say at which input.
  Laid BY PROGRAM, IN A SANDBOX (cutbox-rows.mjs): the forced cells as the released guide's own fill.sh prints them over the translation 9d152daa366a5b12… (all of the seat's roots in one cut). By AI agents, Wed Nov 11 2026. No macro, syntax, notation, axiom, sorry.
-/
import Derived.Test.YtbhiinodejhggaaChecked
import GoSem.Claim
import GoSem.ClaimJoined
import GoSem.ClaimMapViews
import Derived.JoinedTies
import Derived.KernelRfl
namespace Go.Proofs.Ytbhiinodejhggaa
/- THE CELL 'sum', in the pinned program and in every row, IS THE sha256 OF THE DUMP (.gsa) THAT YtbhiinodejhggaaProg.lean LOADS. Nothing in Lean hashes anything: it is a label: what it is worth is what the hold of that sum in a sandbox is worth. -/
noncomputable def Try.pinned : Pinned := { name := "ytbhiinodejhggaa", sum := "9d152daa366a5b12a1c9cb442215ea0cf7b851bc154661ee17af155e9b3167d9", checked := Try.checked }
namespace Rows
def none {H : Type} : Left H := { results := [], args := [] }

/-- 'dolelaw12.QuotaReturns': WHATEVER THE INPUT: true; the input reads as it did. -/
def quotaReturnsSpec : ChangeSpec := { name := "quotaReturns", fn := fun _ => fun
  | [d] => { results := [.lit (.bool true)], args := [d] }
  | _ => none }
def quotaReturnsRow : OpenClaim := { program := "ytbhiinodejhggaa", sum := "9d152daa366a5b12a1c9cb442215ea0cf7b851bc154661ee17af155e9b3167d9", func := "dole/dolelaw12.QuotaReturns", spec := "quotaReturns", unfollowed := true, recurses := true, apart := false }
def QuotaReturnsSaid : Prop := quotaReturnsRow.holds Try.pinned (OpenSpec.ofChange quotaReturnsSpec)

/-- ITS FALSE NEIGHBOUR: 'it returns false'. Refute it at one input. -/
def quotaReturnsWrong : ChangeSpec := { name := "quotaReturns", fn := fun _ => fun
  | [d] => { results := [.lit (.bool false)], args := [d] }
  | _ => none }
def QuotaReturnsWrongFalsely : Prop := quotaReturnsRow.holds Try.pinned (OpenSpec.ofChange quotaReturnsWrong)

/-- 'dolelaw12.QuotaHolds': WHATEVER THE INPUT: true; the input reads as it did. -/
def quotaHoldsSpec : ChangeSpec := { name := "quotaHolds", fn := fun _ => fun
  | [d1, d2, d3] => { results := [.lit (.bool true)], args := [d1, d2, d3] }
  | _ => none }
def quotaHoldsRow : OpenClaim := { program := "ytbhiinodejhggaa", sum := "9d152daa366a5b12a1c9cb442215ea0cf7b851bc154661ee17af155e9b3167d9", func := "dole/dolelaw12.QuotaHolds", spec := "quotaHolds", unfollowed := true, recurses := true, apart := false }
def QuotaHoldsSaid : Prop := quotaHoldsRow.holds Try.pinned (OpenSpec.ofChange quotaHoldsSpec)

/-- ITS FALSE NEIGHBOUR: 'it returns false'. Refute it at one input. -/
def quotaHoldsWrong : ChangeSpec := { name := "quotaHolds", fn := fun _ => fun
  | [d1, d2, d3] => { results := [.lit (.bool false)], args := [d1, d2, d3] }
  | _ => none }
def QuotaHoldsWrongFalsely : Prop := quotaHoldsRow.holds Try.pinned (OpenSpec.ofChange quotaHoldsWrong)

/-- 'dolelaw12.QuotaMakes': WHATEVER THE INPUT: true; the input reads as it did. -/
def quotaMakesSpec : ChangeSpec := { name := "quotaMakes", fn := fun _ => fun
  | [d1, d2, d3] => { results := [.lit (.bool true)], args := [d1, d2, d3] }
  | _ => none }
def quotaMakesRow : OpenClaim := { program := "ytbhiinodejhggaa", sum := "9d152daa366a5b12a1c9cb442215ea0cf7b851bc154661ee17af155e9b3167d9", func := "dole/dolelaw12.QuotaMakes", spec := "quotaMakes", unfollowed := true, recurses := true, apart := false }
def QuotaMakesSaid : Prop := quotaMakesRow.holds Try.pinned (OpenSpec.ofChange quotaMakesSpec)

/-- ITS FALSE NEIGHBOUR: 'it returns false'. Refute it at one input. -/
def quotaMakesWrong : ChangeSpec := { name := "quotaMakes", fn := fun _ => fun
  | [d1, d2, d3] => { results := [.lit (.bool false)], args := [d1, d2, d3] }
  | _ => none }
def QuotaMakesWrongFalsely : Prop := quotaMakesRow.holds Try.pinned (OpenSpec.ofChange quotaMakesWrong)

/-- 'dolelaw12.QuotaStops': WHATEVER THE INPUT: true; the input reads as it did. -/
def quotaStopsSpec : ChangeSpec := { name := "quotaStops", fn := fun _ => fun
  | [d1, d2, d3] => { results := [.lit (.bool true)], args := [d1, d2, d3] }
  | _ => none }
def quotaStopsRow : OpenClaim := { program := "ytbhiinodejhggaa", sum := "9d152daa366a5b12a1c9cb442215ea0cf7b851bc154661ee17af155e9b3167d9", func := "dole/dolelaw12.QuotaStops", spec := "quotaStops", unfollowed := true, recurses := true, apart := false }
def QuotaStopsSaid : Prop := quotaStopsRow.holds Try.pinned (OpenSpec.ofChange quotaStopsSpec)

/-- ITS FALSE NEIGHBOUR: 'it returns false'. Refute it at one input. -/
def quotaStopsWrong : ChangeSpec := { name := "quotaStops", fn := fun _ => fun
  | [d1, d2, d3] => { results := [.lit (.bool false)], args := [d1, d2, d3] }
  | _ => none }
def QuotaStopsWrongFalsely : Prop := quotaStopsRow.holds Try.pinned (OpenSpec.ofChange quotaStopsWrong)

/-- 'dolelaw12.QuotaExpires': WHATEVER THE INPUT: true; the input reads as it did. -/
def quotaExpiresSpec : ChangeSpec := { name := "quotaExpires", fn := fun _ => fun
  | [d1, d2, d3] => { results := [.lit (.bool true)], args := [d1, d2, d3] }
  | _ => none }
def quotaExpiresRow : OpenClaim := { program := "ytbhiinodejhggaa", sum := "9d152daa366a5b12a1c9cb442215ea0cf7b851bc154661ee17af155e9b3167d9", func := "dole/dolelaw12.QuotaExpires", spec := "quotaExpires", unfollowed := true, recurses := true, apart := false }
def QuotaExpiresSaid : Prop := quotaExpiresRow.holds Try.pinned (OpenSpec.ofChange quotaExpiresSpec)

/-- ITS FALSE NEIGHBOUR: 'it returns false'. Refute it at one input. -/
def quotaExpiresWrong : ChangeSpec := { name := "quotaExpires", fn := fun _ => fun
  | [d1, d2, d3] => { results := [.lit (.bool false)], args := [d1, d2, d3] }
  | _ => none }
def QuotaExpiresWrongFalsely : Prop := quotaExpiresRow.holds Try.pinned (OpenSpec.ofChange quotaExpiresWrong)

/-- 'dolelaw12.QuotaPlays': WHATEVER THE INPUT: true; the input reads as it did. -/
def quotaPlaysSpec : ChangeSpec := { name := "quotaPlays", fn := fun _ => fun
  | [d1, d2] => { results := [.lit (.bool true)], args := [d1, d2] }
  | _ => none }
def quotaPlaysRow : OpenClaim := { program := "ytbhiinodejhggaa", sum := "9d152daa366a5b12a1c9cb442215ea0cf7b851bc154661ee17af155e9b3167d9", func := "dole/dolelaw12.QuotaPlays", spec := "quotaPlays", unfollowed := true, recurses := true, apart := false }
def QuotaPlaysSaid : Prop := quotaPlaysRow.holds Try.pinned (OpenSpec.ofChange quotaPlaysSpec)

/-- ITS FALSE NEIGHBOUR: 'it returns false'. Refute it at one input. -/
def quotaPlaysWrong : ChangeSpec := { name := "quotaPlays", fn := fun _ => fun
  | [d1, d2] => { results := [.lit (.bool false)], args := [d1, d2] }
  | _ => none }
def QuotaPlaysWrongFalsely : Prop := quotaPlaysRow.holds Try.pinned (OpenSpec.ofChange quotaPlaysWrong)

/-- 'dolelaw12.QuotaNobody': WHATEVER THE INPUT: true; the input reads as it did. -/
def quotaNobodySpec : ChangeSpec := { name := "quotaNobody", fn := fun _ => fun
  | [d1, d2, d3] => { results := [.lit (.bool true)], args := [d1, d2, d3] }
  | _ => none }
def quotaNobodyRow : OpenClaim := { program := "ytbhiinodejhggaa", sum := "9d152daa366a5b12a1c9cb442215ea0cf7b851bc154661ee17af155e9b3167d9", func := "dole/dolelaw12.QuotaNobody", spec := "quotaNobody", unfollowed := true, recurses := true, apart := false }
def QuotaNobodySaid : Prop := quotaNobodyRow.holds Try.pinned (OpenSpec.ofChange quotaNobodySpec)

/-- ITS FALSE NEIGHBOUR: 'it returns false'. Refute it at one input. -/
def quotaNobodyWrong : ChangeSpec := { name := "quotaNobody", fn := fun _ => fun
  | [d1, d2, d3] => { results := [.lit (.bool false)], args := [d1, d2, d3] }
  | _ => none }
def QuotaNobodyWrongFalsely : Prop := quotaNobodyRow.holds Try.pinned (OpenSpec.ofChange quotaNobodyWrong)

/- THE SECOND FORM. 'bulk': how many values and letters a reading holds, each counted each time it is reached (what is shared counts as often as it is met; a slice's spare places count too). A statement '..UptoSaid' is the law's where the arguments, and the package variables that the reading takes, are together of bulk at most 1048576: NARROWER than '..Said'. Prove '..Said' where nothing that the law and all that it calls make is longer than what came in: it says more and counts as full. Else prove '..UptoSaid'. A law counts once. -/
mutual
def uptoBulk {H : Type} : DataW H → Nat
  | .lit (.string bytes) => bytes.length + 1
  | .lit _ => 1
  | .nil => 1
  | .ptr d => uptoBulk d + 1
  | .slice elems spare => uptoBulkAll elems + uptoBulkAll spare + 1
  | .agg parts => uptoBulkAll parts + 1
  | .iface _ d => uptoBulk d + 1
  | .map entries => uptoBulkEntries entries + 1
  | .held _ => 1
def uptoBulkAll {H : Type} : List (DataW H) → Nat
  | [] => 0
  | d :: r => uptoBulk d + uptoBulkAll r
def uptoBulkEntries {H : Type} : List (Lit × DataW H) → Nat
  | [] => 0
  | x :: r => uptoBulkEntry x + uptoBulkEntries r
def uptoBulkEntry {H : Type} : Lit × DataW H → Nat
  | (.string bytes, d) => bytes.length + uptoBulk d + 1
  | (_, d) => uptoBulk d + 1
 end
def uptoSmall : (H : Type) → List (DataW H) → Bool := fun _ ds => decide (uptoBulkAll ds ≤ 1048576)
def OpenSpec.upto (s : _root_.Go.ChangeSpec) : _root_.Go.OpenSpec := { _root_.Go.OpenSpec.ofChange s with cond := some uptoSmall }

/-- 'dolelaw12.QuotaReturns', WHERE WHAT IT READS IS OF BULK AT MOST 1048576: true; the input reads as it did. -/
def quotaReturnsUptoRow : OpenClaim := { program := "ytbhiinodejhggaa", sum := "9d152daa366a5b12a1c9cb442215ea0cf7b851bc154661ee17af155e9b3167d9", func := "dole/dolelaw12.QuotaReturns", spec := "quotaReturns", unfollowed := true, recurses := true, apart := false, narrowed := true }
def QuotaReturnsUptoSaid : Prop := quotaReturnsUptoRow.holds Try.pinned (OpenSpec.upto quotaReturnsSpec)

/-- 'dolelaw12.QuotaHolds', WHERE WHAT IT READS IS OF BULK AT MOST 1048576: true; the input reads as it did. -/
def quotaHoldsUptoRow : OpenClaim := { program := "ytbhiinodejhggaa", sum := "9d152daa366a5b12a1c9cb442215ea0cf7b851bc154661ee17af155e9b3167d9", func := "dole/dolelaw12.QuotaHolds", spec := "quotaHolds", unfollowed := true, recurses := true, apart := false, narrowed := true }
def QuotaHoldsUptoSaid : Prop := quotaHoldsUptoRow.holds Try.pinned (OpenSpec.upto quotaHoldsSpec)

/-- 'dolelaw12.QuotaMakes', WHERE WHAT IT READS IS OF BULK AT MOST 1048576: true; the input reads as it did. -/
def quotaMakesUptoRow : OpenClaim := { program := "ytbhiinodejhggaa", sum := "9d152daa366a5b12a1c9cb442215ea0cf7b851bc154661ee17af155e9b3167d9", func := "dole/dolelaw12.QuotaMakes", spec := "quotaMakes", unfollowed := true, recurses := true, apart := false, narrowed := true }
def QuotaMakesUptoSaid : Prop := quotaMakesUptoRow.holds Try.pinned (OpenSpec.upto quotaMakesSpec)

/-- 'dolelaw12.QuotaStops', WHERE WHAT IT READS IS OF BULK AT MOST 1048576: true; the input reads as it did. -/
def quotaStopsUptoRow : OpenClaim := { program := "ytbhiinodejhggaa", sum := "9d152daa366a5b12a1c9cb442215ea0cf7b851bc154661ee17af155e9b3167d9", func := "dole/dolelaw12.QuotaStops", spec := "quotaStops", unfollowed := true, recurses := true, apart := false, narrowed := true }
def QuotaStopsUptoSaid : Prop := quotaStopsUptoRow.holds Try.pinned (OpenSpec.upto quotaStopsSpec)

/-- 'dolelaw12.QuotaExpires', WHERE WHAT IT READS IS OF BULK AT MOST 1048576: true; the input reads as it did. -/
def quotaExpiresUptoRow : OpenClaim := { program := "ytbhiinodejhggaa", sum := "9d152daa366a5b12a1c9cb442215ea0cf7b851bc154661ee17af155e9b3167d9", func := "dole/dolelaw12.QuotaExpires", spec := "quotaExpires", unfollowed := true, recurses := true, apart := false, narrowed := true }
def QuotaExpiresUptoSaid : Prop := quotaExpiresUptoRow.holds Try.pinned (OpenSpec.upto quotaExpiresSpec)

/-- 'dolelaw12.QuotaPlays', WHERE WHAT IT READS IS OF BULK AT MOST 1048576: true; the input reads as it did. -/
def quotaPlaysUptoRow : OpenClaim := { program := "ytbhiinodejhggaa", sum := "9d152daa366a5b12a1c9cb442215ea0cf7b851bc154661ee17af155e9b3167d9", func := "dole/dolelaw12.QuotaPlays", spec := "quotaPlays", unfollowed := true, recurses := true, apart := false, narrowed := true }
def QuotaPlaysUptoSaid : Prop := quotaPlaysUptoRow.holds Try.pinned (OpenSpec.upto quotaPlaysSpec)

/-- 'dolelaw12.QuotaNobody', WHERE WHAT IT READS IS OF BULK AT MOST 1048576: true; the input reads as it did. -/
def quotaNobodyUptoRow : OpenClaim := { program := "ytbhiinodejhggaa", sum := "9d152daa366a5b12a1c9cb442215ea0cf7b851bc154661ee17af155e9b3167d9", func := "dole/dolelaw12.QuotaNobody", spec := "quotaNobody", unfollowed := true, recurses := true, apart := false, narrowed := true }
def QuotaNobodyUptoSaid : Prop := quotaNobodyUptoRow.holds Try.pinned (OpenSpec.upto quotaNobodySpec)

end Rows
end Go.Proofs.Ytbhiinodejhggaa
