/- Parts of the proof of the law TopKeeps: contracts of the functions that it reaches, and plain laws of what they compute. Conditions: those in each statement. -/
import Derived.ProofKit
import Derived.WalkKit
import Derived.Test.YtmgekibncmnmiaaGreatDoorM00
import Derived.Test.YtmgekibncmnmiaaGreatDoorRows
set_option linter.unusedVariables false
set_option maxRecDepth 100000
set_option maxHeartbeats 4000000
namespace Go.Proofs.YtmgekibncmnmiaaGreatDoor.topKeeps
open Go Go.ChangeShapes Go.WideShapes Go.ChangeAt Go.RowKit
theorem xA{a b:Bool}(h:a=true)(k:b=true):(a && b)=true:=by rw[h,k];rfl
theorem facts:joinedFacts Tryz.pinned.checked.prog 4 Tryz.f4 Rows.topKeepsSpec Rows.topKeepsRow=true:=by
 unfold joinedFacts;exact(xA (xA (xA (xA (xA (xA (xA (xA (xA (xA (xA (xA (xA (xA (xA (xA (xA (xA (xA (xA (xA (xA (xA (xA (xA (xA (xA (xA (xA (xA (xA (by as_aux_lemma=>kernel_rfl)
  (by as_aux_lemma=>kernel_rfl))
  (by as_aux_lemma=>kernel_rfl))
  (by as_aux_lemma=>kernel_rfl))
  (by as_aux_lemma=>kernel_rfl))
  (by as_aux_lemma=>kernel_rfl))
  (by as_aux_lemma=>kernel_rfl))
  (by as_aux_lemma=>kernel_rfl))
  (by as_aux_lemma=>kernel_rfl))
  (by as_aux_lemma=>kernel_rfl))
  (by as_aux_lemma=>kernel_rfl))
  (by as_aux_lemma=>kernel_rfl))
  (by as_aux_lemma=>kernel_rfl))
  (by as_aux_lemma=>kernel_rfl))
  (by as_aux_lemma=>kernel_rfl))
  (by as_aux_lemma=>kernel_rfl))
  (by as_aux_lemma=>kernel_rfl))
  (by as_aux_lemma=>kernel_rfl))
  (by as_aux_lemma=>kernel_rfl))
  (by as_aux_lemma=>kernel_rfl))
  (by as_aux_lemma=>kernel_rfl))
  (by as_aux_lemma=>kernel_rfl))
  (by as_aux_lemma=>kernel_rfl))
  (by as_aux_lemma=>kernel_rfl))
  (by as_aux_lemma=>kernel_rfl))
  (by as_aux_lemma=>kernel_rfl))
  (by as_aux_lemma=>kernel_rfl))
  (by as_aux_lemma=>kernel_rfl))
  (by as_aux_lemma=>kernel_rfl))
  (by as_aux_lemma=>kernel_rfl))
  (by as_aux_lemma=>kernel_rfl))
  (by as_aux_lemma=>kernel_rfl))
end Go.Proofs.YtmgekibncmnmiaaGreatDoor.topKeeps
