/- Parts for TopPlaces. Conditions: as stated. -/
import Derived.ProofKit
import Derived.WalkKit
import Derived.Test.YtmpdpmhpkgbepaaGreatDoorRows
import Derived.Test.YtmpdpmhpkgbepaaGreatDoorZ00
set_option linter.unusedVariables false
set_option maxRecDepth 100000
set_option maxHeartbeats 4000000
namespace Go.Proofs.YtmpdpmhpkgbepaaGreatDoor.topKeeps
open Go Go.ChangeShapes Go.WideShapes Go.ChangeAt Go.RowKit
end Go.Proofs.YtmpdpmhpkgbepaaGreatDoor.topKeeps
namespace Go.Proofs.YtmpdpmhpkgbepaaGreatDoor.topPlaces
open Go Go.ChangeShapes Go.WideShapes Go.ChangeAt Go.RowKit
theorem vK{a b:Bool}(h:a=true)(k:b=true):(a && b)=true:=by rw[h,k];rfl
theorem NX:joinedFacts Tryz.pinned.checked.prog 3 Tryz.f3 Rows.topPlacesSpec Rows.topPlacesRow=true:=by
 unfold joinedFacts;exact(vK (vK (vK (vK (vK (vK (vK (vK (vK (vK (vK (vK (vK (vK (vK (vK (vK (vK (vK (vK (vK (vK (vK (vK (vK (vK (vK (vK (vK (vK (vK (by as_aux_lemma=>kernel_rfl)
  (by as_aux_lemma=>kernel_rfl))
  (by as_aux_lemma=>kernel_rfl))
  (by as_aux_lemma=>kernel_rfl))
  (by as_aux_lemma=>kernel_rfl))
  (by as_aux_lemma=>kernel_rfl))
  (by as_aux_lemma=>kernel_rfl))
  (by as_aux_lemma=>kernel_rfl))
  (by as_aux_lemma=>kernel_rfl))
  (by as_aux_lemma=>kernel_rfl))
  (by as_aux_lemma=>kernel_rfl))
  (by as_aux_lemma=>kernel_rfl))
  (by as_aux_lemma=>kernel_rfl))
  (by as_aux_lemma=>kernel_rfl))
  (by as_aux_lemma=>kernel_rfl))
  (by as_aux_lemma=>kernel_rfl))
  (by as_aux_lemma=>kernel_rfl))
  (by as_aux_lemma=>kernel_rfl))
  (by as_aux_lemma=>kernel_rfl))
  (by as_aux_lemma=>kernel_rfl))
  (by as_aux_lemma=>kernel_rfl))
  (by as_aux_lemma=>kernel_rfl))
  (by as_aux_lemma=>kernel_rfl))
  (by as_aux_lemma=>kernel_rfl))
  (by as_aux_lemma=>kernel_rfl))
  (by as_aux_lemma=>kernel_rfl))
  (by as_aux_lemma=>kernel_rfl))
  (by as_aux_lemma=>kernel_rfl))
  (by as_aux_lemma=>kernel_rfl))
  (by as_aux_lemma=>kernel_rfl))
  (by as_aux_lemma=>kernel_rfl))
  (by as_aux_lemma=>kernel_rfl))
end Go.Proofs.YtmpdpmhpkgbepaaGreatDoor.topPlaces
