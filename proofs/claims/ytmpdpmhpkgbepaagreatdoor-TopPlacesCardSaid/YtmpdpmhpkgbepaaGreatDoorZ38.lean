/- Parts for TopPlaces. Conditions: as stated. -/
import Derived.LaidMore
import Derived.LaidSub
import Derived.Lay
import Derived.Lib.LaidTab
import Derived.OpenShut
import Derived.SevenTiedAt
import Derived.ShutString
import Derived.Stop.Joined
import Derived.Test.YtmpdpmhpkgbepaaGreatDoorCards
import Derived.Test.YtmpdpmhpkgbepaaGreatDoorTie
import Derived.Test.YtmpdpmhpkgbepaaGreatDoorZ09
import Derived.Test.YtmpdpmhpkgbepaaGreatDoorZ30
set_option linter.unusedVariables false
set_option maxRecDepth 100000
set_option maxHeartbeats 4000000
open Go.Proofs.Tryz
namespace Go.Proofs.YtmpdpmhpkgbepaaGreatDoor.topPlaces
open Go Go.ChangeShapes Go.WideShapes Go.ChangeAt Go.RowKit
theorem own:ownKnob prog.godebug=none:=by kernel_rfl
theorem JZ:laidOutB prog=true:=by kernel_rfl
theorem over_of(hl:∀(os:Os)(A:os.Started)(H:Type)(enc:TypeId×Value->H),
  ReturnsInHanded {} Tryz.checked os 3 .any (fun w args=>(Rows.topPlacesSpec.pre enc prog Tryz.f3 [] false w args/\laidMetH prog Rows.topPlacesRow.laid w)/\sizedMet enc prog Tryz.f3 (OpenSpec.ofChange Rows.topPlacesSpec) false w args) (Rows.topPlacesSpec.post enc prog Tryz.f3 false true false false)):Rows.topPlacesRow.holds Tryz.pinned (OpenSpec.ofChange Rows.topPlacesSpec):=
 OpenClaim.holds_of_wide 3 Tryz.f3 rfl rfl rfl rfl rfl rfl rfl ⟨rfl,rfl,rfl,rfl,rfl⟩ rfl rfl rfl rfl rfl (by as_aux_lemma=>kernel_rfl) func3 NX
  (of_decide_eq_true (by kernel_rfl)) (by unfold Func.isWrapper;first|(rw[if_pos (by decide+kernel)];kernel_rfl)|(rw[if_neg (by decide+kernel)];exact⟨rfl,rfl⟩))
  (fun os A H enc _=>hl os A H enc)
theorem tail(over:Rows.topPlacesRow.holds Tryz.pinned (OpenSpec.ofChange Rows.topPlacesSpec)):Rows.TopPlacesCardSaid:=
 Claim7.holds_tied_plain_at .later [] [.data,.data,.data,.data,.sentinel,.sentinel,.pinned] true (true, "96ee18c4786b253376cf1a3ebe4bd78d7368f8250135cc6d7d13255384211954") true
  over (fun _ h=>by cases h) (by kernel_rfl) (fun _ h=>by cases h) topPlaces_row_tie rfl ⟨rfl,rfl⟩ (by kernel_rfl) rfl
  (fun f fn G B=>by
   obtain rfl:f=3:=Option.some.inj ((show prog.funcNamed "dole/doletop.TopPlaces" =some 3 by kernel_rfl).symm.trans G) |>.symm
   obtain rfl:fn=Tryz.f3:=(Option.some.inj (func3.symm.trans B)).symm;exact⟨by kernel_rfl,fun j t D=>by
    rw[Tryz.params3]at D;have E:t∈ [23,24]:=by simpa using Array.mem_of_getElem? D
    have A:([23,24].all fun u=>!prog.wantsStandIn u)=true:=by kernel_rfl
    exact(show prog.wantsStandIn t=false by simpa using List.all_eq_true.1 A t E)⟩)
  (by kernel_rfl)
end Go.Proofs.YtmpdpmhpkgbepaaGreatDoor.topPlaces
