/- Parts for TopPlaces. Conditions: as stated. -/
import Derived.Lib.BitFns
import Derived.Lib.Slices
import Derived.Lib.Small
import Derived.Lib.Strings
import Derived.Lib.Walk
import Derived.Test.YtmpdpmhpkgbepaaGreatDoorChecked
import Derived.Test.YtmpdpmhpkgbepaaGreatDoorZ00
set_option linter.unusedVariables false
set_option maxRecDepth 100000
set_option maxHeartbeats 4000000
open Go.Proofs.Tryz
namespace Go.Proofs.YtmpdpmhpkgbepaaGreatDoor
open Go Go.RowKit Go.ChangeShapes Go.WideShapes
theorem KK(x:Int)(w:World)(h0:0<=x)(h1:x<=18446744073709551615):Calls prog 228 #[.int .u64 x] w fun z w'=>(∃k:Int,z=.returned (.int .i64 k))/\w'=w:=by
 go_enter func228,ntmps228;go_wp2
 all_goals (go_ret;exact⟨⟨_,rfl⟩,rfl⟩)
theorem EU(x:Int)(w:World)(B:0<=x)(A:x<=18446744073709551615):Calls prog 255 #[.int .u64 x] w fun z w'=>(∃k:Int,z=.returned (.int .i64 k))/\w'=w:=by go_enter func255,ntmps255;go_wp2_with (go_at_call 228;refine(KK x _ B A).mono ?_;rintro e w' ⟨⟨k,rfl⟩,rfl⟩);go_ret;exact⟨⟨_,rfl⟩,rfl⟩
