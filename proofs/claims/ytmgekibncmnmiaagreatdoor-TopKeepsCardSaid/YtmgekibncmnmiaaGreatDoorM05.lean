/- Parts of the proof of the law TopKeeps: contracts of the functions that it reaches, and plain laws of what they compute. Conditions: those in each statement. -/
import Derived.Laws.AppendOwn
import Derived.Laws.OwnMore
import Derived.Test.YtmgekibncmnmiaaGreatDoorM02
set_option linter.unusedVariables false
set_option maxRecDepth 100000
set_option maxHeartbeats 4000000
namespace Go.Proofs.YtmgekibncmnmiaaGreatDoor
open Go Go.RowKit Go.ChangeShapes Go.WideShapes
theorem zbY{w:World}{base:Nat}{e:TypeId}{size:Nat}{v:Value}{n:Nat}{xs:List Value}{b:Nat}{o:Nat}{u:Value}(h:w.ownsRow base e size v n xs)(A:v.ownBlock≠some b):(w.setCell ⟨b,o,none⟩ u).ownsRow base e size v n xs:=by
 refine⟨h.1,?_⟩;rcases h.2 with G | ⟨g,cap,cur,B,hb,D,E⟩
 ·exact .inl G
 ·refine .inr ⟨g,cap,cur,B,hb,?_,E⟩;rw[Below.heap_setCell _ _ _ _ (by rintro rfl;exact A (by rw[B];rfl))];exact D
theorem yY{w w':World}{base:Nat}{e:TypeId}{size:Nat}{v:Value}{n:Nat}{xs:List Value}(h:w.ownsRow base e size v n xs)(hb:Below w.heap.size w w'):w'.ownsRow base e size v n xs:=by
 refine⟨h.1,?_⟩;rcases h.2 with G | ⟨g,cap,cur,D,A,B,E⟩
 ·exact .inl G
 ·exact .inr ⟨g,cap,cur,D,A,by rw[hb.block g (zd B).1];exact B,E⟩
theorem zaf{w:World}{base A:Nat}{e:TypeId}{size:Nat}{v:Value}{n:Nat}{xs:List Value}(h:w.ownsRow base e size v n xs)(hb:A<=base):w.ownsRow A e size v n xs:=by
 refine⟨h.1,?_⟩;rcases h.2 with E | ⟨g,cap,cur,B,h0,D⟩
 ·exact .inl E
 ·exact .inr ⟨g,cap,cur,B,by omega,D⟩
theorem vX{w:World}{base:Nat}{e:TypeId}{size:Nat}{v:Value}{n:Nat}{xs:List Value}(h:w.ownsRow base e size v n xs)(A:v≠.slice none 0 0):∃g cap,v=.slice (some ⟨g,0,none⟩) n cap:=by
 rcases h.2 with⟨B,_⟩ | ⟨g,cap,cur,rfl,_⟩
 ·exact absurd B A
 ·exact⟨g,cap,rfl⟩
end Go.Proofs.YtmgekibncmnmiaaGreatDoor
