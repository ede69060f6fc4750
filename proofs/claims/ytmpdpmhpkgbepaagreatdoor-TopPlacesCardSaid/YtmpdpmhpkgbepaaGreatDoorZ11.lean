/- Parts for TopPlaces. Conditions: as stated. -/
import Derived.Deep.Cut
import Derived.Deep.DeepCutAuto
import Derived.StillTailTactics
import Derived.Test.YtmpdpmhpkgbepaaGreatDoorZ03
set_option linter.unusedVariables false
set_option maxRecDepth 100000
set_option maxHeartbeats 4000000
open Go.Value renaming int->zd,ownBlock->zX
open Go.Proofs.Tryz
namespace Go.Proofs.YtmpdpmhpkgbepaaGreatDoor
open Go Go.RowKit Go.ChangeShapes Go.WideShapes
variable {w:World}{k:Nat}{i g:Int}
theorem xd{P:Program}{id:Nat}{Q:Exit->Act->World->Prop}{a:Act}{l:List Oper}(n:Nat)(D:P.follows .mixedOrders=true)(G:Region.lexTailB .any l.toArray n=true)(A:World)(B:A=w.drew)
 (h:wpStill P l.toArray A (fun E=>wpList P l.toArray Q (l.drop n) E A) (l.take n) a):(Code.region id l.toArray true).wp P Q a w:=by
 subst B;exact wp_region_still_tail n D G h
theorem WF:(prog.info? 3).map (fun i=>(i.zero,i.size,i.bytes))=some (some (zd .i64 0),1,8):=by kernel_rfl
def iv(l:List Int):List Value:=l.map (zd .i64)
def bv(l:List Bool):List Value:=l.map Value.bool
theorem yI{B:Nat}{a:World}(h:Below B a w):Below B a w.drew:=⟨h.os,h.tape,h.output,h.size,h.block⟩
theorem yE(w:World)(o:Obj):Below w.heap.size w (w.alloc o):=(Below.refl _ _).alloc (yA _) _
theorem MG{base:Nat}{e:TypeId}{g c n:Nat}{l:List Int}(h:w.ownsRow base e 1 (.slice (some ⟨g,0,none⟩) n c) n (iv l))(hn:n=l.length)(k:Nat)(x:Int)(hk:l[k]?=some x):w.cell? ⟨g,k,none⟩=some (zd .i64 x):=by have hl:=(yy hk).1;rw[h.cellAt k (by omega),iv,List.getElem?_map,hk];rfl
def Hx(w:World)(k:Nat)(i g:Int):Prop:=w.heap[k]?=some (.cells #[zd .i64 i,zd .i64 g] 78 (0,0))
theorem Hx.new(w:World)(i g:Int):Hx (w.alloc (.cells #[zd .i64 i,zd .i64 g] 78)) w.heap.size i g:=heap_alloc_new w _
theorem Hx.AP(w:World)(o:Obj)(i g:Int):Hx ((w.alloc o).alloc (.cells #[zd .i64 i,zd .i64 g] 78)) (w.heap.size+1) i g:=by have:=heap_alloc_new (w.alloc o) (.cells #[zd .i64 i,zd .i64 g] 78);rw[show(w.alloc o).heap.size=w.heap.size+1 by simp]at this;exact this
theorem Hx.c2(h:Hx w k i g):w.cell? ⟨k,0,none⟩=some (zd .i64 i)/\w.cell? ⟨k,1,none⟩=some (zd .i64 g):=by unfold Hx at h;constructor<;>simp[World.cell?,h]
theorem Hx.lt(h:Hx w k i g):k<w.heap.size:=(yx h).1
theorem Hx.OH(h:Hx w k i g):∀j,w.frozen? ⟨k,j,none⟩=false:=by intro j;unfold Hx at h;simp[World.frozen?,h]
theorem Hx.behind{w':World}(h:Hx w k i g)(hb:Below w.heap.size w w'):Hx w' k i g:=by unfold Hx;rw[hb.block k h.lt];exact h
theorem Hx.PR{c o:Nat}{u:Value}(h:Hx w k i g)(A:k≠c):Hx (w.setCell ⟨c,o,none⟩ u) k i g:=by unfold Hx;rw[Below.heap_setCell _ _ _ _ (by exact A)];exact h
theorem MT{base p:Nat}{e:TypeId}{v:Value}{n:Nat}{E:List Value}(h:w.ownsRow base e 1 v n E)(x:Hx w p i g)(D:e≠78):v.ownBlock≠some p:=by
 rcases h.2 with⟨rfl,_⟩|⟨g,h0,cur,rfl,_,A,_⟩
 .simp[zX]
 .intro B;simp[zX]at B;subst B;unfold Hx at x;rw[x]at A;simp only[Option.some.injEq,Obj.cells.injEq]at A;exact D A.2.1.symm
end Go.Proofs.YtmpdpmhpkgbepaaGreatDoor
namespace Go.Proofs.YtmpdpmhpkgbepaaGreatDoor
open Go Go.RowKit Go.ChangeShapes Go.WideShapes
end Go.Proofs.YtmpdpmhpkgbepaaGreatDoor
