/- Parts of the proof of the law TopKeeps: contracts of the functions that it reaches, and plain laws of what they compute. Conditions: those in each statement. -/
import Derived.Deep.Cut
import Derived.Deep.DeepCutAuto
import Derived.StillTailTactics
import Derived.Test.YtmgekibncmnmiaaGreatDoorChecked
import Derived.Test.YtmgekibncmnmiaaGreatDoorM05
set_option linter.unusedVariables false
set_option maxRecDepth 100000
set_option maxHeartbeats 4000000
open Go.Proofs.Tryz
namespace Go.Proofs.YtmgekibncmnmiaaGreatDoor
open Go Go.RowKit Go.ChangeShapes Go.WideShapes
theorem zI{P:Program}{id:Nat}{Q:Exit->Act->World->Prop}{a:Act}{w:World}{l:List Oper}(n:Nat)(hm:P.follows .mixedOrders=true)(D:Region.lexTailB .any l.toArray n=true)(A:World)(hw:A=w.drew)
 (h:wpStill P l.toArray A (fun B=>wpList P l.toArray Q (l.drop n) B A) (l.take n) a):(Code.region id l.toArray true).wp P Q a w:=by
 subst hw;exact wp_region_still_tail n hm D h
theorem zj3:(prog.info? 3).map (fun i=>(i.zero,i.size,i.bytes))=some (some (.int .i64 0),1,8):=by kernel_rfl
def iv(l:List Int):List Value:=l.map (Value.int .i64)
def bv(l:List Bool):List Value:=l.map Value.bool
theorem zv{B:Nat}{a w:World}(h:Below B a w):Below B a w.drew:=⟨h.os,h.tape,h.output,h.size,h.block⟩
theorem zk(w:World)(o:Obj):Below w.heap.size w (w.alloc o):=(Below.refl _ _).alloc (zg _) _
theorem zom{w:World}{base:Nat}{e:TypeId}{g c n:Nat}{l:List Int}(h:w.ownsRow base e 1 (.slice (some ⟨g,0,none⟩) n c) n (iv l))(hn:n=l.length)(k:Nat)(x:Int)(A:l[k]?=some x):w.cell? ⟨g,k,none⟩=some (.int .i64 x):=by have hl:=(ze A).1;rw[h.cellAt k (by omega),iv,List.getElem?_map,A];rfl
def Hx(w:World)(k:Nat)(i g:Int):Prop:=w.heap[k]?=some (.cells #[.int .i64 i,.int .i64 g] 78 (0,0))
theorem Hx.new(w:World)(i g:Int):Hx (w.alloc (.cells #[.int .i64 i,.int .i64 g] 78)) w.heap.size i g:=heap_alloc_new w _
theorem Hx.zrR(w:World)(o:Obj)(i g:Int):Hx ((w.alloc o).alloc (.cells #[.int .i64 i,.int .i64 g] 78)) (w.heap.size+1) i g:=by have:=heap_alloc_new (w.alloc o) (.cells #[.int .i64 i,.int .i64 g] 78);rw[show(w.alloc o).heap.size=w.heap.size+1 by simp]at this;exact this
theorem Hx.c2{w:World}{k:Nat}{i g:Int}(h:Hx w k i g):w.cell? ⟨k,0,none⟩=some (.int .i64 i)/\w.cell? ⟨k,1,none⟩=some (.int .i64 g):=by unfold Hx at h;constructor <;> simp[World.cell?,h]
theorem Hx.lt{w:World}{k:Nat}{i g:Int}(h:Hx w k i g):k<w.heap.size:=(zd h).1
theorem Hx.zpe{w:World}{k:Nat}{i g:Int}(h:Hx w k i g):∀j,w.frozen? ⟨k,j,none⟩=false:=by intro j;unfold Hx at h;simp[World.frozen?,h]
theorem Hx.behind{w w':World}{k:Nat}{i g:Int}(h:Hx w k i g)(hb:Below w.heap.size w w'):Hx w' k i g:=by unfold Hx;rw[hb.block k h.lt];exact h
theorem Hx.zpP{w:World}{k c o:Nat}{i g:Int}{u:Value}(h:Hx w k i g)(A:k≠c):Hx (w.setCell ⟨c,o,none⟩ u) k i g:=by unfold Hx;rw[Below.heap_setCell _ _ _ _ (by exact A)];exact h
theorem zoA{w:World}{base p:Nat}{e:TypeId}{v:Value}{n:Nat}{xs:List Value}{i g:Int}(h:w.ownsRow base e 1 v n xs)(x:Hx w p i g)(he:e≠78):v.ownBlock≠some p:=by
 rcases h.2 with⟨rfl,_⟩ | ⟨g,cap,cur,rfl,_,A,_⟩
 ·simp[Value.ownBlock]
 ·intro B;simp[Value.ownBlock]at B;subst B;unfold Hx at x;rw[x]at A;simp only[Option.some.injEq,Obj.cells.injEq]at A;exact he A.2.1.symm
end Go.Proofs.YtmgekibncmnmiaaGreatDoor
namespace Go.Proofs.YtmgekibncmnmiaaGreatDoor
open Go Go.RowKit Go.ChangeShapes Go.WideShapes
end Go.Proofs.YtmgekibncmnmiaaGreatDoor
