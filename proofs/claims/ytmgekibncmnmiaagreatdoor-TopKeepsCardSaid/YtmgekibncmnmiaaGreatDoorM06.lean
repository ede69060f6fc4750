/- Parts of the proof of the law TopKeeps: contracts of the functions that it reaches, and plain laws of what they compute. Conditions: those in each statement. -/
import Derived.Laws.CopyRow
import Derived.Test.YtmgekibncmnmiaaGreatDoorChecked
import Derived.Test.YtmgekibncmnmiaaGreatDoorM02
set_option linter.unusedVariables false
set_option maxRecDepth 100000
set_option maxHeartbeats 4000000
open Go.Proofs.Tryz
namespace Go.Proofs.YtmgekibncmnmiaaGreatDoor
namespace Qt
open Go Go.RowKit Go.ChangeShapes Go.WideShapes
structure Bd where
 q:Int
 s:Int
 pool:Int
 spent:Int
 l:List Int
def Bd.cells(p:Nat)(b:Bd):List Value:= [.int .i64 b.q,.int .i64 b.s,.int .i64 b.pool,.int .i64 b.spent]++(b.l.map (Value.int .i64)++(List.replicate (64-b.l.length) (.int .i64 0)++ [.slice (some ⟨p,4,none⟩) b.l.length 64]))
structure zo9(w:World)(p:Nat)(b:Bd):Prop where
 zp5:w.heap[p]?=some (.cells (b.cells p).toArray 128 (0,0))
 lo:1<=b.l.length
 hi:b.l.length<=64
theorem Bd.zpw(p:Nat)(b:Bd)(h:b.l.length<=64):(b.cells p).length=69:=by simp[Bd.cells];omega
theorem Bd.zsy(p:Nat)(b:Bd)(k:Nat)(h:k<b.l.length):(b.cells p)[4+k]?=some (.int .i64 b.l[k]):=by unfold Bd.cells;rw[List.getElem?_append_right (by simp),List.getElem?_append_left (by simp <;> omega)];simp[h]
theorem Bd.zr3(p:Nat)(b:Bd)(h:b.l.length<=64):(b.cells p)[68]?=some (.slice (some ⟨p,4,none⟩) b.l.length 64):=by
 unfold Bd.cells;rw[List.getElem?_append_right (by simp),List.getElem?_append_right (by simp <;> omega),List.getElem?_append_right (by simp <;> omega)];have e:68 - [Value.int .i64 b.q,.int .i64 b.s,.int .i64 b.pool,.int .i64 b.spent].length-(b.l.map (Value.int .i64)).length-(List.replicate (64-b.l.length) (Value.int .i64 0)).length=0:=by simp <;> omega
 rw[e];rfl
theorem Bd.zsz(p:Nat)(b:Bd)(k:Nat)(n:Int)(h:k<b.l.length):(b.cells p).set (4+k) (.int .i64 n)=({ b with l:=b.l.set k n }:Bd).cells p:=by unfold Bd.cells;rw[List.set_append_right _ _ (by simp),List.set_append_left _ _ (by simp <;> omega)];simp
theorem zo9.lt{w:World}{p:Nat}{b:Bd}(h:zo9 w p b):p<w.heap.size:=(zd h.zp5).1
theorem zo9.cell{w:World}{p:Nat}{b:Bd}(h:zo9 w p b):
 w.cell? ⟨p,0,none⟩=some (.int .i64 b.q)/\w.cell? ⟨p,1,none⟩=some (.int .i64 b.s)/\w.cell? ⟨p,2,none⟩=some (.int .i64 b.pool)/\w.cell? ⟨p,3,none⟩=some (.int .i64 b.spent)/\w.cell? ⟨p,68,none⟩=some (.slice (some ⟨p,4,none⟩) b.l.length 64):=by
 have hb:=h.zp5;have A:=Bd.zr3 p b h.hi;refine⟨?_,?_,?_,?_,?_⟩
 ·simp[World.cell?,hb,Bd.cells]
 ·simp[World.cell?,hb,Bd.cells]
 ·simp[World.cell?,hb,Bd.cells]
 ·simp[World.cell?,hb,Bd.cells]
 ·simp only[World.cell?,hb,List.getElem?_toArray,A];rfl
theorem zo9.loc{w:World}{p:Nat}{b:Bd}(h:zo9 w p b)(k:Nat)(A:k<b.l.length):w.cell? ⟨p,4+k,none⟩=some (.int .i64 b.l[k]):=by have hb:=h.zp5;simp only[World.cell?,hb,List.getElem?_toArray,Bd.zsy p b k A];rfl
theorem zo9.free{w:World}{p:Nat}{b:Bd}(h:zo9 w p b)(i:Nat):w.frozen? ⟨p,i,none⟩=false:=by have hb:=h.zp5;simp[World.frozen?,hb]
theorem zo9.q_{w:World}{p:Nat}{b:Bd}(h:zo9 w p b)(n:Int):zo9 (w.setCell ⟨p,0,none⟩ (.int .i64 n)) p { b with q:=n }:=⟨by rw[zi h.zp5];rfl,h.lo,h.hi⟩
theorem zo9.s_{w:World}{p:Nat}{b:Bd}(h:zo9 w p b)(n:Int):zo9 (w.setCell ⟨p,1,none⟩ (.int .i64 n)) p { b with s:=n }:=⟨by rw[zi h.zp5];rfl,h.lo,h.hi⟩
theorem zo9.zr4{w:World}{p:Nat}{b:Bd}(h:zo9 w p b)(n:Int):zo9 (w.setCell ⟨p,2,none⟩ (.int .i64 n)) p { b with pool:=n }:=⟨by rw[zi h.zp5];rfl,h.lo,h.hi⟩
theorem zo9.zrv{w:World}{p:Nat}{b:Bd}(h:zo9 w p b)(n:Int):zo9 (w.setCell ⟨p,3,none⟩ (.int .i64 n)) p { b with spent:=n }:=⟨by rw[zi h.zp5];rfl,h.lo,h.hi⟩
theorem zo9.zs6{w:World}{p:Nat}{b:Bd}(h:zo9 w p b)(k:Nat)(A:k<b.l.length)(n:Int):zo9 (w.setCell ⟨p,4+k,none⟩ (.int .i64 n)) p { b with l:=b.l.set k n }:=
 ⟨by rw[zi h.zp5,List.setIfInBounds_toArray,Bd.zsz p b k n A],by simpa using h.lo,by simpa using h.hi⟩
theorem zo9.alloc{w:World}{p:Nat}{b:Bd}(h:zo9 w p b)(o:Obj):zo9 (w.alloc o) p b:=⟨by rw[Below.heap_alloc w o p h.lt];exact h.zp5,h.lo,h.hi⟩
theorem zo9.drewN{w:World}{p:Nat}{b:Bd}(h:zo9 w p b)(n:Nat):zo9 (w.drewN n) p b:=⟨h.zp5,h.lo,h.hi⟩
theorem zo9.kept{w w':World}{p:Nat}{b:Bd}(h:zo9 w p b)(hp:w'.heap[p]?=w.heap[p]?):zo9 w' p b:=⟨by rw[hp];exact h.zp5,h.lo,h.hi⟩
theorem zo9.zss{w:World}{p:Nat}{b:Bd}(h:zo9 w p b)(n:Nat)(D:n=b.l.length):
 zo9 (w.setRow p (((b.cells p).toArray.toList.take 4++List.replicate n (Value.int .i64 0)++(b.cells p).toArray.toList.drop (4+n)).toArray)) p { b with l:=List.replicate n 0 }:=by
 subst D;have e:((b.cells p).toArray.toList.take 4++List.replicate b.l.length (Value.int .i64 0)++(b.cells p).toArray.toList.drop (4+b.l.length))=({ b with l:=List.replicate b.l.length 0 }:Bd).cells p:=by
  unfold Bd.cells;have B:∀(a b c d:Value) (x y:List Value),List.drop (4+x.length) ([a,b,c,d]++(x++y))=y:=by intro a b c d x y;rw[Nat.add_comm,show x.length+4=([a,b,c,d]++x).length by simp,<-List.append_assoc,List.drop_left]
  have A:=B (.int .i64 b.q) (.int .i64 b.s) (.int .i64 b.pool) (.int .i64 b.spent) (b.l.map (Value.int .i64)) (List.replicate (64-b.l.length) (Value.int .i64 0)++ [Value.slice (some { block:=p,off:=4 }) b.l.length 64]);rw[List.length_map]at A;rw[A];simp
 refine⟨?_,by simpa using h.lo,by simpa using h.hi⟩;rw[e];exact setRow_heap w p _ _ _ _ h.zp5
end Qt
end Go.Proofs.YtmgekibncmnmiaaGreatDoor
namespace Go.Proofs.YtmgekibncmnmiaaGreatDoor
namespace Qt
open Go Go.RowKit Go.ChangeShapes Go.WideShapes
theorem uk(k:Nat)(w:World)(p:Nat)(b:Bd)(hb:zo9 w p b)(h:k<b.l.length):
 Calls prog 152 #[.pointer (some ⟨p,0,none⟩),.int .i64 k] w fun e w'=>e=.returned (.bool true)/\w=w':=by
 obtain⟨c0,A,c2,c3,c4⟩:=hb.cell;have hp:=hb.lt;clear hb c0 A c2 c3;go_enter func152,ntmps152;go_wp2;go_ret;exact⟨rfl,rfl⟩
theorem zsN(w:World):Calls prog 28 #[.pointer none] w fun e w'=>e=.returned (.int .i64 0)/\w=w':=by go_enter func28,ntmps28;go_wp2;go_ret;exact⟨rfl,rfl⟩
theorem zr5(w:World)(p:Nat)(b:Bd)(hb:zo9 w p b):Calls prog 28 #[.pointer (some ⟨p,0,none⟩)] w fun e w'=>e=.returned (.int .i64 b.pool)/\w=w':=by obtain⟨c0,c1,c2,c3,c4⟩:=hb.cell;have hp:=hb.lt;clear hb;go_enter func28,ntmps28;go_wp2;go_ret;exact⟨rfl,rfl⟩
theorem zsA(w:World):Calls prog 29 #[.pointer none] w fun e w'=>e=.returned (.int .i64 0)/\w=w':=by go_enter func29,ntmps29;go_wp2;go_ret;exact⟨rfl,rfl⟩
theorem zsB(w:World)(p:Nat)(b:Bd)(hb:zo9 w p b):Calls prog 29 #[.pointer (some ⟨p,0,none⟩)] w fun e w'=>e=.returned (.int .i64 b.spent)/\w=w':=by obtain⟨c0,c1,c2,c3,c4⟩:=hb.cell;have hp:=hb.lt;clear hb;go_enter func29,ntmps29;go_wp2;go_ret;exact⟨rfl,rfl⟩
theorem zr6(w:World):Calls prog 83 #[.pointer none] w fun e w'=>e=.returned (.bool false)/\w=w':=by go_enter func83,ntmps83;go_wp2;go_ret;exact⟨rfl,rfl⟩
theorem zr7(w:World)(p:Nat)(b:Bd)(hb:zo9 w p b):Calls prog 83 #[.pointer (some ⟨p,0,none⟩)] w fun e w'=>e=.returned (.bool (decide (0<b.q)))/\w=w':=by obtain⟨c0,c1,c2,c3,c4⟩:=hb.cell;have hp:=hb.lt;clear hb;go_enter func83,ntmps83;go_wp2;go_ret;exact⟨rfl,rfl⟩
theorem zgy(k:Nat)(w:World)(p:Nat)(b:Bd)(hb:zo9 w p b)(h:k<b.l.length)(A:b.q=0):Calls prog 107 #[.pointer (some ⟨p,0,none⟩),.int .i64 k] w fun e w'=>e=.returned (.bool true)/\w=w':=by obtain⟨c0,c1,c2,c3,c4⟩:=hb.cell;rw[A]at c0;have hp:=hb.lt;have B:=zc hb;clear hb A;go_enter func107,ntmps107;go_wp2_with (go_at_call 152;refine(uk _ _ _ _ B.out h).mono ?_;rintro e w1 ⟨rfl,rfl⟩);go_ret;exact⟨rfl,rfl⟩
theorem zif(k:Nat)(o:Int)(w:World)(p:Nat)(b:Bd)(hb:zo9 w p b)(h:b.l[k]?=some o)(hq:0<b.q)(ho:0<o):Calls prog 107 #[.pointer (some ⟨p,0,none⟩),.int .i64 k] w fun e w'=>e=.returned (.bool true)/\w=w':=by obtain⟨c0,c1,c2,c3,c4⟩:=hb.cell;obtain⟨A,rfl⟩:=ze h;have hl:=hb.loc k A;have hp:=hb.lt;have hi:=hb.hi;have h0:(b.q == 0)=false:=beq_eq_false_iff_ne.2 (by omega);have B:=zc hb;clear hb h;go_enter func107,ntmps107;go_wp2_with (go_at_call 152;refine(uk _ _ _ _ B.out A).mono ?_;rintro e w1 ⟨rfl,rfl⟩);go_ret;exact⟨rfl,rfl⟩
end Qt
end Go.Proofs.YtmgekibncmnmiaaGreatDoor
