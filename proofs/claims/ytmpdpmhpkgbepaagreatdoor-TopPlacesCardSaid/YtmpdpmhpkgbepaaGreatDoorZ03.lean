/- Parts for TopPlaces. Conditions: as stated. -/
import Derived.Laws.AppendOwn
import Derived.Laws.CopyRow
import Derived.Laws.OwnMore
import Derived.Test.YtmpdpmhpkgbepaaGreatDoorZ01
set_option linter.unusedVariables false
set_option maxRecDepth 100000
set_option maxHeartbeats 4000000
open Go.Value renaming int->zd,pointer->ze,slice->zf,bool->zh
open Go.IntKind renaming i64->zj
open Go.Ending renaming returned->zm
open Option renaming some->zo,none->zp
open Go renaming World->zu,Calls->zw,Value->zz
open Go.World renaming cell?->zN
open List renaming getElem?_append_right->zV,replicate->ye
open Go.Proofs.Tryz
namespace Go.Proofs.YtmpdpmhpkgbepaaGreatDoor
open Go Go.RowKit Go.ChangeShapes Go.WideShapes
variable {w:zu}{e:TypeId}{v:zz}{n:Nat}{xs:List zz}
theorem Df{base:Nat}{A:Nat}{b:Nat}{o:Nat}{u:zz}(h:w.ownsRow base e A v n xs)(B:v.ownBlock≠zo b):(w.setCell ⟨b,o,zp⟩ u).ownsRow base e A v n xs:=by
 refine⟨h.1,?_⟩;rcases h.2 with I|⟨g,D,cur,E,hb,G,H⟩
 .exact .inl I
 .refine .inr ⟨g,D,cur,E,hb,?_,H⟩;rw[Below.heap_setCell _ _ _ _ (by rintro rfl;exact B (by rw[E];rfl))];exact G
theorem qQ{w':zu}{base:Nat}{A:Nat}(h:w.ownsRow base e A v n xs)(hb:Below w.heap.size w w'):w'.ownsRow base e A v n xs:=by
 refine⟨h.1,?_⟩;rcases h.2 with I|⟨g,D,cur,G,B,E,H⟩
 .exact .inl I
 .exact .inr ⟨g,D,cur,G,B,by rw[hb.block g (yx E).1];exact E,H⟩
theorem vV{base A:Nat}{B:Nat}(h:w.ownsRow base e B v n xs)(hb:A<=base):w.ownsRow A e B v n xs:=by
 refine⟨h.1,?_⟩;rcases h.2 with H|⟨g,D,cur,E,h0,G⟩
 .exact .inl H
 .exact .inr ⟨g,D,cur,E,by omega,G⟩
theorem Xe{base:Nat}{B:Nat}(h:w.ownsRow base e B v n xs)(D:v≠zf zp 0 0):∃g A,v=zf (zo ⟨g,0,zp⟩) n A:=by
 rcases h.2 with⟨E,_⟩|⟨g,A,cur,rfl,_⟩
 .exact absurd E D
 .exact⟨g,A,rfl⟩
end Go.Proofs.YtmpdpmhpkgbepaaGreatDoor
namespace Go.Proofs.YtmpdpmhpkgbepaaGreatDoor
namespace Qt
open Go Go.RowKit Go.ChangeShapes Go.WideShapes
structure Bd where
 q:Int
 s:Int
 pool:Int
 spent:Int
 l:List Int
def Bd.cells(p:Nat)(b:Bd):List zz:= [zd zj b.q,zd zj b.s,zd zj b.pool,zd zj b.spent]++(b.l.map (zd zj)++(ye (64-b.l.length) (zd zj 0)++ [zf (zo ⟨p,4,zp⟩) b.l.length 64]))
structure OC(w:zu)(p:Nat)(b:Bd):Prop where
 RO:w.heap[p]?=zo (.cells (b.cells p).toArray 128 (0,0))
 lo:1<=b.l.length
 hi:b.l.length<=64
theorem Bd.PG(p:Nat)(b:Bd)(h:b.l.length<=64):(b.cells p).length=69:=by simp[Bd.cells];omega
theorem Bd.eP(p:Nat)(b:Bd)(k:Nat)(h:k<b.l.length):(b.cells p)[4+k]?=zo (zd zj b.l[k]):=by unfold Bd.cells;rw[zV (by simp),List.getElem?_append_left (by simp<;>omega)];simp[h]
theorem Bd.dF(p:Nat)(b:Bd)(h:b.l.length<=64):(b.cells p)[68]?=zo (zf (zo ⟨p,4,zp⟩) b.l.length 64):=by
 unfold Bd.cells;rw[zV (by simp),zV (by simp<;>omega),zV (by simp<;>omega)];have e:68 - [zd zj b.q,zd zj b.s,zd zj b.pool,zd zj b.spent].length-(b.l.map (zd zj)).length-(ye (64-b.l.length) (zd zj 0)).length=0:=by simp<;>omega
 rw[e];rfl
theorem Bd.eQ(p:Nat)(b:Bd)(k:Nat)(n:Int)(h:k<b.l.length):(b.cells p).set (4+k) (zd zj n)=({ b with l:=b.l.set k n }:Bd).cells p:=by unfold Bd.cells;rw[List.set_append_right _ _ (by simp),List.set_append_left _ _ (by simp<;>omega)];simp
theorem OC.lt{w:zu}{p:Nat}{b:Bd}(h:OC w p b):p<w.heap.size:=(yx h.RO).1
theorem OC.cell{w:zu}{p:Nat}{b:Bd}(h:OC w p b):
 w.cell? ⟨p,0,zp⟩=zo (zd zj b.q)/\w.cell? ⟨p,1,zp⟩=zo (zd zj b.s)/\w.cell? ⟨p,2,zp⟩=zo (zd zj b.pool)/\w.cell? ⟨p,3,zp⟩=zo (zd zj b.spent)/\w.cell? ⟨p,68,zp⟩=zo (zf (zo ⟨p,4,zp⟩) b.l.length 64):=by
 have hb:=h.RO;have A:=Bd.dF p b h.hi;refine⟨?_,?_,?_,?_,?_⟩
 .simp[zN,hb,Bd.cells]
 .simp[zN,hb,Bd.cells]
 .simp[zN,hb,Bd.cells]
 .simp[zN,hb,Bd.cells]
 .simp only[zN,hb,List.getElem?_toArray,A];rfl
theorem OC.loc{w:zu}{p:Nat}{b:Bd}(h:OC w p b)(k:Nat)(hk:k<b.l.length):w.cell? ⟨p,4+k,zp⟩=zo (zd zj b.l[k]):=by have hb:=h.RO;simp only[zN,hb,List.getElem?_toArray,Bd.eP p b k hk];rfl
theorem OC.free{w:zu}{p:Nat}{b:Bd}(h:OC w p b)(i:Nat):w.frozen? ⟨p,i,zp⟩=false:=by have hb:=h.RO;simp[World.frozen?,hb]
theorem OC.q_{w:zu}{p:Nat}{b:Bd}(h:OC w p b)(n:Int):OC (w.setCell ⟨p,0,zp⟩ (zd zj n)) p { b with q:=n }:=⟨by rw[yD h.RO];rfl,h.lo,h.hi⟩
theorem OC.s_{w:zu}{p:Nat}{b:Bd}(h:OC w p b)(n:Int):OC (w.setCell ⟨p,1,zp⟩ (zd zj n)) p { b with s:=n }:=⟨by rw[yD h.RO];rfl,h.lo,h.hi⟩
theorem OC.dG{w:zu}{p:Nat}{b:Bd}(h:OC w p b)(n:Int):OC (w.setCell ⟨p,2,zp⟩ (zd zj n)) p { b with pool:=n }:=⟨by rw[yD h.RO];rfl,h.lo,h.hi⟩
theorem OC.bN{w:zu}{p:Nat}{b:Bd}(h:OC w p b)(n:Int):OC (w.setCell ⟨p,3,zp⟩ (zd zj n)) p { b with spent:=n }:=⟨by rw[yD h.RO];rfl,h.lo,h.hi⟩
theorem OC.gG{w:zu}{p:Nat}{b:Bd}(h:OC w p b)(k:Nat)(hk:k<b.l.length)(n:Int):OC (w.setCell ⟨p,4+k,zp⟩ (zd zj n)) p { b with l:=b.l.set k n }:=
 ⟨by rw[yD h.RO,List.setIfInBounds_toArray,Bd.eQ p b k n hk],by simpa using h.lo,by simpa using h.hi⟩
theorem OC.alloc{w:zu}{p:Nat}{b:Bd}(h:OC w p b)(o:Obj):OC (w.alloc o) p b:=⟨by rw[Below.heap_alloc w o p h.lt];exact h.RO,h.lo,h.hi⟩
theorem OC.drewN{w:zu}{p:Nat}{b:Bd}(h:OC w p b)(n:Nat):OC (w.drewN n) p b:=⟨h.RO,h.lo,h.hi⟩
theorem OC.kept{w w':zu}{p:Nat}{b:Bd}(h:OC w p b)(A:w'.heap[p]?=w.heap[p]?):OC w' p b:=⟨by rw[A];exact h.RO,h.lo,h.hi⟩
theorem OC.eF{w:zu}{p:Nat}{b:Bd}(h:OC w p b)(n:Nat)(D:n=b.l.length):
 OC (w.setRow p (((b.cells p).toArray.toList.take 4++ye n (zd zj 0)++(b.cells p).toArray.toList.drop (4+n)).toArray)) p { b with l:=ye n 0 }:=by
 subst D;have e:((b.cells p).toArray.toList.take 4++ye b.l.length (zd zj 0)++(b.cells p).toArray.toList.drop (4+b.l.length))=({ b with l:=ye b.l.length 0 }:Bd).cells p:=by
  unfold Bd.cells;have B:∀(a b c d:zz) (x y:List zz),List.drop (4+x.length) ([a,b,c,d]++(x++y))=y:=by intro a b c d x y;rw[Nat.add_comm,show x.length+4=([a,b,c,d]++x).length by simp,<-List.append_assoc,List.drop_left]
  have A:=B (zd zj b.q) (zd zj b.s) (zd zj b.pool) (zd zj b.spent) (b.l.map (zd zj)) (ye (64-b.l.length) (zd zj 0)++ [zf (zo { block:=p,off:=4 }) b.l.length 64]);rw[List.length_map]at A;rw[A];simp
 refine⟨?_,by simpa using h.lo,by simpa using h.hi⟩;rw[e];exact setRow_heap w p _ _ _ _ h.RO
end Qt
end Go.Proofs.YtmpdpmhpkgbepaaGreatDoor
namespace Go.Proofs.YtmpdpmhpkgbepaaGreatDoor
namespace Qt
open Go Go.RowKit Go.ChangeShapes Go.WideShapes
theorem Xo(k:Nat)(w:zu)(p:Nat)(b:Bd)(hb:OC w p b)(h:k<b.l.length):
 zw prog 152 #[ze (zo ⟨p,0,zp⟩),zd zj k] w fun e w'=>e=zm (zh true)/\w=w':=by
 obtain⟨D,E,A,B,c4⟩:=hb.cell;clear hb D E A B;go_enter func152,ntmps152;go_wp2;go_ret;exact⟨rfl,rfl⟩
theorem fC(w:zu):zw prog 28 #[ze zp] w fun e w'=>e=zm (zd zj 0)/\w=w':=by go_enter func28,ntmps28;go_wp2;go_ret;exact⟨rfl,rfl⟩
theorem dH(w:zu)(p:Nat)(b:Bd)(hb:OC w p b):zw prog 28 #[ze (zo ⟨p,0,zp⟩)] w fun e w'=>e=zm (zd zj b.pool)/\w=w':=by obtain⟨c0,c1,c2,c3,c4⟩:=hb.cell;clear hb;go_enter func28,ntmps28;go_wp2;go_ret;exact⟨rfl,rfl⟩
theorem eR(w:zu):zw prog 29 #[ze zp] w fun e w'=>e=zm (zd zj 0)/\w=w':=by go_enter func29,ntmps29;go_wp2;go_ret;exact⟨rfl,rfl⟩
theorem eS(w:zu)(p:Nat)(b:Bd)(hb:OC w p b):zw prog 29 #[ze (zo ⟨p,0,zp⟩)] w fun e w'=>e=zm (zd zj b.spent)/\w=w':=by obtain⟨c0,c1,c2,c3,c4⟩:=hb.cell;clear hb;go_enter func29,ntmps29;go_wp2;go_ret;exact⟨rfl,rfl⟩
theorem dI(w:zu):zw prog 83 #[ze zp] w fun e w'=>e=zm (zh false)/\w=w':=by go_enter func83,ntmps83;go_wp2;go_ret;exact⟨rfl,rfl⟩
theorem dJ(w:zu)(p:Nat)(b:Bd)(hb:OC w p b):zw prog 83 #[ze (zo ⟨p,0,zp⟩)] w fun e w'=>e=zm (zh (decide (0<b.q)))/\w=w':=by obtain⟨c0,c1,c2,c3,c4⟩:=hb.cell;clear hb;go_enter func83,ntmps83;go_wp2;go_ret;exact⟨rfl,rfl⟩
theorem Se(k:Nat)(w:zu)(p:Nat)(b:Bd)(hb:OC w p b)(h:k<b.l.length)(A:b.q=0):zw prog 107 #[ze (zo ⟨p,0,zp⟩),zd zj k] w fun e w'=>e=zm (zh true)/\w=w':=by obtain⟨D,c1,c2,c3,c4⟩:=hb.cell;rw[A]at D;have B:=yw hb;clear hb A;go_enter func107,ntmps107;go_wp2_with (go_at_call 152;refine(Xo _ _ _ _ B.out h).mono ?_;rintro e w1 ⟨rfl,rfl⟩);go_ret;exact⟨rfl,rfl⟩
theorem QT(k:Nat)(o:Int)(w:zu)(p:Nat)(b:Bd)(hb:OC w p b)(h:b.l[k]?=zo o)(hq:0<b.q)(ho:0<o):zw prog 107 #[ze (zo ⟨p,0,zp⟩),zd zj k] w fun e w'=>e=zm (zh true)/\w=w':=by obtain⟨c0,c1,c2,c3,c4⟩:=hb.cell;obtain⟨hk,rfl⟩:=yy h;have hl:=hb.loc k hk;have h0:(b.q == 0)=false:=beq_eq_false_iff_ne.2 (by omega);have A:=yw hb;clear hb h;go_enter func107,ntmps107;go_wp2_with (go_at_call 152;refine(Xo _ _ _ _ A.out hk).mono ?_;rintro e w1 ⟨rfl,rfl⟩);go_ret;exact⟨rfl,rfl⟩
end Qt
end Go.Proofs.YtmpdpmhpkgbepaaGreatDoor
