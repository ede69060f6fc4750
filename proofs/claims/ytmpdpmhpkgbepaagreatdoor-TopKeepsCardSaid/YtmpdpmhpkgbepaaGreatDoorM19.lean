/- Parts of the proof of the law TopKeeps: contracts of the functions that it reaches, and plain laws of what they compute. Conditions: those in each statement. -/
import Derived.Deep.Cut
import Derived.Deep.DeepCutAuto
import Derived.Lib.MinMax
import Derived.Outline
import Derived.RegionTactic
import Derived.WalkLawsBesides
import Derived.Test.YtmpdpmhpkgbepaaGreatDoorM01
import Derived.Test.YtmpdpmhpkgbepaaGreatDoorM06
set_option linter.unusedVariables false
set_option maxRecDepth 100000
set_option maxHeartbeats 4000000
open Go.Proofs.Tryz
namespace Go.Proofs.YtmpdpmhpkgbepaaGreatDoor
namespace Qt
open Go Go.RowKit Go.ChangeShapes Go.WideShapes
structure Bd.Small(b:Bd):Prop where
 q:0<=b.q/\b.q<=1099511627776
 s:0<=b.s/\b.s<=1099511627776
 pool:0<=b.pool/\b.pool<=1125899906842624
 spent:0<=b.spent/\b.spent<=1125899906842624
 l:∀x∈b.l,-1125899906842624<=x/\x<=1099511627776
theorem Bd.Small.loc{b:Bd}(h:b.Small){k:Nat}{o:Int}(A:b.l[k]?=some o): -1125899906842624<=o/\o<=1099511627776:=h.l o (List.mem_of_getElem? A)
def Bd.take(b:Bd)(o:Int):Int:=min b.pool (b.s-o)
def Bd.taken(b:Bd)(k:Nat)(o:Int):Bd:={ b with pool:=b.pool-b.take o,l:=b.l.set k (o+b.take o) }
theorem zgz(k:Nat)(o:Int)(w:World)(p:Nat)(b:Bd)(hb:zo9 w p b)(hs:b.Small)(h:b.l[k]?=some o)(hq:0<b.q)(ho:o<=0):
 Calls prog 107 #[.pointer (some ⟨p,0,none⟩),.int .i64 k] w fun e w'=>e=.returned (.bool (decide (0<o+b.take o)))/\zo9 w' p (b.taken k o)/\zo8 (· =p) w w':=by
 obtain⟨c0,c1,c2,c3,c4⟩:=hb.cell;obtain⟨B,A⟩:=ze h;have E:=hb.loc k B;rw[A]at E;have hp:=hb.lt;have hi:=hb.hi;have h2:=hb.free 2;have h1:=hb.free (4+k);have h0:(b.q == 0)=false:=beq_eq_false_iff_ne.2 (by omega);obtain⟨o1,o2⟩:=hs.loc h;obtain⟨s1,s2⟩:=hs.s;obtain⟨p1,p2⟩:=hs.pool;have D:=zc hb;unfold Bd.taken Bd.take;clear hb h A;go_enter func107,ntmps107;go_wp2_with (go_at_call 152;refine(uk _ _ _ _ D.out B).mono ?_;rintro e w1 ⟨rfl,rfl⟩);go_quiet (fail);go_wp2;go_ret;refine⟨rfl,((D.out.drewN nq).zs6 k B (o+min b.pool (b.s-o))).zr4 (b.pool-min b.pool (b.s-o)),?_⟩
 exact zo8.setCell (F:=(· =p)) (zo8.setCell (F:=(· =p)) ((zo8.refl _ _).drewN nq) (.inl rfl) _) (.inl rfl) _
def Bd.may(b:Bd)(o:Int):Bool:=if b.q=0 then true else if 0<o then true else decide (0<o+b.take o)
def Bd.zqv(b:Bd)(k:Nat)(o:Int):Bd:=if b.q=0 then b else if 0<o then b else b.taken k o
theorem zqG(k:Nat)(o:Int)(w:World)(p:Nat)(b:Bd)(hb:zo9 w p b)(hs:b.Small)(h:b.l[k]?=some o):
 Calls prog 107 #[.pointer (some ⟨p,0,none⟩),.int .i64 k] w fun e w'=>e=.returned (.bool (b.may o))/\zo9 w' p (b.zqv k o)/\zo8 (· =p) w w':=by
 have E:=(ze h).1;unfold Bd.may Bd.zqv;by_cases B:b.q=0
 ·rw[if_pos B,if_pos B];exact(zgy k w p b hb E B).mono fun e w' ⟨he,hw⟩=>⟨he,hw▸hb,hw▸zo8.refl _ _⟩
 ·have D:0<b.q:=by have:=hs.q;omega
  rw[if_neg B,if_neg B];by_cases A:0<o
  ·rw[if_pos A,if_pos A];exact(zif k o w p b hb h D A).mono fun e w' ⟨he,hw⟩=>⟨he,hw▸hb,hw▸zo8.refl _ _⟩
  ·rw[if_neg A,if_neg A];exact zgz k o w p b hb hs h D (by omega)
def Bd.back(b:Bd)(k:Nat)(o:Int):Bd:={ b with pool:=b.pool+max o 0,l:=b.l.set k (o-max o 0) }
theorem zsE(k:Nat)(o:Int)(w:World)(p:Nat)(b:Bd)(hb:zo9 w p b)(hs:b.Small)(h:b.l[k]?=some o):
 Calls prog 106 #[.pointer (some ⟨p,0,none⟩),.int .i64 k] w fun e w'=>e=.returned (.tuple #[])/\zo9 w' p (b.back k o)/\zo8 (· =p) w w':=by
 obtain⟨c0,c1,c2,c3,c4⟩:=hb.cell;obtain⟨B,A⟩:=ze h;have E:=hb.loc k B;rw[A]at E;have hp:=hb.lt;have hi:=hb.hi;have h1:=hb.free 2;have h0:=hb.free (4+k);obtain⟨o1,o2⟩:=hs.loc h;obtain⟨p1,p2⟩:=hs.pool;have D:=zc hb;unfold Bd.back;clear hb h A;go_enter func106,ntmps106;go_wp2_with (go_at_call 152;refine(uk _ _ _ _ D.out B).mono ?_;rintro e w1 ⟨rfl,rfl⟩);go_end0;refine⟨rfl,(D.out.zr4 (b.pool+max o 0)).zs6 k B (o-max o 0),?_⟩;exact zo8.setCell (F:=(· =p)) (zo8.setCell (F:=(· =p)) (zo8.refl _ _) (.inl rfl) _) (.inl rfl) _
def z69:Array Value:=(List.replicate 68 (Value.int .i64 0)++ [Value.slice none 0 0]).toArray
theorem znL(w:World):(zeroValue 128).run prog w=.ok (.agg z69) w:=by kernel_rfl
theorem zoz:z69[68]?=some (.slice none 0 0):=by kernel_rfl
theorem zmk(p ps:Nat)(h2:ps<=64):z69.setIfInBounds 68 (.slice (some ⟨p,4,none⟩) ps 64)=(({ q:=0,s:=0,pool:=0,spent:=0,l:=List.replicate ps 0 }:Bd).cells p).toArray:=by
 have e:List.replicate 68 (Value.int .i64 0)= [.int .i64 0,.int .i64 0,.int .i64 0,.int .i64 0]++(List.replicate ps (Value.int .i64 0)++List.replicate (64-ps) (Value.int .i64 0)):=by rw[List.replicate_append_replicate,show ps+(64-ps)=64 by omega];rfl
 unfold z69 Bd.cells;rw[List.setIfInBounds_toArray,List.set_append_right _ _ (by simp)];simp only[List.length_replicate,Nat.sub_self,List.set_cons_zero,List.map_replicate];rw[e];simp only[List.append_assoc]
theorem zq8(ps:Nat)(w:World)(B:1<=ps)(A:ps<=64):
 Calls prog 74 #[.int .i64 ps] w fun e w'=>e=.returned (.tuple #[.pointer (some ⟨w.heap.size,0,none⟩),.int .i64 0])/\zo9 w' w.heap.size ⟨0,0,0,0,List.replicate ps 0⟩/\Below w.heap.size w w':=by
 have hz:=znL;have h0:=zoz;go_enter func74,ntmps74;go_wp2;go_ret2;refine⟨rfl,⟨?_,by simpa using B,by simpa using A⟩,(Below.refl _ _).alloc (zg _) _⟩;rw[heap_alloc_new w _,zmk _ _ A]
end Qt
end Go.Proofs.YtmpdpmhpkgbepaaGreatDoor
namespace Go.Proofs.YtmpdpmhpkgbepaaGreatDoor
namespace Qt
open Go Go.RowKit Go.ChangeShapes Go.WideShapes
def zp2(q s:Int):Prop:=q<0∨1099511627776<q∨(q≠0/\(s<1∨1099511627776<s))
theorem zta(q s:Int)(w:World)(p:Nat)(h:zp2 q s):Calls prog 80 #[.pointer (some ⟨p,0,none⟩),.int .i64 q,.int .i64 s] w fun e w'=>e=.returned (.int .i64 1)/\w=w':=by
 by_cases h1:q<0
 ·clear h;go_enter func80,ntmps80;go_wp2;go_ret;exact⟨rfl,rfl⟩
 ·by_cases h2:1099511627776<q
  ·clear h;go_enter func80,ntmps80;go_wp2;go_ret;exact⟨rfl,rfl⟩
  ·have A:q≠0/\(s<1∨1099511627776<s):=by
    rcases h with h | h | h
    ·omega
    ·omega
    ·exact h
   obtain⟨B,A⟩:=A;have h0:(q == 0)=false:=beq_eq_false_iff_ne.2 B;clear h B;rcases A with A | A
   ·go_enter func80,ntmps80;go_wp2;go_ret;exact⟨rfl,rfl⟩
   ·go_enter func80,ntmps80;go_wp2;go_ret;exact⟨rfl,rfl⟩
theorem zml(w:World):(zeroValue 2).run prog w=.ok (.int .i64 0) w:=by kernel_rfl
theorem zdl(T:TypeId)(w:World)(p:Nat)(b:Bd)(hb:zo9 w p b):(Builtin.clear_ #[126] T #[.slice (some ⟨p,4,none⟩) b.l.length 64]).run prog w=
 .ok (.tuple #[]) (w.setRow p (((b.cells p).toArray.toList.take 4++List.replicate b.l.length (Value.int .i64 0)++(b.cells p).toArray.toList.drop (4+b.l.length)).toArray)):=by
 have A:=run_storeCells_at prog p 4 128 (List.replicate b.l.length (Value.int .i64 0)) 0 (b.cells p).toArray w hb.zp5 (by have:=hb.hi;simp[Bd.zpw p b hb.hi];omega) (by intro v D;rw[List.eq_of_mem_replicate D];rfl);have h0:=hb.lo;obtain⟨n,E⟩:∃n,b.l.length=n+1:=⟨b.l.length-1,by omega⟩
 have G:=zml w;have B:Builtin.zeroCells #[Value.int .i64 0] b.l.length=(List.replicate b.l.length (Value.int .i64 0)).toArray:=by
  have e:(fun i:Nat=>(#[Value.int .i64 0])[i%(#[Value.int .i64 0]).size]!)=fun _=>Value.int .i64 0:=by funext i;simp[Nat.mod_one]
  unfold Builtin.zeroCells;rw[e];exact Array.ext (by simp) (by intros;simp)
 simp only[List.length_replicate,Nat.add_zero]at A;rw[E]at A B ⊢;simp[Builtin.clear_,run_underlying underlying126,G,Value.cells,B,A]
end Qt
open Go Go.RowKit Go.ChangeShapes Go.WideShapes Qt in
theorem zo8.setRow{F:Nat->Prop}{a w:World}(h:zo8 F a w){g:Nat}(A:F g∨a.heap.size<=g)(cs:Array Value):zo8 F a (w.setRow g cs):=
 ⟨h.os,h.tape,h.output,by simpa using h.size,fun k D B=>by rw[setRow_other w g k cs (by rintro rfl;rcases A with A | A;exact B A;omega)];exact h.block k D B⟩
namespace Qt
open Go Go.RowKit Go.ChangeShapes Go.WideShapes
def Bd.zqs(b:Bd)(q s:Int):Bd:=⟨q,if q=0 then 0 else s,q,0,List.replicate b.l.length 0⟩
theorem ztt(q s:Int)(w:World)(p:Nat)(b:Bd)(hb:zo9 w p b)(h:¬zp2 q s):
 Calls prog 80 #[.pointer (some ⟨p,0,none⟩),.int .i64 q,.int .i64 s] w fun e w'=>e=.returned (.int .i64 0)/\zo9 w' p (b.zqs q s)/\zo8 (· =p) w w':=by
 obtain⟨c0,d,c2,c3,c4⟩:=hb.cell;have hp:=hb.lt;have U:=hb.free 0;have Y:=hb.free 1;have X:=hb.free 2;have O:=hb.free 3;have c:=zc hb;have a:0<=q:=by unfold zp2 at h;omega
 have Z:q<=1099511627776:=by unfold zp2 at h;omega
 unfold Bd.zqs;by_cases R:q=0
 ·rw[if_pos R];subst R;clear hb h a Z;go_enter func80,ntmps80;go_upto_region 9 with(fail)
  obtain⟨E,D⟩:=zh ((((w.setCell ⟨p,0,none⟩ (.int .i64 0)).setCell ⟨p,1,none⟩ (.int .i64 0)).setCell ⟨p,2,none⟩ (.int .i64 0)).setCell ⟨p,3,none⟩ (.int .i64 0))
  rw[<-D];have A:zo9 E p ⟨0,0,0,0,b.l⟩:=by rw[D];exact(((c.out.q_ 0).s_ 0).zr4 0).zrv 0
  have G:zo8 (· =p) w E:=by rw[D];exact zo8.setCell (F:=(· =p)) (zo8.setCell (F:=(· =p)) (zo8.setCell (F:=(· =p)) (zo8.setCell (F:=(· =p)) (zo8.refl _ _) (.inl rfl) _) (.inl rfl) _) (.inl rfl) _) (.inl rfl) _
  have zre:=fun T=>zdl T E p _ A;have V:=A.lt;have c5:=A.cell.2.2.2.2;obtain⟨J,B⟩:=zh (E.setRow p ((((⟨0,0,0,0,b.l⟩:Bd).cells p).toArray.toList.take 4++List.replicate b.l.length (Value.int .i64 0)++((⟨0,0,0,0,b.l⟩:Bd).cells p).toArray.toList.drop (4+b.l.length)).toArray))
  have I:zo9 J p ⟨0,0,0,0,List.replicate b.l.length 0⟩:=by rw[B];exact A.zss b.l.length rfl
  have H:zo8 (· =p) w J:=by rw[B];exact zo8.setRow (F:=(· =p)) G (.inl rfl) _
  rw[<-B]at zre;have M:=zc I;have N:=zc H;clear D B I H A G c0 d c2 c3 c4 U Y X O;go_wp2;go_ret;exact⟨rfl,M.out,N.out⟩
 ·rw[if_neg R];have h0:1<=s:=by unfold zp2 at h;omega
  have h2:s<=1099511627776:=by unfold zp2 at h;omega
  have h1:(q == 0)=false:=beq_eq_false_iff_ne.2 R;clear hb h R;go_enter func80,ntmps80;go_upto_region 9 with(fail)
  obtain⟨E,D⟩:=zh ((((w.setCell ⟨p,0,none⟩ (.int .i64 q)).setCell ⟨p,1,none⟩ (.int .i64 s)).setCell ⟨p,2,none⟩ (.int .i64 q)).setCell ⟨p,3,none⟩ (.int .i64 0))
  rw[<-D];have A:zo9 E p ⟨q,s,q,0,b.l⟩:=by rw[D];exact(((c.out.q_ q).s_ s).zr4 q).zrv 0
  have G:zo8 (· =p) w E:=by rw[D];exact zo8.setCell (F:=(· =p)) (zo8.setCell (F:=(· =p)) (zo8.setCell (F:=(· =p)) (zo8.setCell (F:=(· =p)) (zo8.refl _ _) (.inl rfl) _) (.inl rfl) _) (.inl rfl) _) (.inl rfl) _
  have zre:=fun T=>zdl T E p _ A;have V:=A.lt;have c5:=A.cell.2.2.2.2;obtain⟨J,B⟩:=zh (E.setRow p ((((⟨q,s,q,0,b.l⟩:Bd).cells p).toArray.toList.take 4++List.replicate b.l.length (Value.int .i64 0)++((⟨q,s,q,0,b.l⟩:Bd).cells p).toArray.toList.drop (4+b.l.length)).toArray))
  have I:zo9 J p ⟨q,s,q,0,List.replicate b.l.length 0⟩:=by rw[B];exact A.zss b.l.length rfl
  have H:zo8 (· =p) w J:=by rw[B];exact zo8.setRow (F:=(· =p)) G (.inl rfl) _
  rw[<-B]at zre;have M:=zc I;have N:=zc H;clear D B I H A G c0 d c2 c3 c4 U Y X O;go_wp2;go_ret;exact⟨rfl,M.out,N.out⟩
def Bd.zpn(b:Bd)(k:Nat)(o ns:Int):Bd:=if b.q=0 then{ b with spent:=b.spent+ns }else{ b with spent:=b.spent+ns,l:=b.l.set k (o-ns) }
def Bd.left(b:Bd)(o ns:Int):Int:=if b.q=0 then o else o-ns
theorem Bd.zrl{b:Bd}{k:Nat}{o:Int}(ns:Int)(h:b.l[k]?=some o):(b.zpn k o ns).l[k]?=some (b.left o ns):=by
 unfold Bd.zpn Bd.left;split
 ·exact h
 ·exact List.getElem?_set_self (ze h).1
theorem zsm(k:Nat)(o ns:Int)(w:World)(p:Nat)(b:Bd)(hb:zo9 w p b)(hs:b.Small)(h:b.l[k]?=some o)(h0:0<=ns)(h1:ns<=1000000000)(B:(b.zpn k o ns).Small):
 Calls prog 100 #[.pointer (some ⟨p,0,none⟩),.int .i64 k,.int .i64 ns] w fun e w'=>e=.returned (.tuple #[.bool ((b.zpn k o ns).may (b.left o ns)),.int .i64 0])/\zo9 w' p ((b.zpn k o ns).zqv k (b.left o ns))/\zo8 (· =p) w w':=by
 obtain⟨c0,c1,c2,c3,c4⟩:=hb.cell;obtain⟨N,E⟩:=ze h;have T:=hb.loc k N;rw[E]at T;have hp:=hb.lt;have hi:=hb.hi;have h2:=hb.free 3;have h4:=hb.free (4+k);obtain⟨o1,o2⟩:=hs.loc h;obtain⟨s1,s2⟩:=hs.spent;have I:=zc (Bd.zrl ns h);have O:=zc hb;have J:=zc B;by_cases M:b.q=0
 ·rw[M]at c0;have G:Hid (zo9 ((w.setCell ⟨p,3,none⟩ (.int .i64 (b.spent+ns))).alloc (.cells #[.int .i64 ns] 2)) p (b.zpn k o ns)):=zc (by unfold Bd.zpn;rw[if_pos M];exact(O.out.zrv (b.spent+ns)).alloc _);clear hb h E hs B M;go_enter func100,ntmps100;go_wp2_with (first | (go_at_call 152;refine(uk _ _ _ _ O.out N).mono ?_;rintro e w1 ⟨rfl,rfl⟩) | (go_at_call 153;refine(zcM _ _ _ (by omega) (by omega) (by omega)).mono ?_;rintro e w1 ⟨rfl,rfl⟩));refine(zqG k _ _ _ _ G.out J.out I.out).mono ?_;rintro e U ⟨rfl,A,zpZ⟩;have D:=zc A;have H:=zc zpZ;clear A zpZ;go_wp2;go_ret2
  exact⟨rfl,D.out,((zo8.setCell (F:=(· =p)) (zo8.refl _ _) (.inl rfl) _).alloc _).trans H.out (fun x R=>.inl R)⟩
 ·have h3:0<b.q:=by have:=hs.q;omega
  have G:Hid (zo9 (((w.setCell ⟨p,3,none⟩ (.int .i64 (b.spent+ns))).setCell ⟨p,4+k,none⟩ (.int .i64 (o-ns))).alloc (.cells #[.int .i64 ns] 2)) p (b.zpn k o ns)):=zc (by unfold Bd.zpn;rw[if_neg M];exact((O.out.zrv (b.spent+ns)).zs6 k N _).alloc _);clear hb h E hs B M;go_enter func100,ntmps100;go_wp2_with (first | (go_at_call 152;refine(uk _ _ _ _ O.out N).mono ?_;rintro e w1 ⟨rfl,rfl⟩) | (go_at_call 153;refine(zcM _ _ _ (by omega) (by omega) (by omega)).mono ?_;rintro e w1 ⟨rfl,rfl⟩));refine(zqG k _ _ _ _ G.out J.out I.out).mono ?_;rintro e U ⟨rfl,A,zpZ⟩;have D:=zc A;have H:=zc zpZ;clear A zpZ;go_wp2
  go_ret2;exact⟨rfl,D.out,((zo8.setCell (F:=(· =p)) (zo8.setCell (F:=(· =p)) (zo8.refl _ _) (.inl rfl) _) (.inl rfl) _).alloc _).trans H.out (fun x R=>.inl R)⟩
end Qt
end Go.Proofs.YtmpdpmhpkgbepaaGreatDoor
namespace Go.Proofs.YtmpdpmhpkgbepaaGreatDoor
namespace Qt
open Go Go.RowKit Go.ChangeShapes Go.WideShapes
def yC(l:List Int)(k:Nat):List Int:=(l.take k).map (fun x=>min x 0)++l.drop k
theorem xR(l:List Int)(k:Nat):(yC l k).length=l.length:=by simp[yC];omega
theorem zgA(l:List Int)(k:Nat)(h:k<l.length):(yC l k)[k]?=some l[k]:=by
 unfold yC;rw[List.getElem?_append_right (by simp <;> omega)];have e:k-((l.take k).map (fun x=>min x 0)).length=0:=by simp <;> omega
 rw[e,List.getElem?_drop];simp[h]
theorem zfr(l:List Int)(k:Nat)(h:k<l.length):(yC l k).set k (min l[k] 0)=yC l (k+1):=by
 unfold yC;have A:((l.take k).map (fun x=>min x 0)).length=k:=by simp <;> omega
 rw[List.set_append_right _ _ (by omega),A,Nat.sub_self,List.drop_eq_getElem_cons h,List.set_cons_zero,List.take_succ_eq_append_getElem h,List.map_append,List.append_assoc];rfl
theorem zgB(l:List Int):yC l l.length=l.map (fun x=>min x 0):=by simp[yC]
def Bd.zpF(b:Bd):Bd:={ b with spent:=0,pool:=b.q,l:=b.l.map (fun x=>min x 0) }
theorem zsn(w:World)(p:Nat)(b:Bd)(hb:zo9 w p b):
 Calls prog 84 #[.pointer (some ⟨p,0,none⟩)] w fun e w'=>e=.returned (.tuple #[])/\zo9 w' p b.zpF/\zo8 (· =p) w w':=by
 obtain⟨c0,c1,c2,c3,c4⟩:=hb.cell;have hp:=hb.lt;have Z:=hb.hi;have h5:=hb.free 2;have h0:=hb.free 3;have V:zo9 ((w.setCell ⟨p,3,none⟩ (.int .i64 0)).setCell ⟨p,2,none⟩ (.int .i64 b.q)) p ⟨b.q,b.s,b.q,0,yC b.l 0⟩:=by have:=(hb.zrv 0).zr4 b.q;simpa[yC]using this
 have H1:=zc V;have a:Hid (zo8 (· =p) w ((w.setCell ⟨p,3,none⟩ (.int .i64 0)).setCell ⟨p,2,none⟩ (.int .i64 b.q))):=zc (zo8.setCell (F:=(· =p)) (zo8.setCell (F:=(· =p)) (zo8.refl _ _) (.inl rfl) _) (.inl rfl) _);obtain⟨n,R⟩:=zh b.l.length
 rw[<-R]at c4 Z;have O:=zc R;clear hb V R;go_enter func84,ntmps84;go_wp2_with fail;go_loopw [21] (fun i wr=>∃k:Nat,k<=n/\i=.int .i64 k/\zo9 wr p ⟨b.q,b.s,b.q,0,yC b.l k⟩/\zo8 (· =p) w wr) (fun i _=>n-(intOf i).toNat)
 case atStart=>exact⟨0,by omega,rfl,H1.out,a.out⟩
 case round=>
  obtain⟨k,hk,rfl,D,I⟩:=hrel;have h3:=D.lt;have B:=zc D;have J:=zc I;have c5:=D.cell.2.2.2.2;rw[show(⟨b.q,b.s,b.q,0,yC b.l k⟩:Bd).l.length=b.l.length from xR _ _,<-O.out]at c5;clear D I;by_cases M:k<n
  ·have A:k<b.l.length:=by rw[<-O.out];exact M
   obtain⟨o,N⟩:=zh (b.l[k])
   have X:=B.out.loc k (by show k<(yC b.l k).length;rw[xR];exact A);have U:(yC b.l k)[k]'(by rw[xR];exact A)=o:=by rw[N];exact(ze (zgA b.l k A)).2
   have h4:wr.cell? ⟨p,4+k,none⟩=some (.int .i64 o):=by rw[X];exact congrArg some (congrArg (Value.int .i64) U)
   have h2:=B.out.free (4+k);have HS:=zc (zfr b.l k A);rw[<-N]at HS;have H:zo9 (wr.setCell ⟨p,4+k,none⟩ (.int .i64 (min o 0))) p ⟨b.q,b.s,b.q,0,yC b.l (k+1)⟩:=by have:=B.out.zs6 k (by show k<(yC b.l k).length;rw[xR];exact A) (min o 0);rw[<-HS.out];exact this
   have T:=zc H;clear X U N A H;go_wp2;go_roundw
   case rel=>exact⟨k+1,by omega,by go_num,T.out,zo8.setCell (F:=(· =p)) J.out (.inl rfl) _⟩
   case measure=>simp[intOf];omega
  ·have G:k=b.l.length:=by rw[<-O.out];omega
   have E:zo9 wr p b.zpF:=by have:=B.out;rw[G,zgB]at this;exact this
   have Y:=zc E;clear E G;go_wp2;go_end0;exact⟨rfl,Y.out,J.out⟩
end Qt
end Go.Proofs.YtmpdpmhpkgbepaaGreatDoor
