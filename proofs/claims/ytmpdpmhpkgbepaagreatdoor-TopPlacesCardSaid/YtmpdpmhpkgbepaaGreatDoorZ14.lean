/- Parts for TopPlaces. Conditions: as stated. -/
import Derived.Deep.Cut
import Derived.Deep.DeepCutAuto
import Derived.Lib.MinMax
import Derived.Outline
import Derived.RegionTactic
import Derived.WalkLawsBesides
import Derived.Test.YtmpdpmhpkgbepaaGreatDoorZ03
set_option linter.unusedVariables false
set_option maxRecDepth 100000
set_option maxHeartbeats 4000000
open Go.Value renaming int->zd,pointer->ze,slice->zf,tuple->zi
open Go.IntKind renaming i64->zj
open Go.Ending renaming returned->zm
open Option renaming some->zo,none->zp
open Go renaming World->zu,Calls->zw
open List renaming replicate->ye
open Go.Proofs.Tryz
namespace Go.Proofs.YtmpdpmhpkgbepaaGreatDoor
namespace Qt
open Go Go.RowKit Go.ChangeShapes Go.WideShapes
structure Bd.Small(b:Bd):Prop where
 q:0<=b.q/\b.q<=1099511627776
 s:0<=b.s/\b.s<=1099511627776
 pool:0<=b.pool/\b.pool<=1125899906842624
 spent:0<=b.spent/\b.spent<=1125899906842624
 l:∀x∈b.l,-1125899906842624<=x/\x<=1099511627776
theorem Bd.Small.loc{b:Bd}(h:b.Small){k:Nat}{o:Int}(hk:b.l[k]?=zo o): -1125899906842624<=o/\o<=1099511627776:=h.l o (List.mem_of_getElem? hk)
def Bd.take(b:Bd)(o:Int):Int:=min b.pool (b.s-o)
def Bd.taken(b:Bd)(k:Nat)(o:Int):Bd:={ b with pool:=b.pool-b.take o,l:=b.l.set k (o+b.take o) }
theorem Sf(k:Nat)(o:Int)(w:zu)(p:Nat)(b:Bd)(hb:OC w p b)(hs:b.Small)(h:b.l[k]?=zo o)(hq:0<b.q)(ho:o<=0):
 zw prog 107 #[ze (zo ⟨p,0,zp⟩),zd zj k] w fun e w'=>e=zm (.bool (decide (0<o+b.take o)))/\OC w' p (b.taken k o)/\OA (· =p) w w':=by
 obtain⟨c0,c1,c2,c3,c4⟩:=hb.cell;obtain⟨hk,A⟩:=yy h;have D:=hb.loc k hk;rw[A]at D;have h2:=hb.free 2;have h1:=hb.free (4+k);have h0:(b.q == 0)=false:=beq_eq_false_iff_ne.2 (by omega);obtain⟨o1,o2⟩:=hs.loc h;obtain⟨s1,s2⟩:=hs.s;obtain⟨p1,p2⟩:=hs.pool;have B:=yw hb;unfold Bd.taken Bd.take;clear hb h A;go_enter func107,ntmps107;go_wp2_with (go_at_call 152;refine(Xo _ _ _ _ B.out hk).mono ?_;rintro e w1 ⟨rfl,rfl⟩);go_quiet (fail);go_wp2;go_ret;refine⟨rfl,((B.out.drewN nq).gG k hk (o+min b.pool (b.s-o))).dG (b.pool-min b.pool (b.s-o)),?_⟩
 exact OA.setCell (F:=(· =p)) (OA.setCell (F:=(· =p)) ((OA.refl _ _).drewN nq) (.inl rfl) _) (.inl rfl) _
def Bd.may(b:Bd)(o:Int):Bool:=if b.q=0 then true else if 0<o then true else decide (0<o+b.take o)
def Bd.SQ(b:Bd)(k:Nat)(o:Int):Bd:=if b.q=0 then b else if 0<o then b else b.taken k o
theorem TF(k:Nat)(o:Int)(w:zu)(p:Nat)(b:Bd)(hb:OC w p b)(hs:b.Small)(h:b.l[k]?=zo o):
 zw prog 107 #[ze (zo ⟨p,0,zp⟩),zd zj k] w fun e w'=>e=zm (.bool (b.may o))/\OC w' p (b.SQ k o)/\OA (· =p) w w':=by
 have hk:=(yy h).1;unfold Bd.may Bd.SQ;by_cases D:b.q=0
 .rw[if_pos D,if_pos D];exact(Se k w p b hb hk D).mono fun e w' ⟨G,A⟩=>⟨G,A▸hb,A▸OA.refl _ _⟩
 .have E:0<b.q:=by have:=hs.q;omega
  rw[if_neg D,if_neg D];by_cases B:0<o
  .rw[if_pos B,if_pos B];exact(QT k o w p b hb h E B).mono fun e w' ⟨G,A⟩=>⟨G,A▸hb,A▸OA.refl _ _⟩
  .rw[if_neg B,if_neg B];exact Sf k o w p b hb hs h E (by omega)
def Bd.back(b:Bd)(k:Nat)(o:Int):Bd:={ b with pool:=b.pool+max o 0,l:=b.l.set k (o-max o 0) }
theorem eU(k:Nat)(o:Int)(w:zu)(p:Nat)(b:Bd)(hb:OC w p b)(hs:b.Small)(h:b.l[k]?=zo o):
 zw prog 106 #[ze (zo ⟨p,0,zp⟩),zd zj k] w fun e w'=>e=zm (zi #[])/\OC w' p (b.back k o)/\OA (· =p) w w':=by
 obtain⟨c0,c1,c2,c3,c4⟩:=hb.cell;obtain⟨hk,A⟩:=yy h;have D:=hb.loc k hk;rw[A]at D;have h1:=hb.free 2;have h0:=hb.free (4+k);obtain⟨o1,o2⟩:=hs.loc h;obtain⟨p1,p2⟩:=hs.pool;have B:=yw hb;unfold Bd.back;clear hb h A;go_enter func106,ntmps106;go_wp2_with (go_at_call 152;refine(Xo _ _ _ _ B.out hk).mono ?_;rintro e w1 ⟨rfl,rfl⟩);go_end0;refine⟨rfl,(B.out.dG (b.pool+max o 0)).gG k hk (o-max o 0),?_⟩;exact OA.setCell (F:=(· =p)) (OA.setCell (F:=(· =p)) (OA.refl _ _) (.inl rfl) _) (.inl rfl) _
def z69:Array Value:=(ye 68 (zd zj 0)++ [zf zp 0 0]).toArray
theorem II(w:zu):(zeroValue 128).run prog w=.ok (.agg z69) w:=by kernel_rfl
theorem MS:z69[68]?=zo (zf zp 0 0):=by kernel_rfl
theorem CS(p ps:Nat)(h2:ps<=64):z69.setIfInBounds 68 (zf (zo ⟨p,4,zp⟩) ps 64)=(({ q:=0,s:=0,pool:=0,spent:=0,l:=ye ps 0 }:Bd).cells p).toArray:=by
 have e:ye 68 (zd zj 0)= [zd zj 0,zd zj 0,zd zj 0,zd zj 0]++(ye ps (zd zj 0)++ye (64-ps) (zd zj 0)):=by rw[List.replicate_append_replicate,show ps+(64-ps)=64 by omega];rfl
 unfold z69 Bd.cells;rw[List.setIfInBounds_toArray,List.set_append_right _ _ (by simp)];simp only[List.length_replicate,Nat.sub_self,List.set_cons_zero,List.map_replicate];rw[e];simp only[List.append_assoc]
theorem AJ(ps:Nat)(w:zu)(B:1<=ps)(A:ps<=64):
 zw prog 74 #[zd zj ps] w fun e w'=>e=zm (zi #[ze (zo ⟨w.heap.size,0,zp⟩),zd zj 0])/\OC w' w.heap.size ⟨0,0,0,0,ye ps 0⟩/\Below w.heap.size w w':=by
 have hz:=II;have h0:=MS;go_enter func74,ntmps74;go_wp2;go_ret2;refine⟨rfl,⟨?_,by simpa using B,by simpa using A⟩,(Below.refl _ _).alloc (yA _) _⟩;rw[heap_alloc_new w _,CS _ _ A]
end Qt
end Go.Proofs.YtmpdpmhpkgbepaaGreatDoor
namespace Go.Proofs.YtmpdpmhpkgbepaaGreatDoor
namespace Qt
open Go Go.RowKit Go.ChangeShapes Go.WideShapes
def RM(q s:Int):Prop:=q<0∨1099511627776<q∨(q≠0/\(s<1∨1099511627776<s))
theorem gJ(q s:Int)(w:zu)(p:Nat)(h:RM q s):zw prog 80 #[ze (zo ⟨p,0,zp⟩),zd zj q,zd zj s] w fun e w'=>e=zm (zd zj 1)/\w=w':=by
 by_cases h1:q<0
 .clear h;go_enter func80,ntmps80;go_wp2;go_ret;exact⟨rfl,rfl⟩
 .by_cases h2:1099511627776<q
  .clear h;go_enter func80,ntmps80;go_wp2;go_ret;exact⟨rfl,rfl⟩
  .have A:q≠0/\(s<1∨1099511627776<s):=by
    rcases h with h|h|h
    .omega
    .omega
    .exact h
   obtain⟨B,A⟩:=A;have h0:(q == 0)=false:=beq_eq_false_iff_ne.2 B;clear h B;rcases A with A|A
   .go_enter func80,ntmps80;go_wp2;go_ret;exact⟨rfl,rfl⟩
   .go_enter func80,ntmps80;go_wp2;go_ret;exact⟨rfl,rfl⟩
theorem CT(w:zu):(zeroValue 2).run prog w=.ok (zd zj 0) w:=by kernel_rfl
theorem Fy(T:TypeId)(w:zu)(p:Nat)(b:Bd)(hb:OC w p b):(Builtin.clear_ #[126] T #[zf (zo ⟨p,4,zp⟩) b.l.length 64]).run prog w=
 .ok (zi #[]) (w.setRow p (((b.cells p).toArray.toList.take 4++ye b.l.length (zd zj 0)++(b.cells p).toArray.toList.drop (4+b.l.length)).toArray)):=by
 have A:=run_storeCells_at prog p 4 128 (ye b.l.length (zd zj 0)) 0 (b.cells p).toArray w hb.RO (by have:=hb.hi;simp[Bd.PG p b hb.hi];omega) (by intro v D;rw[List.eq_of_mem_replicate D];rfl);have h0:=hb.lo;obtain⟨n,E⟩:∃n,b.l.length=n+1:=⟨b.l.length-1,by omega⟩
 have G:=CT w;have B:Builtin.zeroCells #[zd zj 0] b.l.length=(ye b.l.length (zd zj 0)).toArray:=by
  have e:(fun i:Nat=>(#[zd zj 0])[i%(#[zd zj 0]).size]!)=fun _=>zd zj 0:=by funext i;simp[Nat.mod_one]
  unfold Builtin.zeroCells;rw[e];exact Array.ext (by simp) (by intros;simp)
 simp only[List.length_replicate,Nat.add_zero]at A;rw[E]at A B ⊢;simp[Builtin.clear_,run_underlying underlying126,G,Value.cells,B,A]
end Qt
open Go Go.RowKit Go.ChangeShapes Go.WideShapes Qt in
theorem OA.setRow{F:Nat->Prop}{a w:zu}(h:OA F a w){g:Nat}(A:F g∨a.heap.size<=g)(cs:Array Value):OA F a (w.setRow g cs):=
 ⟨h.os,h.tape,h.output,by simpa using h.size,fun k hk B=>by rw[setRow_other w g k cs (by rintro rfl;rcases A with A|A;exact B A;omega)];exact h.block k hk B⟩
namespace Qt
open Go Go.RowKit Go.ChangeShapes Go.WideShapes
def Bd.SR(b:Bd)(q s:Int):Bd:=⟨q,if q=0 then 0 else s,q,0,ye b.l.length 0⟩
theorem iG(q s:Int)(w:zu)(p:Nat)(b:Bd)(hb:OC w p b)(h:¬RM q s):
 zw prog 80 #[ze (zo ⟨p,0,zp⟩),zd zj q,zd zj s] w fun e w'=>e=zm (zd zj 0)/\OC w' p (b.SR q s)/\OA (· =p) w w':=by
 obtain⟨c,d,f,g,j⟩:=hb.cell;have U:=hb.free 0;have X:=hb.free 1;have V:=hb.free 2;have O:=hb.free 3;have a:=yw hb;have Z:0<=q:=by unfold RM at h;omega
 have Y:q<=1099511627776:=by unfold RM at h;omega
 unfold Bd.SR;by_cases R:q=0
 .rw[if_pos R];subst R;clear hb h Z Y;go_enter func80,ntmps80;go_upto_region 9 with(fail)
  obtain⟨E,B⟩:=yB ((((w.setCell ⟨p,0,zp⟩ (zd zj 0)).setCell ⟨p,1,zp⟩ (zd zj 0)).setCell ⟨p,2,zp⟩ (zd zj 0)).setCell ⟨p,3,zp⟩ (zd zj 0))
  rw[<-B];have D:OC E p ⟨0,0,0,0,b.l⟩:=by rw[B];exact(((a.out.q_ 0).s_ 0).dG 0).bN 0
  have G:OA (· =p) w E:=by rw[B];exact OA.setCell (F:=(· =p)) (OA.setCell (F:=(· =p)) (OA.setCell (F:=(· =p)) (OA.setCell (F:=(· =p)) (OA.refl _ _) (.inl rfl) _) (.inl rfl) _) (.inl rfl) _) (.inl rfl) _
  have RK:=fun T=>Fy T E p _ D;have k:=D.cell.2.2.2.2;obtain⟨J,A⟩:=yB (E.setRow p ((((⟨0,0,0,0,b.l⟩:Bd).cells p).toArray.toList.take 4++ye b.l.length (zd zj 0)++((⟨0,0,0,0,b.l⟩:Bd).cells p).toArray.toList.drop (4+b.l.length)).toArray))
  have I:OC J p ⟨0,0,0,0,ye b.l.length 0⟩:=by rw[A];exact D.eF b.l.length rfl
  have H:OA (· =p) w J:=by rw[A];exact OA.setRow (F:=(· =p)) G (.inl rfl) _
  rw[<-A]at RK;have M:=yw I;have N:=yw H;clear B A I H D G c d f g j U X V O;go_wp2;go_ret;exact⟨rfl,M.out,N.out⟩
 .rw[if_neg R];have h0:1<=s:=by unfold RM at h;omega
  have h2:s<=1099511627776:=by unfold RM at h;omega
  have h1:(q == 0)=false:=beq_eq_false_iff_ne.2 R;clear hb h R;go_enter func80,ntmps80;go_upto_region 9 with(fail)
  obtain⟨E,B⟩:=yB ((((w.setCell ⟨p,0,zp⟩ (zd zj q)).setCell ⟨p,1,zp⟩ (zd zj s)).setCell ⟨p,2,zp⟩ (zd zj q)).setCell ⟨p,3,zp⟩ (zd zj 0))
  rw[<-B];have D:OC E p ⟨q,s,q,0,b.l⟩:=by rw[B];exact(((a.out.q_ q).s_ s).dG q).bN 0
  have G:OA (· =p) w E:=by rw[B];exact OA.setCell (F:=(· =p)) (OA.setCell (F:=(· =p)) (OA.setCell (F:=(· =p)) (OA.setCell (F:=(· =p)) (OA.refl _ _) (.inl rfl) _) (.inl rfl) _) (.inl rfl) _) (.inl rfl) _
  have RK:=fun T=>Fy T E p _ D;have k:=D.cell.2.2.2.2;obtain⟨J,A⟩:=yB (E.setRow p ((((⟨q,s,q,0,b.l⟩:Bd).cells p).toArray.toList.take 4++ye b.l.length (zd zj 0)++((⟨q,s,q,0,b.l⟩:Bd).cells p).toArray.toList.drop (4+b.l.length)).toArray))
  have I:OC J p ⟨q,s,q,0,ye b.l.length 0⟩:=by rw[A];exact D.eF b.l.length rfl
  have H:OA (· =p) w J:=by rw[A];exact OA.setRow (F:=(· =p)) G (.inl rfl) _
  rw[<-A]at RK;have M:=yw I;have N:=yw H;clear B A I H D G c d f g j U X V O;go_wp2;go_ret;exact⟨rfl,M.out,N.out⟩
def Bd.OW(b:Bd)(k:Nat)(o ns:Int):Bd:=if b.q=0 then{ b with spent:=b.spent+ns }else{ b with spent:=b.spent+ns,l:=b.l.set k (o-ns) }
def Bd.left(b:Bd)(o ns:Int):Int:=if b.q=0 then o else o-ns
theorem Bd.AZ{b:Bd}{k:Nat}{o:Int}(ns:Int)(h:b.l[k]?=zo o):(b.OW k o ns).l[k]?=zo (b.left o ns):=by
 unfold Bd.OW Bd.left;split
 .exact h
 .exact List.getElem?_set_self (yy h).1
theorem dZ(k:Nat)(o ns:Int)(w:zu)(p:Nat)(b:Bd)(hb:OC w p b)(hs:b.Small)(h:b.l[k]?=zo o)(h0:0<=ns)(h1:ns<=1000000000)(B:(b.OW k o ns).Small):
 zw prog 100 #[ze (zo ⟨p,0,zp⟩),zd zj k,zd zj ns] w fun e w'=>e=zm (zi #[.bool ((b.OW k o ns).may (b.left o ns)),zd zj 0])/\OC w' p ((b.OW k o ns).SQ k (b.left o ns))/\OA (· =p) w w':=by
 obtain⟨R,c1,c2,c3,c4⟩:=hb.cell;obtain⟨hk,E⟩:=yy h;have T:=hb.loc k hk;rw[E]at T;have hp:=hb.lt;have h2:=hb.free 3;have h4:=hb.free (4+k);obtain⟨o1,o2⟩:=hs.loc h;obtain⟨s1,s2⟩:=hs.spent;obtain⟨I,N,J⟩:=Qe (Bd.AZ ns h) hb B;by_cases M:b.q=0
 .rw[M]at R;have G:Hid (OC ((w.setCell ⟨p,3,zp⟩ (zd zj (b.spent+ns))).alloc (.cells #[zd zj ns] 2)) p (b.OW k o ns)):=yw (by unfold Bd.OW;rw[if_pos M];exact(N.out.bN (b.spent+ns)).alloc _);clear hb h E hs B M;go_enter func100,ntmps100;go_wp2_with (first|(go_at_call 152;refine(Xo _ _ _ _ N.out hk).mono ?_;rintro e w1 ⟨rfl,rfl⟩)|(go_at_call 153;refine(Em _ _ _ (by omega) (by omega) (by omega)).mono ?_;rintro e w1 ⟨rfl,rfl⟩));refine(TF k _ _ _ _ G.out J.out I.out).mono ?_;rintro e U ⟨rfl,A,RJ⟩;have D:=yw A;have H:=yw RJ;clear A RJ;go_wp2;go_ret2
  exact⟨rfl,D.out,((OA.setCell (F:=(· =p)) (OA.refl _ _) (.inl rfl) _).alloc _).trans H.out (fun x O=>.inl O)⟩
 .have h3:0<b.q:=by have:=hs.q;omega
  have G:Hid (OC (((w.setCell ⟨p,3,zp⟩ (zd zj (b.spent+ns))).setCell ⟨p,4+k,zp⟩ (zd zj (o-ns))).alloc (.cells #[zd zj ns] 2)) p (b.OW k o ns)):=yw (by unfold Bd.OW;rw[if_neg M];exact((N.out.bN (b.spent+ns)).gG k hk _).alloc _);clear hb h E hs B M;go_enter func100,ntmps100;go_wp2_with (first|(go_at_call 152;refine(Xo _ _ _ _ N.out hk).mono ?_;rintro e w1 ⟨rfl,rfl⟩)|(go_at_call 153;refine(Em _ _ _ (by omega) (by omega) (by omega)).mono ?_;rintro e w1 ⟨rfl,rfl⟩));refine(TF k _ _ _ _ G.out J.out I.out).mono ?_;rintro e U ⟨rfl,A,RJ⟩;have D:=yw A;have H:=yw RJ;clear A RJ;go_wp2
  go_ret2;exact⟨rfl,D.out,((OA.setCell (F:=(· =p)) (OA.setCell (F:=(· =p)) (OA.refl _ _) (.inl rfl) _) (.inl rfl) _).alloc _).trans H.out (fun x O=>.inl O)⟩
end Qt
end Go.Proofs.YtmpdpmhpkgbepaaGreatDoor
namespace Go.Proofs.YtmpdpmhpkgbepaaGreatDoor
namespace Qt
open Go Go.RowKit Go.ChangeShapes Go.WideShapes
def ql(l:List Int)(k:Nat):List Int:=(l.take k).map (fun x=>min x 0)++l.drop k
theorem uc(l:List Int)(k:Nat):(ql l k).length=l.length:=by simp[ql];omega
theorem Sg(l:List Int)(k:Nat)(h:k<l.length):(ql l k)[k]?=zo l[k]:=by
 unfold ql;rw[List.getElem?_append_right (by simp<;>omega)];have e:k-((l.take k).map (fun x=>min x 0)).length=0:=by simp<;>omega
 rw[e,List.getElem?_drop];simp[h]
theorem Oa(l:List Int)(k:Nat)(h:k<l.length):(ql l k).set k (min l[k] 0)=ql l (k+1):=by
 unfold ql;have A:((l.take k).map (fun x=>min x 0)).length=k:=by simp<;>omega
 rw[List.set_append_right _ _ (by omega),A,Nat.sub_self,List.drop_eq_getElem_cons h,List.set_cons_zero,List.take_succ_eq_append_getElem h,List.map_append,List.append_assoc];rfl
theorem Sh(l:List Int):ql l l.length=l.map (fun x=>min x 0):=by simp[ql]
def Bd.PM(b:Bd):Bd:={ b with spent:=0,pool:=b.q,l:=b.l.map (fun x=>min x 0) }
theorem eA(w:zu)(p:Nat)(b:Bd)(hb:OC w p b):
 zw prog 84 #[ze (zo ⟨p,0,zp⟩)] w fun e w'=>e=zm (zi #[])/\OC w' p b.PM/\OA (· =p) w w':=by
 obtain⟨c0,c1,c2,c3,d⟩:=hb.cell;have c:=hb.hi;have h4:=hb.free 2;have h0:=hb.free 3;have V:OC ((w.setCell ⟨p,3,zp⟩ (zd zj 0)).setCell ⟨p,2,zp⟩ (zd zj b.q)) p ⟨b.q,b.s,b.q,0,ql b.l 0⟩:=by have:=(hb.bN 0).dG b.q;simpa[ql]using this
 have Z:=yw V;have f:Hid (OA (· =p) w ((w.setCell ⟨p,3,zp⟩ (zd zj 0)).setCell ⟨p,2,zp⟩ (zd zj b.q))):=yw (OA.setCell (F:=(· =p)) (OA.setCell (F:=(· =p)) (OA.refl _ _) (.inl rfl) _) (.inl rfl) _);obtain⟨n,R⟩:=yB b.l.length
 rw[<-R]at d c;have O:=yw R;clear hb V R;go_enter func84,ntmps84;go_wp2_with fail;go_loopw [21] (fun i wr=>∃k:Nat,k<=n/\i=zd zj k/\OC wr p ⟨b.q,b.s,b.q,0,ql b.l k⟩/\OA (· =p) w wr) (fun i _=>n-(intOf i).toNat)
 case atStart=>exact⟨0,by omega,rfl,Z.out,f.out⟩
 case round=>
  obtain⟨k,hk,rfl,E,I⟩:=hrel;have B:=yw E;have J:=yw I;have a:=E.cell.2.2.2.2;rw[show(⟨b.q,b.s,b.q,0,ql b.l k⟩:Bd).l.length=b.l.length from uc _ _,<-O.out]at a;clear E I;by_cases M:k<n
  .have A:k<b.l.length:=by rw[<-O.out];exact M
   obtain⟨o,N⟩:=yB (b.l[k])
   have X:=B.out.loc k (by show k<(ql b.l k).length;rw[uc];exact A);have U:(ql b.l k)[k]'(by rw[uc];exact A)=o:=by rw[N];exact(yy (Sg b.l k A)).2
   have h3:wr.cell? ⟨p,4+k,zp⟩=zo (zd zj o):=by rw[X];exact congrArg zo (congrArg (zd zj) U)
   have h2:=B.out.free (4+k);have HS:=yw (Oa b.l k A);rw[<-N]at HS;have H:OC (wr.setCell ⟨p,4+k,zp⟩ (zd zj (min o 0))) p ⟨b.q,b.s,b.q,0,ql b.l (k+1)⟩:=by have:=B.out.gG k (by show k<(ql b.l k).length;rw[uc];exact A) (min o 0);rw[<-HS.out];exact this
   have T:=yw H;clear X U N A H;go_wp2;go_roundw
   case rel=>exact⟨k+1,by omega,by go_num,T.out,OA.setCell (F:=(· =p)) J.out (.inl rfl) _⟩
   case measure=>simp[intOf];omega
  .have G:k=b.l.length:=by rw[<-O.out];omega
   have D:OC wr p b.PM:=by have:=B.out;rw[G,Sh]at this;exact this
   have Y:=yw D;clear D G;go_wp2;go_end0;exact⟨rfl,Y.out,J.out⟩
end Qt
end Go.Proofs.YtmpdpmhpkgbepaaGreatDoor
