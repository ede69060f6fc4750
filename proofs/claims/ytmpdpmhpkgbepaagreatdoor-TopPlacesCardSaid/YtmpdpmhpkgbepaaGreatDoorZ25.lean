/- Parts for TopPlaces. Conditions: as stated. -/
import Derived.Test.YtmpdpmhpkgbepaaGreatDoorZ23
set_option linter.unusedVariables false
set_option maxRecDepth 100000
set_option maxHeartbeats 4000000
open Go.Value renaming int->zd
open Go.IntKind renaming i64->zj,u64->zk
open Go.Obj renaming cells->zn
open Option renaming some->zo,none->zp
open List renaming getElem?_eq_getElem->zy
open Go.World renaming cell?->zN,frozen?->zY
open And renaming intro->zQ
open Go.Proofs.Tryz
namespace Go.Proofs.YtmpdpmhpkgbepaaGreatDoor
open Go Go.RowKit Go.ChangeShapes Go.WideShapes
def iM(cs:Array Value):List (Nat×Value)->Array Value
 | []=>cs
 | x::r=>iM (cs.setIfInBounds x.1 x.2) r
theorem Ar(x:Nat×Value):∀(l:List (Nat×Value)) (cs:Array Value),iM cs (l++ [x])=(iM cs l).setIfInBounds x.1 x.2
 | [],cs=>rfl
 | y::r,cs=>Ar x r _
theorem Mq(w:World):Calls prog 116 #[] w fun z w'=>∃V,z=.returned (.slice (zo ⟨V,0,zp⟩) 15 15)/\w.heap.size<=V/\w'.heap[V]?=zo (zn (uN.map Value.string).toArray 9 (0,0))/\Below w.heap.size w w':=
 (GA w).mono fun z w' ⟨B,A⟩=>⟨_,B,yA _,by rw[A];exact heap_alloc_new w _,by rw[A];exact yE w _⟩
theorem Id{w:World}{V:Nat}(h:w.heap[V]?=zo (zn (uN.map Value.string).toArray 9 (0,0))):∀j,j<uN.length->w.cell? ⟨V,0+j,zp⟩=zo (.string (uN.getD j ByteArray.empty)):=fun j A=>by
 have B:(uN.map Value.string)[j]?=zo (.string (uN.getD j ByteArray.empty)):=by rw[List.getElem?_map,zy A,List.getD_eq_getElem?_getD,zy A];rfl
 simp only[zN,h,Nat.zero_add];rw[List.getElem?_toArray];exact B
theorem Ie(s:ByteArray)(A:List ByteArray)(T:ByteArray)(k:Int)(fl:Nat->List Value)(us:List (Nat×Value))(m:Nat)(F l y n r:Int)(w:World)(hs:s.size<4294967281)
 (hc:Lib.countB s ⟨#[32]⟩+1=A.length) (hp:Lib.splitB ⟨#[32]⟩ 0 (Lib.countB s ⟨#[32]⟩) s=A) (hm:A.length=m+1) (kk:m<=3) (h0:A[0]?=zo T) (hl:Lib.idxOfS (uN.take 15) T=k-1) (hk:1<=k/\k<=15)
 (hz:∀B,(fl B).length=m) (H8:us.length=m) (h3:iM #[zd zj k,zd zj 0,zd zj 0,zd zj 0,zd zj 0,zd zk 0] us=#[zd zj k,zd zj F,zd zj l,zd zj y,zd zj n,zd zk r])
 (hF:∀B W,Below w.heap.size w W->W.heap[B]?=zo (zn #[zd zj k,zd zj 0,zd zj 0,zd zj 0,zd zj 0,zd zk 0] 35 (0,0))->Calls prog 117 #[.pointer (zo ⟨B,0,zp⟩)] W (Kz W (fl B)))
 (hR:∀B W i f t x,Below w.heap.size w W->W.heap[B]?=zo (zn (iM #[zd zj k,zd zj 0,zd zj 0,zd zj 0,zd zj 0,zd zk 0] (us.take i)) 35 (0,0))->(fl B)[i]?=zo f->A[1+i]?=zo t->us[i]?=zo x->Calls prog 118 #[f,.string t] W (Ea W B x.1 x.2)):
 Calls prog 63 #[.string s] w fun z w'=>z=.returned (.tuple #[.agg #[zd zj k,zd zj F,zd zj l,zd zj y,zd zj n,zd zk r],zd zj 0])/\Below w.heap.size w w':=by
 obtain⟨w1,h⟩:=yB (w.alloc (zn #[zd zj 0,zd zj 0,zd zj 0,zd zj 0,zd zj 0,zd zk 0] 35))
 have Hg:Below w.heap.size w w1:=by rw[h];exact yE w _
 have H9:w1.heap[w.heap.size]?=zo (zn #[zd zj 0,zd zj 0,zd zj 0,zd zj 0,zd zj 0,zd zk 0] 35 (0,0)):=by rw[h];exact heap_alloc_new w _
 have k3:=yw (Mo s 32 A w1 hs hc hp);obtain⟨D,a⟩:=yB w.heap.size
 obtain⟨P,HF,HR⟩:=Qe (zQ Hg (zQ (a▸H9) a)) hF hR;have g:=yw (zQ hm (zQ h0 (zQ hl (zQ hz (zQ H8 h3)))));clear hs hc hp Hg H9 hF hR hm h0 hl hz H8 h3;go_enter func63,ntmps63;go_wp2_with fail;rw[show w.alloc (zn #[zd zj 0,zd zj 0,zd zj 0,zd zj 0,zd zj 0,zd zk 0] 35)=w1 from h.symm,<-a];clear h a;refine k3.out.mono ?_;rintro z G ⟨rfl,h5⟩;obtain⟨R,hR⟩:=yB w1.heap.size
 have d:G.heap[R]?=zo (zn (A.map Value.string).toArray 9 (0,0)):=by rw[h5,hR];exact heap_alloc_new w1 _
 have ha:Below w1.heap.size w1 G:=by rw[h5];exact yE w1 _
 have o:=yw (yC P.out.1 ha P.out.1.size);have c:G.cell? ⟨R,0,zp⟩=zo (.string T):=by simp[zN,d,g.out.2.1]
 have U:R<G.heap.size:=(yx d).1;have b:=yw (zQ d (zQ ha hR));rw[<-hR,g.out.1];clear h5 d ha hR;have k0:1+(k-1)=k:=by omega
 have k1:Hid (zd zj (IntKind.i64.wrap k)=zd zj k):=yw (by rw[IntWalk.i64_in k (by omega)]);go_upto_region 2 with(fail)
 go_cut [5]from 13 to 19 (fun v5 wx=>∃B,v5=.pointer (zo ⟨B,0,zp⟩)/\G.heap.size<=B/\wx.heap[B]?=zo (zn #[zd zj k,zd zj 0,zd zj 0,zd zj 0,zd zj 0,zd zk 0] 35 (0,0))/\Below G.heap.size G wx)
 case first=>
  go_region_held3 (fun w'=>w'.cell? ⟨R,0,zp⟩=zo (.string T)) (go_keep)
   (first
    | (
     go_at_call 116;refine(Mq _).mono ?_;rintro z O ⟨V,rfl,hV,M,E⟩;have H:Hid (Below G.heap.size G O):=yw ⟨E.os,E.tape,E.output,E.size,E.block⟩;have h4:=yw (zQ M (zQ hV (yx M).1));have H5:=yw (Id M);replace c:=(H.out.cell (p:=⟨R,0,zp⟩) U).trans c;replace U:=yz U H.out.size;clear hV M E)
    | (
     go_at_call 116;refine(Mq _).mono ?_;rintro z O ⟨V,rfl,hV,M,E⟩;have h6:Below (G.alloc (zn #[zd zj 0,zd zj 0,zd zj 0,zd zj 0,zd zj 0,zd zk 0] 35)).heap.size (G.alloc (zn #[zd zj 0,zd zj 0,zd zj 0,zd zj 0,zd zj 0,zd zk 0] 35)) O:=⟨E.os,E.tape,E.output,E.size,E.block⟩
     have H:Hid (Below G.heap.size G O):=yw (yC (yE G _) h6 (by simp));have J:O.heap[G.heap.size]?=zo (zn #[zd zj 0,zd zj 0,zd zj 0,zd zj 0,zd zj 0,zd zk 0] 35 (0,0)):=(h6.block _ (by simp)).trans (heap_alloc_new G _);have kd:=yw J;have x0:O.cell? ⟨G.heap.size,0,zp⟩=zo (zd zj 0):=by simp[zN,J]
     have F:O.cell? ⟨G.heap.size,1,zp⟩=zo (zd zj 0):=by simp[zN,J]
     have l:O.cell? ⟨G.heap.size,2,zp⟩=zo (zd zj 0):=by simp[zN,J]
     have y:O.cell? ⟨G.heap.size,3,zp⟩=zo (zd zj 0):=by simp[zN,J]
     have n:O.cell? ⟨G.heap.size,4,zp⟩=zo (zd zj 0):=by simp[zN,J]
     have r:O.cell? ⟨G.heap.size,5,zp⟩=zo (zd zk 0):=by simp[zN,J]
     have xf:∀j,O.frozen? ⟨G.heap.size,j,zp⟩=false:=by intro j;simp[zY,J]
     have k9:R≠G.heap.size:=Nat.ne_of_lt U;have ki:G.heap.size≠R:=fun e=>k9 e.symm;clear J h6;have h4:=yw (zQ M (zQ hV (yx M).1));have H5:=yw (Id M);replace c:=(H.out.cell (p:=⟨R,0,zp⟩) U).trans c;replace U:=yz U H.out.size;clear hV M E)
    | (
     go_at_call 115;refine(Tryz.slices_Index_string V 0 15 15 uN T _ (by decide) (by decide) ?hcx).mono ?_
     case hcx=>first|exact H5.out|exact Id ((Below.heap_alloc O _ V h4.out.2.2).trans h4.out.1)
     rintro z w4 ⟨rfl,Hy⟩;rw[g.out.2.2.1];obtain rfl:=Hy.symm))
  all_goals
   go_wp2_with fail;go_meet
   case rel=>
    have hw:=k1.out
    first
     | exact⟨_,rfl,H.out.size,by rw[hw];exact heap_alloc_new O _,yC H.out (yE O _) H.out.size⟩
     | exact⟨_,rfl,yA _,by rw[hw];exact yD (yD (yD (yD (yD (yD kd.out))))),(((((H.out.setCell (p:=⟨G.heap.size,0,zp⟩) (yA _) _).setCell (p:=⟨G.heap.size,1,zp⟩) (yA _) _).setCell (p:=⟨G.heap.size,2,zp⟩) (yA _) _).setCell (p:=⟨G.heap.size,3,zp⟩) (yA _) _).setCell (p:=⟨G.heap.size,4,zp⟩) (yA _) _).setCell (p:=⟨G.heap.size,5,zp⟩) (yA _) _⟩
 case rest=>
  obtain⟨B,rfl,hu,h7,E⟩:=hcut
  rename World=>O
  have H:=yw (yC o.out E o.out.size);have I:=yw (zQ hu (zQ h7 E));have ka:=yw (HF.out B O H.out h7);clear hu E c U k0 h7;go_wp2_with fail;refine ka.out.mono ?_;rintro z w4 ⟨Q,rfl,hQ,hv,K⟩;have h8:=(K.block B (yx I.out.2.1).1).trans I.out.2.1;have k6:w4.cell? ⟨B,0,zp⟩=zo (zd zj k):=by simp[zN,h8]
  have C:=yw (yC H.out K H.out.size);have Z:=yw (zQ hQ (zQ hv (zQ h8 K)));rw[g.out.2.2.2.1];have kg:(k == 0)=false:=by simp;omega
  have kj:((m:Int)+1 != 1+(m:Int))=false:=by simp;omega
  clear hQ hv K h8;go_wp2_with fail;go_loopw [7,8,9,10,35] (fun v7 _ _ _ i wr=>∃q:Nat,q<=m/\v7=zd zj 0/\i=zd zj q/\wr.heap[B]?=zo (zn (iM #[zd zj k,zd zj 0,zd zj 0,zd zj 0,zd zj 0,zd zk 0] (us.take q)) 35 (0,0))/\OA (fun j=>j=B) w4 wr) (fun _ _ _ _ i _=>m-(intOf i).toNat)
  case atStart=>exact⟨0,by omega,rfl,rfl,Z.out.2.2.1,.refl _ _⟩
  case round=>
   obtain⟨q,hq,rfl,rfl,hx,ht⟩:=hrel;have L:=yw (zQ hx ht);clear hx ht k6;by_cases hr:q<m
   .have kh:(q:Int) <(m:Int):=by omega
    obtain⟨f,hf⟩:∃f,(fl B)[q]?=zo f:=⟨_,zy (by rw[g.out.2.2.2.1];exact hr)⟩
    obtain⟨t,ht⟩:∃t,A[1+q]?=zo t:=⟨_,zy (by rw[g.out.1];omega)⟩
    obtain⟨x,hx⟩:∃x,us[q]?=zo x:=⟨_,zy (by rw[g.out.2.2.2.2.1];exact hr)⟩
    have hh:=(yx I.out.2.1).1;have H7:Q≠B:=by have:=Z.out.1;omega
    have H3:R<G.heap.size:=(yx b.out.1).1;have H6:R≠B:=by have:=I.out.1;omega
    have H2:wr.heap[Q]?=zo (zn (fl B).toArray 20 (0,0)):=(L.out.2.block Q (yx Z.out.2.1).1 H7).trans Z.out.2.1;have hg:w4.heap[R]?=zo (zn (A.map Value.string).toArray 9 (0,0)):=((yC I.out.2.2 Z.out.2.2.2 I.out.2.2.size).block R H3).trans b.out.1;have he:wr.heap[R]?=zo (zn (A.map Value.string).toArray 9 (0,0)):=(L.out.2.block R (yx hg).1 H6).trans hg;have k4:wr.cell? ⟨Q,q,zp⟩=zo f:=by simp[zN,H2,hf]
    have ke:wr.cell? ⟨R,1+q,zp⟩=zo (.string t):=by simp[zN,he,ht]
    have hi:=(yx he).1;have hy:Below w.heap.size w wr:=C.out.trans (L.out.2.below C.out.size (fun j hj=>by rw[hj];have:=o.out.size;have:=I.out.1;omega));have k7:=yw (HR.out B wr q f t x hy L.out.1 hf ht hx);have kc:=yw hx;clear hf ht hx H7 H6 H2 hg he hy H3 hh;go_wp2_with fail;refine k7.out.mono ?_;rintro z w5 ⟨rfl,hn,ho⟩;have H0:=yw (zQ (ho _ _ _ L.out.1) (L.out.2.trans hn fun j hj=>.inl hj));clear hn ho k4 ke hi;go_wp2_with fail;go_roundw
    case rel=>
     refine⟨q+1,by omega,rfl,by go_num,?_,H0.out.2⟩;rw[List.take_add_one,kc.out];show _=zo (zn (iM _ (us.take q++ [x])) _ _);rw[Ar];exact H0.out.1
    case measure=>simp[intOf];omega
   .have kb:q=m:=by omega
    subst kb;have X:wr.heap[B]?=zo (zn #[zd zj k,zd zj F,zd zj l,zd zj y,zd zj n,zd zk r] 35 (0,0)):=by have h1:=L.out.1;rw[<-g.out.2.2.2.2.1,List.take_length,g.out.2.2.2.2.2]at h1;exact h1
    have k8:D≠B:=by have:=P.out.2.2;have:=b.out.2.1.size;have:=I.out.1;have:=P.out.1.size;have:=(yx P.out.2.1).1;omega
    have h2:=(yx P.out.2.1).1;have S:Below w1.heap.size w1 w4:=yC b.out.2.1 (yC I.out.2.2 Z.out.2.2.2 I.out.2.2.size) b.out.2.1.size;have h9:=(S.block D h2).trans P.out.2.1;have N:wr.heap[D]?=zo (zn #[zd zj 0,zd zj 0,zd zj 0,zd zj 0,zd zj 0,zd zk 0] 35 (0,0)):=(L.out.2.block D (yx h9).1 k8).trans h9;have b0:wr.cell? ⟨B,0,zp⟩=zo (zd zj k):=by simp[zN,X]
    have b1:wr.cell? ⟨B,1,zp⟩=zo (zd zj F):=by simp[zN,X]
    have b2:wr.cell? ⟨B,2,zp⟩=zo (zd zj l):=by simp[zN,X]
    have b3:wr.cell? ⟨B,3,zp⟩=zo (zd zj y):=by simp[zN,X]
    have b4:wr.cell? ⟨B,4,zp⟩=zo (zd zj n):=by simp[zN,X]
    have b5:wr.cell? ⟨B,5,zp⟩=zo (zd zk r):=by simp[zN,X]
    have d0:wr.cell? ⟨D,0,zp⟩=zo (zd zj 0):=by simp[zN,N]
    have d1:wr.cell? ⟨D,1,zp⟩=zo (zd zj 0):=by simp[zN,N]
    have d2:wr.cell? ⟨D,2,zp⟩=zo (zd zj 0):=by simp[zN,N]
    have d3:wr.cell? ⟨D,3,zp⟩=zo (zd zj 0):=by simp[zN,N]
    have d4:wr.cell? ⟨D,4,zp⟩=zo (zd zj 0):=by simp[zN,N]
    have d5:wr.cell? ⟨D,5,zp⟩=zo (zd zk 0):=by simp[zN,N]
    have df:∀j,wr.frozen? ⟨D,j,zp⟩=false:=by intro j;simp[zY,N]
    have k2:=yw N;have kf:Hid (Below w.heap.size w wr):=yw (C.out.trans (L.out.2.below C.out.size (fun j hj=>by rw[hj];have:=o.out.size;have:=I.out.1;omega)));clear X N h9 S h2;go_wp2;have Y:=yD (i:=5) (u:=zd zk r) (yD (i:=4) (u:=zd zj n) (yD (i:=3) (u:=zd zj y) (yD (i:=2) (u:=zd zj l) (yD (i:=1) (u:=zd zj F) (yD (i:=0) (u:=zd zj k) k2.out)))))
    obtain⟨wf,H4⟩:=yB (((((((wr.setCell ⟨D,0,zp⟩ (zd zj k)).setCell ⟨D,1,zp⟩ (zd zj F)).setCell ⟨D,2,zp⟩ (zd zj l)).setCell ⟨D,3,zp⟩ (zd zj y)).setCell ⟨D,4,zp⟩ (zd zj n)).setCell ⟨D,5,zp⟩ (zd zk r)))
    have k5:Below w.heap.size w wf:=by have a:=P.out.2.2;rw[H4];exact(((((kf.out.setCell (p:=⟨D,0,zp⟩) (Nat.le_of_eq a.symm) _).setCell (p:=⟨D,1,zp⟩) (Nat.le_of_eq a.symm) _).setCell (p:=⟨D,2,zp⟩) (Nat.le_of_eq a.symm) _).setCell (p:=⟨D,3,zp⟩) (Nat.le_of_eq a.symm) _).setCell (p:=⟨D,4,zp⟩) (Nat.le_of_eq a.symm) _).setCell (p:=⟨D,5,zp⟩) (Nat.le_of_eq a.symm) _
    rw[<-H4]at Y ⊢;have g0:wf.cell? ⟨D,0,zp⟩=zo (zd zj k):=by simp[zN,Y]
    have g1:wf.cell? ⟨D,1,zp⟩=zo (zd zj F):=by simp[zN,Y]
    have g2:wf.cell? ⟨D,2,zp⟩=zo (zd zj l):=by simp[zN,Y]
    have g3:wf.cell? ⟨D,3,zp⟩=zo (zd zj y):=by simp[zN,Y]
    have g4:wf.cell? ⟨D,4,zp⟩=zo (zd zj n):=by simp[zN,Y]
    have g5:wf.cell? ⟨D,5,zp⟩=zo (zd zk r):=by simp[zN,Y]
    refine bodyPost_ret (v:=.tuple #[.agg #[zd zj k,zd zj F,zd zj l,zd zj y,zd zj n,zd zk r],zd zj 0]) ?_ rfl ⟨rfl,k5⟩;simp[results,results63,go_sem,g0,g1,g2,g3,g4,g5]
