/- Parts for TopPlaces. Conditions: as stated. -/
import Derived.Laws.BitsAllLaws
import Derived.Laws.EntriesVeiled
import Derived.Laws.Externs
import Derived.Test.YtmpdpmhpkgbepaaGreatDoorZ27
set_option linter.unusedVariables false
set_option maxRecDepth 100000
set_option maxHeartbeats 4000000
open Go.Value renaming int->zd,pointer->ze,slice->zf,agg->zg,bool->zh,tuple->zi
open Go.IntKind renaming i64->zj,u64->zk,signed->yq
open Go.Ending renaming returned->zm
open Go.Obj renaming cells->zn
open Option renaming some->zo,none->zp
open Bool renaming true->zq,false->zt
open Go renaming World->zu,Calls->zw,Value->zz
open List renaming getElem?_eq_getElem->zy,getElem?_set_ne->zC,getD_eq_getElem?_getD->zH,getElem?_set_self->zT,mem_of_getElem?->zW,range->yi
open Go.World renaming cell?->zN,block_lt_of_cell?->zP,frozen?->zY
open Go.RowKit.Below renaming refl->zU,heap_alloc->zZ
open Go.Proofs.Tryz
namespace Go.Proofs.YtmpdpmhpkgbepaaGreatDoor
open Go Go.RowKit Go.ChangeShapes Go.WideShapes
variable {k g:Nat}{x:Int}{w':zu}{a:Option Addr}{P:Nat->Bool}{zs:List Int}
attribute [local go_sem ↓] Go.wp_at_zero Go.wp_at_succ
section
open Go.Shelf
attribute [local go_sem] Oper.semAt_some
def uv(l:List Int):List zz:=l.map (zd zk)
theorem uM{l:List Int}(h:l[k]?=zo x):(uv l)[k]?=zo (zd zk x):=by simp[uv,h]
theorem JK(x:Int)(h:0<=x)(h2:x<=18446744073709551615):bits BinOp.and zk x 1=x%2:=by obtain⟨n,rfl⟩:=Int.eq_ofNat_of_zero_le h;have:=u64_and_nat n 1 (by omega) (by omega);rw[show((1:Nat):Int)=1 from rfl]at this;rw[this,Nat.and_one_is_mod];omega
theorem Hc{mask:Int}(h:0<=mask)(h2:mask<=18446744073709551615)(p:Nat):(bits BinOp.and zk (mask/2 ^ p) 1 == 1)=qN mask p:=by have h5:(0:Int) <2 ^ p:=Int.pow_pos (by omega);have A:0<=mask/2 ^ p:=Int.ediv_nonneg h (by omega);have h4:mask/2 ^ p<=mask:=Int.ediv_le_self _ h;rw[JK _ A (by omega)];unfold qN;rw[Bool.eq_iff_iff];simp
def xE(w:zu)(a:Option Addr)(A:List zz):Prop:=∀k u,A[k]?=zo u->∃r,a=zo ⟨r,0,zp⟩/\w.cell? ⟨r,k,zp⟩=zo u/\r<w.heap.size
theorem xE.behind{w:zu}{A:List zz}(h:xE w a A)(hb:Below w.heap.size w w'):xE w' a A:=fun k u G=>by obtain⟨r,E,D,B⟩:=h k u G;exact⟨r,E,(hb.cell (p:=⟨r,k,zp⟩) B).trans D,yz B hb.size⟩
theorem xE.SW{w:zu}{base:Nat}{e:TypeId}{v:zz}{n:Nat}{D:List zz}(A:w.ownsRow base e 1 v n D):∃a c,v=zf a n c/\xE w a D:=by
 rcases A.2 with⟨rfl,G⟩|⟨g,h3,cur,E,hb,H,_⟩
 .refine⟨zp,0,by rw[G],fun k u B=>?_⟩;have h1:=A.1;have h2:=(yy B).1;omega
 .refine⟨_,_,E,fun k u B=>?_⟩;subst E;have:=A.cells (g:=g) rfl k u B;rw[Xq]at this;exact⟨g,rfl,this,(yx H).1⟩
theorem Lz(l:List Int)(p:Nat)(mask:Int)(a:Option Addr)(c:Nat)(w:zu)(hn:l.length<=64)(hp:p<l.length)(B:0<=mask)(A:mask<=18446744073709551615):
 zw prog 10 #[zf a l.length c,zd zj p,zd zk mask] w fun z w'=>z=zm (zh (qN mask p))/\w'=w:=by
 have h1:(p:Int) <64:=by omega
 have h0:(p:Int) <(l.length:Int):=by omega
 go_enter func10,ntmps10;go_wp2;go_ret;exact⟨congrArg (fun b=>zm (zh b)) (Hc B A p),rfl⟩
theorem Sz(w:zu)(v:zz)(mask:Int)(h1:v.oneCell'=zq):
 zw prog 23 #[v,zd zk mask] w fun z w'=>∃A C,z=zm (.func (.func 60) #[] #[ze (zo ⟨A,0,zp⟩),ze (zo ⟨C,0,zp⟩)])/\
  w'.cell? ⟨A,0,zp⟩=zo v/\w'.cell? ⟨C,0,zp⟩=zo (zd zk mask)/\w.heap.size<=A/\w.heap.size<=C/\Below w.heap.size w w':=by
 go_enter func23,ntmps23;go_wp2;go_ret;refine⟨_,_,rfl,?_,?_,yA _,by omega,((zU _ w).alloc (yA _) _).alloc (by simp) _⟩
 .exact yP (t:=27) ((zZ _ _ _ (by simp)).trans (heap_alloc_new w _))
 .have B:=heap_alloc_new (w.alloc (zn #[v] 27)) (zn #[zd zk mask] 33);rw[World.size_alloc]at B;exact yP B
theorem Ta(m:Nat)(J:Nat->zu->Prop)(l:List Int)(mask:Int)(a:Option Addr)(c A C L:Nat)(F:l.length<=64)(K:0<=mask)(b:mask<=18446744073709551615)
 (g:∀k W,J k W->W.cell? ⟨A,0,zp⟩=zo (zf a l.length c)/\W.cell? ⟨C,0,zp⟩=zo (zd zk mask)/\xE W a (uv l))
 (hs:∀k W,J k W->qN mask k=zt->J (k+1) W)
 (p:∀k x W,J k W->l[k]?=zo x->qN mask k=zq->YieldAt Fence.wide (m+1) prog L #[zd zj k,zd zk x] W fun e j=>e=zm (zh zq)/\J (k+1) j)
 (U:zu) (I:J 0 U):
 CallsIn Fence.wide (m+2) prog 60 #[.func (.yield L) #[] #[],ze (zo ⟨A,0,zp⟩),ze (zo ⟨C,0,zp⟩)] U fun e j=>(∃v,e=zm v)/\J l.length j:=by
 obtain⟨t,o,_⟩:=g 0 U I;obtain⟨n,R⟩:=yB l.length
 rw[<-R]at t F;have z:=yw R;have Y:=yw I;refine callsIn_of_wp func60 rfl trivial ?_ rfl;simp only[ntmps60,List.size_toArray,List.length_cons,List.length_nil,Nat.reduceAdd,Nat.reduceSub,Array.replicate_succ,Array.replicate_zero,List.push_toArray,List.append_toArray,List.nil_append,List.cons_append];rw[<-R];obtain⟨s,HS,y⟩:=Qe g hs p;clear R g hs p o
 gi_wp2
 gi_loopw [8] (fun i wr=>∃k:Nat,k<=n/\i=zd zj k/\J k wr) (fun i _=>n-(intOf i).toNat)
 case atStart=>exact⟨0,by omega,rfl,Y.out⟩
 case round=>
  obtain⟨k,hk,rfl,O⟩:=hrel;have D:=yw O;by_cases T:k<n
  .obtain⟨_,o,M⟩:=s.out k wr O;have H:k<l.length:=by rw[<-z.out];exact T
   obtain⟨x,h⟩:∃x,l[k]?=zo x:=⟨_,zy H⟩
   obtain⟨r,rfl,h0,h2⟩:=M k _ (uM h);have h1:(k:Int) <64:=by omega
   have h3:IntKind.u64.wrap (k:Int)=(k:Int):=by simp only[IntKind.wrap,yq,IntKind.bits];simp;omega
   have P:=yw h;have X:=yw (Hc K b k);clear M h O H;obtain⟨q,B⟩:=yB (bits BinOp.and zk (mask/2 ^ k) 1)
   rw[<-B]at X;by_cases hb:qN mask k=zq
   .have d:(bits BinOp.and zk (mask/2 ^ k) 1 == 1)=zq:=by rw[<-B,X.out,hb]
    obtain⟨fn,tmps,assign,body,V,M⟩:=y.out k x wr D.out P.out hb;clear B hb
    gi_wp2
    refine M.mono ?_;rintro e W3 ⟨rfl,N⟩;have E:=yw N;clear V M N
    gi_wp2
    go_roundw
    case rel=>exact⟨k+1,by omega,by go_num,E.out⟩
    case measure=>simp[intOf];omega
   .have G:qN mask k=zt:=by simpa using hb
    have d:(bits BinOp.and zk (mask/2 ^ k) 1 == 1)=zt:=by rw[<-B,X.out,G]
    have E:=yw (HS.out k wr D.out G);clear B hb G
    gi_wp2
    refine⟨(fun f u=>by cases u),?_⟩
    gi_wp2
    go_roundw
    case rel=>exact⟨k+1,by omega,by go_num,E.out⟩
    case measure=>simp[intOf];omega
  .have Z:k=n:=by omega
   subst Z;clear O
   gi_wp2
   go_end0;exact⟨⟨_,rfl⟩,D.out⟩
def uT:Option Nat->Int
 | none=> -1
 | some b=>b
theorem Xr{l:List Int}{mask:Int}:∀{k b:Nat},qy l mask k=zo b->b<k
 | 0,b,h=>by cases h
 | k+1,b,h=>by
  unfold qy at h;split at h
  .split at h
   .cases h;omega
   .cases h
  .rename_i c A;have:=Xr A;split at h<;>(cases h;omega)
theorem Tc{l:List Int}{mask:Int}(h:qN mask k=zt):qy l mask (k+1)=qy l mask k:=by
 conv=>lhs;unfold qy
 cases hc:qy l mask k with
 | none=>simp[h]
 | some b=>simp[h]
theorem ur(l:List Int)(mask:Int)(a:Option Addr)(c:Nat)(w:zu)(hn:l.length<=64)(hm:0<=mask)(kc:mask<=18446744073709551615)(hR:xE w a (uv l)):
 zw prog 9 #[zf a l.length c,zd zk mask] w fun z w'=>z=zm (zd zj (uT (vw l mask)))/\Below w.heap.size w w':=by
 have HR:=yw hR;obtain⟨n,hN⟩:=yB l.length
 have HN:=yw hN;rw[<-hN]at hn ⊢;clear hR hN;refine(callsIn_wide (n:=4)).1 ?_;refine callsIn_of_wp_marks func9 rfl trivial ?_ rfl;simp only[ntmps9,List.size_toArray,List.length_cons,List.length_nil,Nat.reduceAdd,Nat.reduceSub,Array.replicate_succ,Array.replicate_zero,List.push_toArray,List.append_toArray,List.nil_append,List.cons_append]
 gi_wp2_with fail
 obtain⟨w1,Z⟩:=yB ((w.alloc (zn #[zf a n c] 27)).alloc (zn #[zd zj (-1)] 3))
 have k1:Below w.heap.size w w1:=by rw[Z];exact((zU _ w).alloc (yA _) _).alloc (by simp) _
 have d:w1.heap[w.heap.size]?=zo (zn #[zf a n c] 27 (0,0)):=by rw[Z];exact(zZ _ _ _ (by simp)).trans (heap_alloc_new w _)
 have f:w1.heap[w.heap.size+1]?=zo (zn #[zd zj (-1)] 3 (0,0)):=by have h2:=heap_alloc_new (w.alloc (zn #[zf a n c] 27)) (zn #[zd zj (-1)] 3);rw[World.size_alloc]at h2;rw[Z];exact h2
 rw[<-Z];obtain⟨D,hD⟩:=yB w.heap.size
 obtain⟨B,h9⟩:=yB (D+1)
 rw[<-hD]at d f ⊢;rw[<-h9]at f ⊢;obtain⟨HD,kf,hr,h7,P⟩:=Qg hD h9 d f k1;have H2:=(yx d).1;have O:=yP d;clear Z k1 d f hD h9;refine⟨trivial,(callsIn_wide.2 (Sz w1 (zf a n c) mask rfl)).mono ?_⟩;rintro z w2 ⟨A,C,rfl,hA,hC,H0,Hy,q⟩;have HA:=yw hA;have HC:=yw hC;have HZ:Hid (A<w2.heap.size/\C<w2.heap.size):=yw ⟨zP _ _ hA,zP _ _ hC⟩;have kg:Hid (w1.heap.size<=A/\w1.heap.size<=C):=yw ⟨H0,Hy⟩;have hf:=yw q
 have hi:Hid (w2.heap[D]?=zo (zn #[zf a n c] 27 (0,0))):=yw ((q.block D H2).trans hr.out);have H3:Hid (w2.heap[B]?=zo (zn #[zd zj (-1)] 3 (0,0))):=yw ((q.block B (yx h7.out).1).trans h7.out);clear hA hC H0 Hy q H2 O
 gi_wp2_with fail
 refine xq rfl (by simp) (gf:=60) (lb:=#[ze (zo ⟨A,0,zp⟩),ze (zo ⟨C,0,zp⟩)]) rfl trivial (enters_of func60 (by kernel_rfl) rfl) ?_;intro fn F kr hb hl;obtain⟨L,Y⟩:=yB w2.heap.size
 rw[<-Y]at hl hb ⊢;have kh:B<L:=by rw[Y];exact(yx H3.out).1
 have kd:D<L:=by rw[Y];exact(yx hi.out).1
 have k5:A<L:=by rw[Y];exact HZ.out.1
 have k7:C<L:=by rw[Y];exact HZ.out.2
 have he:=P.out.size;have ks:w.heap.size<=D:=by rw[HD.out];exact yA _
 have m:B≠D/\w.heap.size<=B:=by have:=kf.out;omega
 have kl:=(yx h7.out).1;have kj:=(yx hr.out).1;have h8:A≠B/\C≠B/\A≠D/\C≠D:=by have:=kg.out;omega
 have E:Below w.heap.size w F:=yC (yC P.out hf.out he) hb (by omega);have g:F.cell? ⟨A,0,zp⟩=zo (zf a n c):=(hb.cell (p:=⟨A,0,zp⟩) k5).trans HA.out;have h:F.cell? ⟨C,0,zp⟩=zo (zd zk mask):=(hb.cell (p:=⟨C,0,zp⟩) k7).trans HC.out;have I:F.heap[B]?=zo (zn #[zd zj (-1)] 3 (0,0)):=(hb.block B kh).trans H3.out;have O:F.heap[D]?=zo (zn #[zf a n c] 27 (0,0)):=(hb.block D kd).trans hi.out;clear Y
 refine(Ta 1 (fun k W=>OA (fun j=>j=B∨j=L+1) F W/\W.heap[B]?=zo (zn #[zd zj (uT (qy l mask k))] 3 (0,0))/\qm W L .ready fn _ _ _ _) l mask a c A C (L+1) (by rw[<-HN.out];exact hn) hm kc ?_ ?_ ?_ F ⟨.refl _ _,I,hl⟩).mono ?_
 .rintro k W ⟨X,J,M⟩;have hz:∀j,j<F.heap.size->j≠B->j≠L+1->∀o,W.cell? ⟨j,o,zp⟩=F.cell? ⟨j,o,zp⟩:=fun j G n1 n2 o=>by have e:=X.block j G (by rintro(e|e);exact n1 e;exact n2 e);simp[zN,e]
  refine⟨?_,?_,?_⟩
  .rw[hz A (zP _ _ g) h8.1 (by omega),g,HN.out]
  .rw[hz C (zP _ _ h) h8.2.1 (by omega)];exact h
  .exact HR.out.behind (E.trans (X.below E.size fun j G=>by rcases G with rfl|rfl;exact m.2;have:=E.size;omega))
 .rintro k W ⟨X,J,M⟩ V;rw[Tc V];exact⟨X,J,M⟩
 .rintro k x W ⟨X,J,M⟩ hx V;have H8:=HR.out.behind (E.trans (X.below E.size fun j G=>by rcases G with rfl|rfl;exact m.2;have:=E.size;omega));have H9:W.heap[D]?=zo (zn #[zf a n c] 27 (0,0)):=(X.block D (yx O).1 (by rintro(e|e);exact m.1 e.symm;omega)).trans O;have k4:=(yy hx).1;obtain⟨hh,Q,HX,H4,H6,Hg,ka⟩:=Qi H8 H9 hx V M J X;have hg:=(yx J).1;rw[<-HN.out]at k4;clear H8 H9 hx V J X g h I O E hb hl h8
  refine YieldAt.mono (vQ (a₁:=?a1) trivial M _ rfl (R:=fun W'=>W'.heap[B]?=zo (zn #[zd zj (uT (qy l mask (k+1)))] 3 (0,0))/\OA (fun j=>j=B∨j=L+1) W W') ?has ?hbo) ?hmo
  case has=>
   intro K hK
   gi_wp2
   exact hK
  case hbo=>
   generalize h0:qr W L .busy _ _ _ _ _=T;have h6:=H6.out.put .busy;rw[h0]at h6;have RJ:OA (fun j=>j=L+1) W T:=by rw[<-h0];exact yZ _ _ _ _ _ _ _ _
   have s:T.heap[B]?=zo (zn #[zd zj (uT (qy l mask k))] 3 (0,0)):=(RJ.block B hg (by omega)).trans Hg.out;have H7:T.heap[D]?=zo (zn #[zf a n c] 27 (0,0)):=(RJ.block D (yx Q.out).1 (by omega)).trans Q.out;have H5:xE T a (uv l):=fun j u hu=>by
    obtain⟨r,e1,e2,e3⟩:=HR.out j u hu;obtain⟨r',k2,k6,hw⟩:=hh.out j u hu;have:r'=r:=by rw[e1]at k2;cases k2;rfl
    subst this;have k8:r'≠L+1:=by have:=HD.out;omega
    have e4:=RJ.block r' hw k8;refine⟨r',e1,?_,yz hw RJ.size⟩;rw[<-k6];simp[zN,e4]
   obtain⟨h5,S,t,kb⟩:=Qf h6 RJ s H5;have I:=yP s;have O:=yP H7;have kn:T.frozen? ⟨B,0,zp⟩=zt:=by simp[zY,s]
   have H:Hid (qy l mask (k+1)=match qy l mask k with
    | none=>zo k
    | some b=>if x<l.getD b 0 then zo k else zo b):=yw (by
     conv=>lhs;unfold qy
     have k9:l.getD k 0=x:=by rw[zH,HX.out];rfl
     cases hc:qy l mask k with
     | none=>simp[H4.out]
     | some b=>simp only[H4.out,true_and,k9])
   clear h0 h6 RJ s H7 H5 M H6 hh Q Hg;cases hc:qy l mask k with
   | none=>
    rw[hc]at I H;simp only at H;have ha:T.cell? ⟨B,0,zp⟩=zo (zd zj (-1)):=I;clear I hc
    gi_wp2
    have U:(T.setCell ⟨B,0,zp⟩ (zd zj k)).heap[B]?=zo (zn #[zd zj k] 3 (0,0)):=yD t.out;have N:OA (fun j=>j=B) T (T.setCell ⟨B,0,zp⟩ (zd zj k)):=(OA.refl _ _).one;refine⟨h5.out.RB N (by omega) (by omega),?_,?_⟩
    .rw[yY _ _ _ _ _ _ _ _ (by omega),H.out];exact U
    .exact((S.out.mono fun j G=>.inr G).trans N fun j G=>.inl (.inl G)).trans (yZ _ _ _ _ _ _ _ _) fun j G=>.inl (.inr G)
   | some b=>
    have kq:=Xr hc;rw[hc]at I H;simp only at H;have ha:T.cell? ⟨B,0,zp⟩=zo (zd zj b):=I;have k0:b<l.length:=by rw[<-HN.out];omega
    obtain⟨y,hy⟩:∃y,l[b]?=zo y:=⟨_,zy k0⟩
    have hq:l.getD b 0=y:=by rw[zH,hy];rfl
    rw[hq]at H;obtain⟨r,ho,kt,kp⟩:=kb.out b _ (uM hy);have ki:Hid (∃v,T.heap[B]?=zo (zn #[v] 3 (0,0))):=yw ⟨_,t.out⟩;have hp:Hid (T.heap[B]?=zo (zn #[zd zj b] 3 (0,0))):=yw (by have:=t.out;rw[hc]at this;exact this);rw[ho]at O;have kk:(b:Int) <(n:Int):=by omega
    clear I hc hy hq ho k0 t;by_cases H1:x<y
    .rw[if_pos H1]at H
     gi_wp2
     have U:(T.setCell ⟨B,0,zp⟩ (zd zj k)).heap[B]?=zo (zn #[zd zj k] 3 (0,0)):=yD hp.out;have N:OA (fun j=>j=B) T (T.setCell ⟨B,0,zp⟩ (zd zj k)):=(OA.refl _ _).one;refine⟨h5.out.RB N (by omega) (by omega),?_,?_⟩
     .rw[yY _ _ _ _ _ _ _ _ (by omega),H.out];exact U
     .exact((S.out.mono fun j G=>.inr G).trans N fun j G=>.inl (.inl G)).trans (yZ _ _ _ _ _ _ _ _) fun j G=>.inl (.inr G)
    .rw[if_neg H1]at H
     gi_wp2
     refine⟨h5.out,?_,?_⟩
     .rw[yY _ _ _ _ _ _ _ _ (by omega),H.out];exact hp.out
     .exact(S.out.mono fun j G=>.inr G).trans (yZ _ _ _ _ _ _ _ _) fun j G=>.inl (.inr G)
  case hmo=>
   rintro e W' ⟨h1,h2,h3,h4⟩;exact⟨h1,ka.out.trans h4 fun j G=>.inl G,h3,h2⟩
 .rintro e T ⟨hv,X,J,M⟩;refine⟨hv,M,?_⟩;intro W3 hd N;have U:W3.heap[B]?=zo (zn #[zd zj (uT (vw l mask))] 3 (0,0)):=by rw[N.block B (yx J).1 (by omega)];exact J
  have k3:=yP U;have ko:=(yx U).1;have HT:Hid (Below w.heap.size w W3):=yw ((E.trans (X.below E.size fun j G=>by rcases G with rfl|rfl;exact m.2;have:=E.size;omega)).trans (N.below (by have:=X.size;have:=E.size;omega) fun j G=>by have:=E.size;omega));have ke:=yw hd;have km:w.heap.size<=L:=by omega
  clear hd N U X J M hv g h I O E hb hl
  gi_wp2
  refine⟨by simp,.inl ⟨_,_,rfl,run_takeDeferred ke.out,?_⟩⟩;exact⟨_,results_tmp rfl _ _ _,rfl,HT.out.trans ⟨rfl,rfl,rfl,by simp,fun k hk=>World.putObj_heap_other (by omega)⟩⟩
end
def fZ(l:List Bool):List zz:=l.map zh
theorem IT{l:List Bool}{x:Bool}(h:l[k]?=zo x):(fZ l)[k]?=zo (zh x):=by simp[fZ,h]
structure iN(w:zu)(D1 D2 D3:Nat)(a:Option Addr)(n c:Nat)(ra:Option Addr)(rc:Nat)(mask:Int):Prop where
 l:w.cell? ⟨D1,0,zp⟩=zo (zf a n c)
 r:w.cell? ⟨D2,0,zp⟩=zo (zf ra n rc)
 m:w.cell? ⟨D3,0,zp⟩=zo (zd zk mask)
theorem ut(w:zu)(a:Option Addr)(n c:Nat)(A:Option Addr)(B:Nat)(mask:Int):
 zw prog 186 #[zf a n c,zf A n B,zd zk mask] w fun z w'=>∃D1 D2 D3,z=zm (.func (.func 226) #[] #[ze (zo ⟨D1,0,zp⟩),ze (zo ⟨D3,0,zp⟩),ze (zo ⟨D2,0,zp⟩)])/\
  iN w' D1 D2 D3 a n c A B mask/\Below w.heap.size w w':=by
 go_enter func186,ntmps186;go_wp2;go_ret;have E:=heap_alloc_new ((w.alloc (zn #[zf a n c] 27)).alloc (zn #[zf A n B] 230)) (zn #[zd zk mask] 33);have D:=heap_alloc_new (w.alloc (zn #[zf a n c] 27)) (zn #[zf A n B] 230);rw[World.size_alloc,World.size_alloc]at E;rw[World.size_alloc]at D;refine⟨_,_,_,rfl,⟨?_,?_,?_⟩,(((zU _ w).alloc (yA _) _).alloc (by simp) _).alloc (by simp;omega) _⟩
 .exact yP (t:=27) ((zZ _ _ _ (by simp;omega)).trans ((zZ _ _ _ (by simp)).trans (heap_alloc_new w _)))
 .exact yP ((zZ _ _ _ (by simp)).trans D)
 .exact yP E
theorem Td(p:Int)(w:zu)(B E D:Nat)(l:List Int)(A:List Bool)(a:Option Addr)(n c:Nat)(G:Option Addr)(I:Nat)(mask:Int)(h:iN w B E D a n c G I mask)(hp:p<0)(H:n=l.length):
 zw prog 226 #[zd zj p,ze (zo ⟨B,0,zp⟩),ze (zo ⟨D,0,zp⟩),ze (zo ⟨E,0,zp⟩)] w fun z w'=>z=zm (zh (qF l A mask p))/\w'=w:=by
 have e:qF l A mask p=zt:=by unfold qF;simp;omega
 rw[e];have hl:=h.l;have hd:decide (0<=p)=zt:=by simp;omega
 clear h e H;go_enter func226,ntmps226;go_wp2;go_ret;exact⟨rfl,rfl⟩
theorem IU(p:Nat)(x:Int)(b:Bool)(w:zu)(V Z Y:Nat)(l:List Int)(B:List Bool)(a:Option Addr)(n c:Nat)(X:Option Addr)(s:Nat)(mask:Int)(h:iN w V Z Y a n c X s mask)(o:n=l.length)(M:n=B.length)(H:n<=64)
 (q:0<=mask) (O:mask<=18446744073709551615) (f:xE w a (uv l)) (I:xE w X (fZ B)) (J:l[p]?=zo x) (E:B[p]?=zo b):
 zw prog 226 #[zd zj p,ze (zo ⟨V,0,zp⟩),ze (zo ⟨Y,0,zp⟩),ze (zo ⟨Z,0,zp⟩)] w fun z w'=>z=zm (zh (qF l B mask p))/\w'=w:=by
 have R:=(yy J).1;have e:qF l B mask p=(qN mask p && (decide (x=0) && !b)):=by
  unfold qF;have j:l.getD p 0=x:=by rw[zH,J];rfl
  have g:B.getD p zt=b:=by rw[zH,E];rfl
  simp only[Int.toNat_natCast,j,g];have k:decide ((0:Int)<=p/\(p:Int) <l.length)=zq:=by simp;omega
  rw[k];simp
 rw[e,<-Hc q O p];obtain⟨r,N,ha,hf⟩:=f p _ (uM J);obtain⟨r2,G,he,h0⟩:=I p _ (IT E);subst N;subst G;have hl:=h.l;have hc:=h.r;have h8:=h.m;have h7:(p:Int) <(n:Int):=by omega
 have h4:(p:Int) <64:=by omega
 have h5:decide ((n:Int)<=(p:Int))=zt:=by simp;omega
 have hg:IntKind.u64.wrap (p:Int)=(p:Int):=by simp only[IntKind.wrap,yq,IntKind.bits];simp;omega
 obtain⟨U,A⟩:=yB ((bits BinOp.and zk (mask/2 ^ p) 1 == 1))
 rw[<-A];have h6:=yw A;clear f I J E h e o M H R;cases U with
 | false=>
  have T:(bits BinOp.and zk (mask/2 ^ p) 1 == 1)=zt:=A.symm;clear A;go_enter func226,ntmps226;go_wp2;go_ret;exact⟨rfl,rfl⟩
 | true=>
  have T:(bits BinOp.and zk (mask/2 ^ p) 1 == 1)=zq:=A.symm;clear A;by_cases D:x=0
  .subst D;go_enter func226,ntmps226;go_wp2;go_ret;exact⟨by
    have:¬n<=p:=by omega
    simp[this],rfl⟩
  .have h9:(x == 0)=zt:=beq_eq_false_iff_ne.2 D;have d:decide (x=0)=zt:=by simp[D]
   rw[d];clear D d;go_enter func226,ntmps226;go_wp2;go_ret;exact⟨rfl,rfl⟩
theorem KH:∀(n k:Nat),k<n->P k=zq->(∀j,j<k->P j=zt)->(yi n).find? P=zo k:=fun n k hk D A=>by rw[List.find?_eq_some_iff_getElem];refine⟨D,k,by simpa using hk,by simp,fun j B=>?_⟩;simp[A j B]
theorem Ej(n:Nat)(A:∀j,j<n->P j=zt):(yi n).find? P=zp:=by rw[List.find?_eq_none];intro x B;simp at B;simp[A x B]
structure LR(w:zu)(l:List Int)(run:List Bool)(a ra:Option Addr)(n:Nat):Prop where
 ln:n=l.length
 rn:n=run.length
 gM:n<=64
 l:xE w a (uv l)
 r:xE w ra (fZ run)
theorem LR.behind{w:zu}{l:List Int}{A:List Bool}{B:Option Addr}{n:Nat}(h:LR w l A a B n)(hb:Below w.heap.size w w'):LR w' l A a B n:=⟨h.ln,h.rn,h.gM,h.l.behind hb,h.r.behind hb⟩
theorem Eu(p:Nat)(w:zu)(E H G:Nat)(l:List Int)(B:List Bool)(a:Option Addr)(n c:Nat)(D:Option Addr)(M:Nat)(mask:Int)(h:iN w E H G a n c D M mask)(A:LR w l B a D n)(J:p<n)
 (N:0<=mask) (I:mask<=18446744073709551615):
 zw prog 226 #[zd zj p,ze (zo ⟨E,0,zp⟩),ze (zo ⟨G,0,zp⟩),ze (zo ⟨H,0,zp⟩)] w fun z w'=>z=zm (zh (qF l B mask p))/\w'=w:=
 IU p _ _ w E H G l B a n c D M mask h A.ln A.rn A.gM N I A.l A.r (zy (by rw[<-A.ln];exact J)) (zy (by rw[<-A.rn];exact J))
theorem Yd(w:zu)(l:List Int)(A:List Bool)(a:Option Addr)(n c:Nat)(H:Option Addr)(T:Nat)(mask:Int)(R:LR w l A a H n)(f:0<=mask)(J:mask<=18446744073709551615):
 zw prog 187 #[zf a n c,zf H n T,zd zk mask] w fun z w'=>z=zm (zd zj (uT ((yi n).find? fun p:Nat=>qF l A mask (p:Int))))/\Below w.heap.size w w':=by
 have d:=yw R;have h0:=R.gM;have m:=yw (ut w a n c H T mask);clear R;go_enter func187,ntmps187;go_wp2_with fail;refine m.out.mono ?_;rintro z h ⟨V,Z,Y,rfl,hid,hb⟩;obtain⟨o,U,I⟩:=Qe hid hb (d.out.behind hb);clear hid hb;go_wp2_with fail;go_loop [15] (fun i=>∃k:Nat,k<=n/\i=zd zj k/\∀j,j<k->qF l A mask (j:Int)=zt) (fun i=>n-(intOf i).toNat)
 case atStart=>exact⟨0,by omega,rfl,fun j g=>by omega⟩
 case round=>
  obtain⟨k,hk,rfl,D⟩:=hrel;have B:=yw D;clear D;by_cases E:k<n
  .have M:=yw (Eu k h V Z Y l A a n c H T mask o.out I.out E f J);obtain⟨b,hb⟩:=yB (qF l A mask (k:Int))
   rw[<-hb]at M;have G:=yw hb;clear hb;cases b with
   | true=>
    go_wp2_with fail;refine M.out.mono ?_;rintro z X ⟨rfl,O⟩;obtain rfl:=O.symm;go_wp2;go_ret;refine⟨?_,U.out⟩;rw[KH n k E G.out.symm B.out];rfl
   | false=>
    go_wp2_with fail;refine M.out.mono ?_;rintro z X ⟨rfl,O⟩;obtain rfl:=O.symm;go_wp2;go_round
    case rel=>
     refine⟨k+1,by omega,by go_num,fun j g=>?_⟩;by_cases e:j=k
     .subst e;exact G.out.symm
     .exact B.out j (by omega)
    case measure=>simp[intOf];omega
  .have N:k=n:=by omega
   subst N;go_wp2;go_ret;refine⟨?_,U.out⟩;rw[Ej k B.out];rfl
theorem UV(B:Int)(w:zu)(l:List Int)(G:List Bool)(a:Option Addr)(n c:Nat)(H:Option Addr)(O:Nat)(mask:Int)(D:LR w l G a H n)(N:0<=mask)(E:mask<=18446744073709551615)(I:vw l mask=zp):
 zw prog 135 #[zf a n c,zf H n O,zd zj B,zd zk mask] w fun z w'=>z=zm (zi #[zd zj 0,zd zj 9])/\Below w.heap.size w w':=by
 have A:=yw (ur l mask a c w (by rw[<-D.ln];exact D.gM) N E D.l);rw[I,<-D.ln]at A;clear D I;go_enter func135,ntmps135;go_wp2_with fail;refine A.out.mono ?_;rintro z w2 ⟨rfl,hb⟩;have J:=yw hb;clear hb;have M:uT zp= -1:=rfl;rw[M];go_wp2;go_ret2;exact⟨rfl,J.out⟩
theorem Te(A:Int)(b:Nat)(w:zu)(l:List Int)(R:List Bool)(a:Option Addr)(n c:Nat)(H:Option Addr)(T:Nat)(mask:Int)(E:LR w l R a H n)(g:0<=mask)(O:mask<=18446744073709551615)(U:vw l mask=zo b)
 (hid:∀W I M J,Below w.heap.size w W->iN W I M J a n c H T mask->zw prog 226 #[zd zj A,ze (zo ⟨I,0,zp⟩),ze (zo ⟨J,0,zp⟩),ze (zo ⟨M,0,zp⟩)] W fun z w'=>z=zm (zh zq)/\w'=W):
 zw prog 135 #[zf a n c,zf H n T,zd zj A,zd zk mask] w fun z w'=>z=zm (zi #[zd zj A,zd zj 0])/\Below w.heap.size w w':=by
 have D:=yw (ur l mask a c w (by rw[<-E.ln];exact E.gM) g O E.l);rw[U,<-E.ln]at D;have N:=yw hid;clear E U hid;go_enter func135,ntmps135;go_wp2_with fail;refine D.out.mono ?_;rintro z h ⟨rfl,hb⟩;have V:=yw hb;clear hb;have d:uT (zo b)=(b:Int):=rfl;rw[d];go_wp2_with fail;refine(ut h a n c H T mask).mono ?_;rintro z Y ⟨I,M,J,rfl,X,G⟩;have B:=yw (yC V.out G V.out.size);have Z:=yw (N.out Y I M J B.out X);clear X G;go_wp2_with fail;refine Z.out.mono ?_;rintro z w4 ⟨rfl,f⟩;obtain rfl:=f.symm;go_wp2;go_ret2;exact⟨rfl,B.out⟩
theorem Tf(B:Int)(b p:Nat)(w:zu)(l:List Int)(D:List Bool)(a:Option Addr)(n c:Nat)(G:Option Addr)(T:Nat)(mask:Int)(E:LR w l D a G n)(h:0<=mask)(J:mask<=18446744073709551615)(Z:vw l mask=zo b)
 (hid:∀W N R O,Below w.heap.size w W->iN W N R O a n c G T mask->zw prog 226 #[zd zj B,ze (zo ⟨N,0,zp⟩),ze (zo ⟨O,0,zp⟩),ze (zo ⟨R,0,zp⟩)] W fun z w'=>z=zm (zh zt)/\w'=W)
 (f:((yi n).find? fun p:Nat=>qF l D mask (p:Int))=zo p):
 zw prog 135 #[zf a n c,zf G n T,zd zj B,zd zk mask] w fun z w'=>z=zm (zi #[zd zj p,zd zj 0])/\Below w.heap.size w w':=by
 have H:=yw (ur l mask a c w (by rw[<-E.ln];exact E.gM) h J E.l);rw[Z,<-E.ln]at H;obtain⟨U,q,k⟩:=Qe hid E f;clear E Z hid f;go_enter func135,ntmps135;go_wp2_with fail;refine H.out.mono ?_;rintro z r ⟨rfl,hb⟩;have d:=yw hb;clear hb;have X:uT (zo b)=(b:Int):=rfl;rw[X];go_wp2_with fail;refine(ut r a n c G T mask).mono ?_;rintro z Y ⟨N,R,O,rfl,g,M⟩;have A:=yw (yC d.out M d.out.size);have m:=yw (U.out Y N R O A.out g);clear g M;go_wp2_with fail;refine m.out.mono ?_;rintro z w4 ⟨rfl,o⟩;obtain rfl:=o.symm
 have j:=yw (Yd Y l D a n c G T mask (q.out.behind A.out) h J);rw[k.out]at j;go_wp2_with fail;refine j.out.mono ?_;rintro z w5 ⟨rfl,I⟩;have V:=yw (yC A.out I A.out.size);clear I;have X:uT (zo p)=(p:Int):=rfl;rw[X];go_wp2;go_ret2;exact⟨rfl,V.out⟩
theorem Tg(b:Nat)(w:zu)(l:List Int)(A:List Bool)(a:Option Addr)(n c:Nat)(E:Option Addr)(M:Nat)(mask:Int)(D:LR w l A a E n)(d:0<=mask)(I:mask<=18446744073709551615)(U:vw l mask=zo b)
 (Y:((yi n).find? fun p:Nat=>qF l A mask (p:Int))=zp):
 zw prog 135 #[zf a n c,zf E n M,zd zj (-1),zd zk mask] w fun z w'=>z=zm (zi #[zd zj b,zd zj 0])/\Below w.heap.size w w':=by
 have G:=yw (ur l mask a c w (by rw[<-D.ln];exact D.gM) d I D.l);rw[U,<-D.ln]at G;obtain⟨o,j,N⟩:=Qe D Y D.ln;clear D U Y;go_enter func135,ntmps135;go_wp2_with fail;refine G.out.mono ?_;rintro z q ⟨rfl,hb⟩;have V:=yw hb;clear hb;have R:uT (zo b)=(b:Int):=rfl;rw[R];go_wp2_with fail;refine(ut q a n c E M mask).mono ?_;rintro z T ⟨g,k,h,rfl,Z,J⟩;have B:=yw (yC V.out J V.out.size);have X:=yw (Td (-1) T g k h l A a n c E M mask Z (by omega) N.out);rw[show qF l A mask (-1)=zt by unfold qF;simp]at X;clear Z J;go_wp2_with fail
 refine X.out.mono ?_;rintro z w4 ⟨rfl,m⟩;obtain rfl:=m.symm;have f:=yw (Yd T l A a n c E M mask (o.out.behind B.out) d I);rw[j.out]at f;go_wp2_with fail;refine f.out.mono ?_;rintro z w5 ⟨rfl,H⟩;have O:=yw (yC B.out H B.out.size);clear H;have R:uT zp=(-1:Int):=rfl;rw[R];go_wp2_with fail;go_quiet (fail);go_wp2;go_ret2;exact⟨rfl,yH O.out nq⟩
theorem Th(p b:Nat)(w:zu)(l:List Int)(B:List Bool)(a:Option Addr)(n c:Nat)(N:Option Addr)(T:Nat)(mask:Int)(I:LR w l B a N n)(X:0<=mask)(D:mask<=18446744073709551615)(L:vw l mask=zo b)(P:p<n)
 (O:qF l B mask p=zt) (hf:((yi n).find? fun p:Nat=>qF l B mask (p:Int))=zp):
 zw prog 135 #[zf a n c,zf N n T,zd zj p,zd zk mask] w fun z w'=>z=zm (zi #[zd zj ((if qN mask p=zq/\l.getD p 0<=l.getD b 0 then p else b:Nat):Int),zd zj 0])/\Below w.heap.size w w':=by
 have v:b<n:=by rw[I.ln];exact Xr L
 have V:=yw (ur l mask a c w (by rw[<-I.ln];exact I.gM) X D I.l);rw[L,<-I.ln]at V;obtain⟨Y,W,f⟩:=Qe I hf O;have h4:=I.gM;obtain⟨x,m⟩:∃x,l[p]?=zo x:=⟨_,zy (by rw[<-I.ln];exact P)⟩
 obtain⟨y,s⟩:∃y,l[b]?=zo y:=⟨_,zy (by rw[<-I.ln];exact v)⟩
 have S:l.getD p 0=x:=by rw[zH,m];rfl
 have e2:l.getD b 0=y:=by rw[zH,s];rfl
 rw[S,e2];obtain⟨HX,HY,U⟩:=Qe m s (Hc X D p);have h2:(p:Int) <64:=by omega
 have h9:(p:Int) <(n:Int):=by omega
 have ha:(b:Int) <(n:Int):=by omega
 have h8:IntKind.u64.wrap (p:Int)=(p:Int):=by simp only[IntKind.wrap,yq,IntKind.bits];simp;omega
 obtain⟨r,o,_,_⟩:=I.l p _ (uM m);subst o;obtain⟨u,Z⟩:=yB (qN mask p)
 rw[<-Z]at U ⊢;clear I L hf O m s S e2 Z;cases u with
 | false=>
  have t:(bits BinOp.and zk (mask/2 ^ p) 1 == 1)=zt:=U.out;rw[show(if zt=zq/\x<=y then p else b:Nat)=b by simp];go_enter func135,ntmps135;go_wp2_with fail;refine V.out.mono ?_;rintro z Q ⟨rfl,hb⟩;have j:=yw hb;clear hb;have R:uT (zo b)=(b:Int):=rfl;rw[R];go_wp2_with fail;refine(ut Q (zo ⟨r,0,zp⟩) n c N T mask).mono ?_;rintro z d ⟨q,C,K,rfl,O,G⟩;have A:=yw (yC j.out G j.out.size);have k:=yw (Eu p d q C K l B _ n c N T mask O (Y.out.behind A.out) P X D);rw[f.out]at k;clear O G;go_wp2_with fail;refine k.out.mono ?_;rintro z w4 ⟨rfl,F⟩;obtain rfl:=F.symm
  have h:=yw (Yd d l B _ n c N T mask (Y.out.behind A.out) X D);rw[W.out]at h;go_wp2_with fail;refine h.out.mono ?_;rintro z w5 ⟨rfl,J⟩;have E:=yw (yC A.out J A.out.size);clear J;have R:uT zp=(-1:Int):=rfl;rw[R];go_wp2_with fail;go_quiet (fail);go_wp2;go_ret2;exact⟨rfl,yH E.out nq⟩
 | true=>
  have t:(bits BinOp.and zk (mask/2 ^ p) 1 == 1)=zq:=U.out;rw[show(if zq=zq/\x<=y then p else b:Nat)=if x<=y then p else b by simp];obtain⟨g,H⟩:∃g:Nat,g=if x<=y then p else b:=⟨_,rfl⟩
  rw[<-H];have M:=yw H;clear H;go_enter func135,ntmps135;go_wp2_with fail;refine V.out.mono ?_;rintro z Q ⟨rfl,hb⟩;have j:=yw hb;clear hb;have R:uT (zo b)=(b:Int):=rfl;rw[R];go_wp2_with fail;refine(ut Q (zo ⟨r,0,zp⟩) n c N T mask).mono ?_;rintro z d ⟨q,C,K,rfl,O,G⟩;have A:=yw (yC j.out G j.out.size);have k:=yw (Eu p d q C K l B _ n c N T mask O (Y.out.behind A.out) P X D);rw[f.out]at k;clear O G;go_wp2_with fail;refine k.out.mono ?_;rintro z w4 ⟨rfl,F⟩;obtain rfl:=F.symm;have h:=yw (Yd d l B _ n c N T mask (Y.out.behind A.out) X D);rw[W.out]at h
  go_wp2_with fail;refine h.out.mono ?_;rintro z w5 ⟨rfl,J⟩;have E:=yw (yC A.out J A.out.size);obtain⟨r1,q1,h5,h1⟩:=(Y.out.behind E.out).l p _ (uM HX.out);obtain⟨r2,q2,h6,h3⟩:=(Y.out.behind E.out).l b _ (uM HY.out);cases q1;cases q2;clear J;have R:uT zp=(-1:Int):=rfl;rw[R];go_wp2_with fail;go_quiet (fail);by_cases h7:x<=y
  .go_wp2;go_ret2;exact⟨by rw[M.out,if_pos (by omega)];rfl,yH E.out nq⟩
  .go_wp2;go_ret2;exact⟨by rw[M.out,if_neg (by omega)];rfl,yH E.out nq⟩
theorem Ov(A:Int)(w:zu)(l:List Int)(B:List Bool)(a:Option Addr)(n c:Nat)(G:Option Addr)(I:Nat)(mask:Int)(J:LR w l B a G n)(N:0<=mask)(D:mask<=18446744073709551615)(Y:A= -1∨∃p:Nat,A=p/\p<n):
 zw prog 135 #[zf a n c,zf G n I,zd zj A,zd zk mask] w fun z w'=>(z=match xR l B A mask with
  | none=>zm (zi #[zd zj 0,zd zj 9])
  | some p=>zm (zi #[zd zj (p:Nat),zd zj 0]))/\Below w.heap.size w w':=by
 have H:=J.ln;cases h0:vw l mask with
 | none=>
  have e:xR l B A mask=zp:=by unfold xR;rw[h0]
  rw[e];exact UV A w l B a n c G I mask J N D h0
 | some b=>
  have RK:∀W O V R,Below w.heap.size w W->iN W O V R a n c G I mask->zw prog 226 #[zd zj A,ze (zo ⟨O,0,zp⟩),ze (zo ⟨R,0,zp⟩),ze (zo ⟨V,0,zp⟩)] W fun z w'=>z=zm (zh (qF l B mask A))/\w'=W:=by
   intro W O V R hb E;rcases Y with rfl|⟨p,rfl,M⟩
   .exact Td (-1) W O V R l B a n c G I mask E (by omega) H
   .exact Eu p W O V R l B a n c G I mask E (J.behind hb) M N D
  by_cases E:qF l B mask A=zq
  .have e:xR l B A mask=zo A.toNat:=by unfold xR;rw[h0];simp only;rw[if_pos E]
   rw[e];have U:((A.toNat:Nat):Int)=A:=by
    rcases Y with rfl|⟨p,rfl,_⟩
    .unfold qF at E;simp at E
    .simp
   simp only[U];rw[E]at RK;exact Te A b w l B a n c G I mask J N D h0 RK
  .have T:qF l B mask A=zt:=by simpa using E
   rw[T]at RK;cases hf:((yi n).find? fun p:Nat=>qF l B mask (p:Int))with
   | some p=>
    have e:xR l B A mask=zo p:=by unfold xR;rw[h0];simp only;rw[if_neg E,<-H,hf]
    rw[e];exact Tf A b p w l B a n c G I mask J N D h0 RK hf
   | none=>
    rcases Y with rfl|⟨p,rfl,M⟩
    .have e:xR l B (-1) mask=zo b:=by unfold xR;rw[h0];simp only;rw[if_neg E,<-H,hf];simp
     rw[e];exact Tg b w l B a n c G I mask J N D h0 hf
    .have e:xR l B p mask=zo (if qN mask p=zq/\l.getD p 0<=l.getD b 0 then p else b):=by
      unfold xR;rw[h0];simp only;rw[if_neg E,<-H,hf];simp only[Int.toNat_natCast];have Z:(0:Int)<=p/\(p:Int) <n:=by omega
      by_cases X:qN mask p=zq/\l.getD p 0<=l.getD b 0
      .rw[if_pos ⟨Z.1,Z.2,X.1,X.2⟩,if_pos X]
      .rw[if_neg (fun h=>X ⟨h.2.2.1,h.2.2.2⟩),if_neg X]
     rw[e];exact Th p b w l B a n c G I mask J N D h0 M T hf
section
open Go.Shelf
attribute [local go_sem] Oper.semAt_some
def uh(l:List Int)(q mask:Int):Nat->Option Nat
 | 0=>zp
 | k+1=>match uh l q mask k with
  | none=>if qN mask k=zq/\(k:Int)≠q then zo k else zp
  | some b=>if qN mask k=zq/\(k:Int)≠q/\l.getD b 0<l.getD k 0 then zo k else zo b
def GJ(l:List Int)(q mask:Int):Option Nat:=uh l q mask l.length
theorem Ig{l:List Int}{q mask:Int}:∀{k b:Nat},uh l q mask k=zo b->b<k
 | 0,b,h=>by cases h
 | k+1,b,h=>by
  unfold uh at h;split at h
  .split at h
   .cases h;omega
   .cases h
  .rename_i c A;have:=Ig A;split at h<;>(cases h;omega)
theorem YC{l:List Int}{q mask:Int}(h:qN mask k=zt):uh l q mask (k+1)=uh l q mask k:=by
 conv=>lhs;unfold uh
 cases hc:uh l q mask k with
 | none=>simp[h]
 | some b=>simp[h]
theorem GK(l:List Int)(q mask:Int)(a:Option Addr)(c:Nat)(w:zu)(hn:l.length<=64)(hm:0<=mask)(kp:mask<=18446744073709551615)(hR:xE w a (uv l)):
 zw prog 102 #[zf a l.length c,zd zj q,zd zk mask] w fun z w'=>z=zm (zd zj (uT (GJ l q mask)))/\Below w.heap.size w w':=by
 have HR:=yw hR;obtain⟨n,hN⟩:=yB l.length
 have HN:=yw hN;rw[<-hN]at hn ⊢;clear hR hN;refine(callsIn_wide (n:=4)).1 ?_;refine callsIn_of_wp_marks func102 rfl trivial ?_ rfl;simp only[ntmps102,List.size_toArray,List.length_cons,List.length_nil,Nat.reduceAdd,Nat.reduceSub,Array.replicate_succ,Array.replicate_zero,List.push_toArray,List.append_toArray,List.nil_append,List.cons_append]
 gi_wp2_with fail
 obtain⟨w1,d⟩:=yB (((w.alloc (zn #[zf a n c] 27)).alloc (zn #[zd zj q] 3)).alloc (zn #[zd zj (-1)] 3))
 have kd:Below w.heap.size w w1:=by rw[d];exact(((zU _ w).alloc (yA _) _).alloc (by simp) _).alloc (by simp;omega) _
 have h:w1.heap[w.heap.size]?=zo (zn #[zf a n c] 27 (0,0)):=by rw[d];exact(zZ _ _ _ (by simp;omega)).trans ((zZ _ _ _ (by simp)).trans (heap_alloc_new w _))
 have m:w1.heap[w.heap.size+1]?=zo (zn #[zd zj q] 3 (0,0)):=by have h2:=heap_alloc_new (w.alloc (zn #[zf a n c] 27)) (zn #[zd zj q] 3);rw[World.size_alloc]at h2;rw[d];exact(zZ _ _ _ (by simp)).trans h2
 have t:w1.heap[w.heap.size+2]?=zo (zn #[zd zj (-1)] 3 (0,0)):=by have h2:=heap_alloc_new ((w.alloc (zn #[zf a n c] 27)).alloc (zn #[zd zj q] 3)) (zn #[zd zj (-1)] 3);rw[World.size_alloc,World.size_alloc]at h2;rw[d];exact h2
 rw[<-d];obtain⟨D,hD⟩:=yB w.heap.size
 obtain⟨Q,h9⟩:=yB (D+1)
 obtain⟨B,h8⟩:=yB (D+2)
 rw[<-hD]at h t m ⊢;rw[show D+1+1=D+2 from rfl,<-h8,<-h9];rw[<-h8]at t;rw[<-h9]at m;have kr:=yw h9;have km:=yw m;have H4:=(yx m).1;obtain⟨HD,k8,H3,hh,h0⟩:=Qg hD h8 h t kd;have H9:=(yx h).1;have O:=yP h;clear d kd h t m hD h8 h9;refine⟨trivial,(callsIn_wide.2 (Sz w1 (zf a n c) mask rfl)).mono ?_⟩;rintro z w2 ⟨A,C,rfl,hA,hC,H7,kb,f⟩;have HA:=yw hA;have HC:=yw hC;have HZ:Hid (A<w2.heap.size/\C<w2.heap.size):=yw ⟨zP _ _ hA,zP _ _ hC⟩
 have kw:Hid (w1.heap.size<=A/\w1.heap.size<=C):=yw ⟨H7,kb⟩;have hq:=yw f;have hz:Hid (w2.heap[D]?=zo (zn #[zf a n c] 27 (0,0))):=yw ((f.block D H9).trans H3.out);have k9:Hid (w2.heap[Q]?=zo (zn #[zd zj q] 3 (0,0))):=yw ((f.block Q H4).trans km.out);have Hg:Hid (w2.heap[B]?=zo (zn #[zd zj (-1)] 3 (0,0))):=yw ((f.block B (yx hh.out).1).trans hh.out);clear hA hC H7 kb f H9 O H4
 gi_wp2_with fail
 refine xq rfl (by simp) (gf:=60) (lb:=#[ze (zo ⟨A,0,zp⟩),ze (zo ⟨C,0,zp⟩)]) rfl trivial (enters_of func60 (by kernel_rfl) rfl) ?_;intro fn s K7 hb hl;obtain⟨L,U⟩:=yB w2.heap.size
 rw[<-U]at hl hb ⊢;have kx:B<L:=by rw[U];exact(yx Hg.out).1
 have ks:Q<L:=by rw[U];exact(yx k9.out).1
 have kt:D<L:=by rw[U];exact(yx hz.out).1
 have kh:A<L:=by rw[U];exact HZ.out.1
 have kj:C<L:=by rw[U];exact HZ.out.2
 have hp:=h0.out.size;have K8:w.heap.size<=D:=by rw[HD.out];exact yA _
 have P:B≠D/\w.heap.size<=B:=by have:=k8.out;omega
 have ku:Q≠B/\w.heap.size<=Q:=by have:=k8.out;have:=kr.out;omega
 have K1:=(yx hh.out).1;have kz:=(yx H3.out).1;have hi:A≠B/\C≠B/\A≠D/\C≠D:=by have:=kw.out;omega
 have H:Below w.heap.size w s:=yC (yC h0.out hq.out hp) hb (by omega);have v:s.cell? ⟨A,0,zp⟩=zo (zf a n c):=(hb.cell (p:=⟨A,0,zp⟩) kh).trans HA.out;have F:s.cell? ⟨C,0,zp⟩=zo (zd zk mask):=(hb.cell (p:=⟨C,0,zp⟩) kj).trans HC.out;have I:s.heap[B]?=zo (zn #[zd zj (-1)] 3 (0,0)):=(hb.block B kx).trans Hg.out;have g:s.heap[Q]?=zo (zn #[zd zj q] 3 (0,0)):=(hb.block Q ks).trans k9.out;have O:s.heap[D]?=zo (zn #[zf a n c] 27 (0,0)):=(hb.block D kt).trans hz.out;clear U
 refine(Ta 1 (fun k W=>OA (fun j=>j=B∨j=L+1) s W/\W.heap[B]?=zo (zn #[zd zj (uT (uh l q mask k))] 3 (0,0))/\qm W L .ready fn _ _ _ _) l mask a c A C (L+1) (by rw[<-HN.out];exact hn) hm kp ?_ ?_ ?_ s ⟨.refl _ _,I,hl⟩).mono ?_
 .rintro k W ⟨Y,J,M⟩;have H6:∀j,j<s.heap.size->j≠B->j≠L+1->∀o,W.cell? ⟨j,o,zp⟩=s.cell? ⟨j,o,zp⟩:=fun j E n1 n2 o=>by have e:=Y.block j E (by rintro(e|e);exact n1 e;exact n2 e);simp[zN,e]
  refine⟨?_,?_,?_⟩
  .rw[H6 A (zP _ _ v) hi.1 (by omega),v,HN.out]
  .rw[H6 C (zP _ _ F) hi.2.1 (by omega)];exact F
  .exact HR.out.behind (H.trans (Y.below H.size fun j E=>by rcases E with rfl|rfl;exact P.2;have:=H.size;omega))
 .rintro k W ⟨Y,J,M⟩ Z;rw[YC Z];exact⟨Y,J,M⟩
 .rintro k x W ⟨Y,J,M⟩ hx Z;have k4:=HR.out.behind (H.trans (Y.below H.size fun j E=>by rcases E with rfl|rfl;exact P.2;have:=H.size;omega));have k5:W.heap[D]?=zo (zn #[zf a n c] 27 (0,0)):=(Y.block D (yx O).1 (by rintro(e|e);exact P.1 e.symm;omega)).trans O;have k7:W.heap[Q]?=zo (zn #[zd zj q] 3 (0,0)):=(Y.block Q (yx g).1 (by rintro(e|e);exact ku.1 e;omega)).trans g;have he:=yw k7;have kg:=(yy hx).1
  obtain⟨hw,ha,HX,Hy,k1,ka,kn⟩:=Qi k4 k5 hx Z M J Y;have hr:=(yx J).1;rw[<-HN.out]at kg;clear k4 k5 k7 hx Z J Y v F I O g H hb hl hi;refine YieldAt.mono (vQ (a₁:=?a1) trivial M _ rfl (R:=fun W'=>W'.heap[B]?=zo (zn #[zd zj (uT (uh l q mask (k+1)))] 3 (0,0))/\OA (fun j=>j=B∨j=L+1) W W') ?has ?hbo) ?hmo
  case has=>
   intro K hK
   gi_wp2
   exact hK
  case hbo=>
   generalize hf:qr W L .busy _ _ _ _ _=T;have hg:=k1.out.put .busy;rw[hf]at hg;have RJ:OA (fun j=>j=L+1) W T:=by rw[<-hf];exact yZ _ _ _ _ _ _ _ _
   have h6:T.heap[B]?=zo (zn #[zd zj (uT (uh l q mask k))] 3 (0,0)):=(RJ.block B hr (by omega)).trans ka.out;have k3:T.heap[D]?=zo (zn #[zf a n c] 27 (0,0)):=(RJ.block D (yx ha.out).1 (by omega)).trans ha.out;have k2:T.heap[Q]?=zo (zn #[zd zj q] 3 (0,0)):=(RJ.block Q (yx he.out).1 (by omega)).trans he.out;have k0:xE T a (uv l):=fun j u hu=>by
    obtain⟨r,e1,e2,e3⟩:=HR.out j u hu;obtain⟨r',ke,ki,H5⟩:=hw.out j u hu;have:r'=r:=by rw[e1]at ke;cases ke;rfl
    subst this;have kk:r'≠L+1:=by have:=HD.out;omega
    have e4:=RJ.block r' H5 kk;refine⟨r',e1,?_,yz H5 RJ.size⟩;rw[<-ki];simp[zN,e4]
   obtain⟨h5,S,h7,ko⟩:=Qf hg RJ h6 k0;have I:=yP h6;have O:=yP k3;have K3:T.frozen? ⟨B,0,zp⟩=zt:=by simp[zY,h6]
   have g:=yP k2;have G:Hid (uh l q mask (k+1)=if(k:Int)=q then uh l q mask k else match uh l q mask k with
    | none=>zo k
    | some b=>if l.getD b 0<x then zo k else zo b):=yw (by
     conv=>lhs;unfold uh
     have kl:l.getD k 0=x:=by rw[zH,HX.out];rfl
     by_cases hk:(k:Int)=q
     .rw[if_pos hk];cases hc:uh l q mask k with
      | none=>simp[hk]
      | some b=>simp[hk]
     .rw[if_neg hk];cases hc:uh l q mask k with
      | none=>simp[Hy.out,hk]
      | some b=>simp only[Hy.out,true_and,kl,ne_eq,hk,not_false_eq_true])
   clear hf hg RJ h6 k3 k2 k0 M k1 hw ha he ka;by_cases X:(k:Int)=q
   .rw[if_pos X]at G;have kq:((k:Int) != q)=zt:=by simp[X]
    obtain⟨vb,k6⟩:=yB (uT (uh l q mask k))
    rw[<-k6]at I;clear k6 X
    gi_wp2
    refine⟨h5.out,?_,?_⟩
    .rw[yY _ _ _ _ _ _ _ _ (by omega),G.out];exact h7.out
    .exact(S.out.mono fun j E=>.inr E).trans (yZ _ _ _ _ _ _ _ _) fun j E=>.inl (.inr E)
   .rw[if_neg X]at G;have kq:((k:Int) != q)=zq:=by simp[X]
    cases hc:uh l q mask k with
    | none=>
     rw[hc]at I G;simp only at G;have ho:T.cell? ⟨B,0,zp⟩=zo (zd zj (-1)):=I;clear I hc X
     gi_wp2
     have V:(T.setCell ⟨B,0,zp⟩ (zd zj k)).heap[B]?=zo (zn #[zd zj k] 3 (0,0)):=yD h7.out;have N:OA (fun j=>j=B) T (T.setCell ⟨B,0,zp⟩ (zd zj k)):=(OA.refl _ _).one;refine⟨h5.out.RB N (by omega) (by omega),?_,?_⟩
     .rw[yY _ _ _ _ _ _ _ _ (by omega),G.out];exact V
     .exact((S.out.mono fun j E=>.inr E).trans N fun j E=>.inl (.inl E)).trans (yZ _ _ _ _ _ _ _ _) fun j E=>.inl (.inr E)
    | some b=>
     have K6:=Ig hc;rw[hc]at I G;simp only at G;have ho:T.cell? ⟨B,0,zp⟩=zo (zd zj b):=I;have kc:b<l.length:=by rw[<-HN.out];omega
     obtain⟨y,hy⟩:∃y,l[b]?=zo y:=⟨_,zy kc⟩
     have H2:l.getD b 0=y:=by rw[zH,hy];rfl
     rw[H2]at G;obtain⟨r,H0,K9,K5⟩:=ko.out b _ (uM hy);have H1:Hid (T.heap[B]?=zo (zn #[zd zj b] 3 (0,0))):=yw (by have:=h7.out;rw[hc]at this;exact this);rw[H0]at O;have K0:(b:Int) <(n:Int):=by omega
     have ky:(0:Int)<=(b:Int):=by omega
     clear I hc hy H2 H0 kc h7 X;by_cases H8:y<x
     .rw[if_pos H8]at G
      gi_wp2
      have V:(T.setCell ⟨B,0,zp⟩ (zd zj k)).heap[B]?=zo (zn #[zd zj k] 3 (0,0)):=yD H1.out;have N:OA (fun j=>j=B) T (T.setCell ⟨B,0,zp⟩ (zd zj k)):=(OA.refl _ _).one;refine⟨h5.out.RB N (by omega) (by omega),?_,?_⟩
      .rw[yY _ _ _ _ _ _ _ _ (by omega),G.out];exact V
      .exact((S.out.mono fun j E=>.inr E).trans N fun j E=>.inl (.inl E)).trans (yZ _ _ _ _ _ _ _ _) fun j E=>.inl (.inr E)
     .rw[if_neg H8]at G
      gi_wp2
      refine⟨h5.out,?_,?_⟩
      .rw[yY _ _ _ _ _ _ _ _ (by omega),G.out];exact H1.out
      .exact(S.out.mono fun j E=>.inr E).trans (yZ _ _ _ _ _ _ _ _) fun j E=>.inl (.inr E)
  case hmo=>
   rintro e W' ⟨h1,h2,h3,h4⟩;exact⟨h1,kn.out.trans h4 fun j E=>.inl E,h3,h2⟩
 .rintro e T ⟨hv,Y,J,M⟩;refine⟨hv,M,?_⟩;intro W3 hd N;have V:W3.heap[B]?=zo (zn #[zd zj (uT (GJ l q mask))] 3 (0,0)):=by rw[N.block B (yx J).1 (by omega)];exact J
  have kf:=yP V;have K4:=(yx V).1;have HT:Hid (Below w.heap.size w W3):=yw ((H.trans (Y.below H.size fun j E=>by rcases E with rfl|rfl;exact P.2;have:=H.size;omega)).trans (N.below (by have:=Y.size;have:=H.size;omega) fun j E=>by have:=H.size;omega));have kv:=yw hd;have K2:w.heap.size<=L:=by omega
  clear hd N V Y J M hv v F I O g H hb hl
  gi_wp2
  refine⟨by simp,.inl ⟨_,_,rfl,run_takeDeferred kv.out,?_⟩⟩;exact⟨_,results_tmp rfl _ _ _,rfl,HT.out.trans ⟨rfl,rfl,rfl,by simp,fun k hk=>World.putObj_heap_other (by omega)⟩⟩
end
def iO(z:Ending):Prop:=∃b:Bool,z=zm (zh b)
structure Cd where
 n:Int
 w:Int
 m:Int
 r:Bool
abbrev AI(c:Cd):Array zz:=#[zd zj c.n,zd zk c.w,zd zk c.m,zh c.r]
theorem JT(a:Int)(w:zu):zw prog 238 #[zd zj a] w fun z w'=>z=zm (zh zt)/\w'=w:=by go_enter func238,ntmps238;go_wp2;go_ret;exact⟨by simp,rfl⟩
theorem JU(a:Int)(w:zu):zw prog 208 #[zd zk a] w fun z w'=>z=zm (zh zt)/\w'=w:=by go_enter func208,ntmps208;go_wp2;go_ret;exact⟨by simp,rfl⟩
theorem JV(a b:Int)(w:zu):zw prog 210 #[zd zj a,zd zj b] w fun z w'=>(∃n:Int,(n= -1∨n=0∨n=1)/\z=zm (zd zj n))/\w'=w:=by
 have E:=yw (JT a w);have B:=yw (JT b w);go_enter func210,ntmps210;go_wp2_with fail;refine E.out.mono ?_;rintro z D ⟨rfl,A⟩;obtain rfl:=A.symm;go_wp2_with fail;refine B.out.mono ?_;rintro z D ⟨rfl,A⟩;obtain rfl:=A.symm;by_cases h1:a<b
 .go_wp2;go_ret;exact⟨⟨-1,.inl rfl,rfl⟩,rfl⟩
 .by_cases h2:b<a
  .go_wp2;go_ret;exact⟨⟨1,.inr (.inr rfl),rfl⟩,rfl⟩
  .go_wp2;go_ret;exact⟨⟨0,.inr (.inl rfl),rfl⟩,rfl⟩
theorem LS(a b:Int)(w:zu):zw prog 159 #[zd zk a,zd zk b] w fun z w'=>(∃n:Int,(n= -1∨n=0∨n=1)/\z=zm (zd zj n))/\w'=w:=by
 have E:=yw (JU a w);have B:=yw (JU b w);go_enter func159,ntmps159;go_wp2_with fail;refine E.out.mono ?_;rintro z D ⟨rfl,A⟩;obtain rfl:=A.symm;go_wp2_with fail;refine B.out.mono ?_;rintro z D ⟨rfl,A⟩;obtain rfl:=A.symm;by_cases h1:a<b
 .go_wp2;go_ret;exact⟨⟨-1,.inl rfl,rfl⟩,rfl⟩
 .by_cases h2:b<a
  .go_wp2;go_ret;exact⟨⟨1,.inr (.inr rfl),rfl⟩,rfl⟩
  .go_wp2;go_ret;exact⟨⟨0,.inr (.inl rfl),rfl⟩,rfl⟩
theorem GL(a b:Int)(r:Nat)(c:Nat)(w:zu)(D:w.cell? ⟨r,0,zp⟩=zo (zd zj a))(G:w.cell? ⟨r,1,zp⟩=zo (zd zj b)):zw prog 209 #[zf (zo ⟨r,0,zp⟩) 2 c] w fun z w'=>(∃n:Int,z=zm (zd zj n))/\w'=w:=by
 have h3:=zP _ _ D;go_enter func209,ntmps209;go_wp2;go_loopw [5,8] (fun _ i wr=>(∃k:Nat,k<=2/\i=zd zj k)/\wr=w) (fun _ i _=>2-(intOf i).toNat)
 case atStart=>exact⟨⟨0,by omega,rfl⟩,rfl⟩
 case round=>
  obtain⟨⟨k,hk,rfl⟩,rfl⟩:=hrel;by_cases A:k=2
  .subst A;go_wp2;go_ret;exact⟨⟨_,rfl⟩,rfl⟩
  .obtain⟨v,hv⟩:∃v:Int,wr.cell? ⟨r,k,zp⟩=zo (zd zj v):=by
    by_cases E:k=0
    .subst E;exact⟨a,D⟩
    .have:k=1:=by omega
     subst this;exact⟨b,G⟩
   have h2:(k:Int) <2:=by omega
   clear D G A;by_cases B:v=0
   .have hb:(v != 0)=zt:=by simp[B]
    go_wp2;go_roundw
    case rel=>exact⟨⟨k+1,by omega,by go_num⟩,by simp⟩
    case measure=>simp[intOf];omega
   .have hb:(v != 0)=zq:=by simp[B]
    go_wp2;go_ret;exact⟨⟨_,rfl⟩,rfl⟩
theorem GM(a b:Int)(w:zu):zw prog 154 #[zd zk a,zd zk b] w fun z w'=>(∃n:Int,z=zm (zd zk n))/\w'=w:=by
 by_cases h:a<=b
 .go_enter func154,ntmps154;go_wp2
  all_goals
   go_ret;exact⟨⟨_,rfl⟩,rfl⟩
 .go_enter func154,ntmps154;go_wp2
  all_goals
   go_ret;exact⟨⟨_,rfl⟩,rfl⟩
theorem GN(c:Cd)(B A:Int)(w:zu)(hm:0<=c.m/\c.m<=18446744073709551615)(D:0<=A/\A<64):
 zw prog 156 #[zg (AI c),zd zk B,zd zj A] w fun z w'=>iO z/\Below w.heap.size w w':=by
 have h0:IntKind.u64.wrap A=A:=by simp only[IntKind.wrap,yq,IntKind.bits];simp;omega
 obtain⟨h,rfl⟩:=Int.eq_ofNat_of_zero_le D.1;go_enter func156,ntmps156;go_wp2
 all_goals
  go_ret;exact⟨⟨_,rfl⟩,yE w _⟩
theorem JW(c:Cd)(B A:Int)(G H:Nat)(w:zu)(O:0<=c.m/\c.m<=18446744073709551615)(J:0<=A/\A<64)(N:w.cell? ⟨G,0,zp⟩=zo (zd zk B))(M:w.cell? ⟨H,0,zp⟩=zo (zd zj A)):
 zw prog 155 #[zg (AI c),ze (zo ⟨G,0,zp⟩),ze (zo ⟨H,0,zp⟩)] w fun z w'=>iO z/\Below w.heap.size w w':=by
 have h0:=zP _ _ N;have h1:=zP _ _ M;have E:=yw (fun W=>GN c B A W O J);go_enter func155,ntmps155;go_wp2_with fail;refine(E.out _).mono ?_;rintro z w2 ⟨⟨b,rfl⟩,D⟩;have I:=yw (yC (yE w _) D (by simp));clear D;go_wp2;go_ret;exact⟨⟨_,rfl⟩,I.out⟩
theorem JX(a b:Cd)(w:zu):
 zw prog 158 #[zg (AI a),zg (AI b)] w fun z w'=>(∃n,z=zm (zd zj n))/\Below w.heap.size w w':=by
 have B:=yw (fun W=>LS b.w a.w W);go_enter func158,ntmps158;go_wp2_with fail;refine(B.out _).mono ?_;rintro z w2 ⟨⟨n,-,rfl⟩,rfl⟩;have A:=yw (((zU _ w).alloc (yA _) (zn (AI a) 191)).alloc (by simp) (zn (AI b) 191));go_wp2;go_ret;exact⟨⟨_,rfl⟩,A.out⟩
def IsI(z:Ending):Prop:=∃n:Int,z=zm (zd zj n)
theorem LU(c:Cd)(I A:Int)(K G H:Nat)(w:zu)(h:0<=c.m/\c.m<=18446744073709551615)(g:0<=A/\A<64)
 (a:w.cell? ⟨K,0,zp⟩=zo (.func (.func 155) #[] #[ze (zo ⟨G,0,zp⟩),ze (zo ⟨H,0,zp⟩)])) (U:w.cell? ⟨G,0,zp⟩=zo (zd zk I)) (V:w.cell? ⟨H,0,zp⟩=zo (zd zj A)):
 zw prog 157 #[zg (AI c),ze (zo ⟨K,0,zp⟩),ze (zo ⟨G,0,zp⟩)] w fun z w'=>iO z/\Below w.heap.size w w':=by
 have E:=zP _ _ U;have R:=zP _ _ V;have Y:=zP _ _ a;obtain⟨w1,B⟩:=yB (w.alloc (zn (AI c) 191))
 have D:Below w.heap.size w w1:=by rw[B];exact yE w _
 have N:w1.heap[w.heap.size]?=zo (zn (AI c) 191 (0,0)):=by rw[B];exact heap_alloc_new w _
 obtain⟨T,f,O,X⟩:=Qf N (JW c I A G H w1 h g ((D.cell (p:=⟨G,0,zp⟩) E).trans U) ((D.cell (p:=⟨H,0,zp⟩) R).trans V)) D U;clear N D;go_enter func157,ntmps157;go_wp2_with fail;rw[show w.alloc (zn (AI c) 191)=w1 from B.symm];clear B;refine f.out.mono ?_;rintro z d ⟨⟨b,rfl⟩,J⟩;have M:=(J.block w.heap.size (yx T.out).1).trans T.out;have c1:d.cell? ⟨w.heap.size,1,zp⟩=zo (zd zk c.w):=by simp[zN,M]
 have hb:=yC O.out J O.out.size;have h0:d.cell? ⟨G,0,zp⟩=zo (zd zk I):=(hb.cell (p:=⟨G,0,zp⟩) E).trans X.out;have Z:=yw hb;clear J M hb U E a Y V R;cases b with
 | true=>
  go_wp2;go_ret;exact⟨⟨_,rfl⟩,Z.out⟩
 | false=>
  go_wp2;go_ret;exact⟨⟨_,rfl⟩,Z.out⟩
theorem LV(a b:Cd)(K:Nat)(w:zu)(E:w.cell? ⟨K,0,zp⟩=zo (.func (.func 158) #[] #[])):
 zw prog 161 #[zg (AI a),zg (AI b),ze (zo ⟨K,0,zp⟩)] w fun z w'=>IsI z/\Below w.heap.size w w':=by
 have h0:=zP _ _ E;have B:=yw (fun W=>JX a b W);go_enter func161,ntmps161;go_wp2_with fail;refine(B.out _).mono ?_;rintro z w2 ⟨⟨n,rfl⟩,A⟩;have D:=yw (yC (((zU _ w).alloc (yA _) (zn (AI a) 191)).alloc (by simp) (zn (AI b) 191)) A (by simp;omega));clear A;go_wp2;go_ret;exact⟨⟨_,rfl⟩,D.out⟩
def Pj(w:zu)(a:Option Addr)(l:List Cd):Prop:=∀k c,l[k]?=zo c->∃r,a=zo ⟨r,0,zp⟩/\r<w.heap.size/\w.cell? ⟨r,k*4,zp⟩=zo (zd zj c.n)/\w.cell? ⟨r,k*4+1,zp⟩=zo (zd zk c.w)/\w.cell? ⟨r,k*4+2,zp⟩=zo (zd zk c.m)/\w.cell? ⟨r,k*4+3,zp⟩=zo (zh c.r)
theorem Pj.behind{w:zu}{l:List Cd}(h:Pj w a l)(hb:Below w.heap.size w w'):Pj w' a l:=fun k c I=>by obtain⟨r,E,A,H,D,G,B⟩:=h k c I;exact⟨r,E,yz A hb.size,(hb.cell (p:=⟨r,_,zp⟩) A).trans H,(hb.cell (p:=⟨r,_,zp⟩) A).trans D,(hb.cell (p:=⟨r,_,zp⟩) A).trans G,(hb.cell (p:=⟨r,_,zp⟩) A).trans B⟩
theorem NS(A1 A2:Nat)(l:List Cd)(n:Nat)(a:Option Addr)(S:Nat)(w:zu)(hn:n=l.length)(h5:n<=1000)(hR:Pj w a l)
 (hf:∀W c,Below w.heap.size w W->c∈l->zw prog 157 #[zg (AI c),ze (zo ⟨A1,0,zp⟩),ze (zo ⟨A2,0,zp⟩)] W fun z P=>iO z/\Below W.heap.size W P)
 (hg:∀W c d,Below w.heap.size w W->c∈l->d∈l->zw prog 158 #[zg (AI c),zg (AI d)] W fun z P=>IsI z/\Below W.heap.size W P):
 zw prog 160 #[zf a n S,.func (.func 157) #[] #[ze (zo ⟨A1,0,zp⟩),ze (zo ⟨A2,0,zp⟩)],.func (.func 158) #[] #[]] w fun z w'=>(∃(k:Nat) (b:Bool),(b=zq->k<n)/\z=zm (zi #[zd zj k,zh b]))/\Below w.heap.size w w':=by
 obtain⟨HR,HF,HG,HN⟩:=Qf hR hf hg hn;clear hR hf hg hn;go_enter func160,ntmps160;go_wp2_with fail;go_loopw [8,9,10,11,14] (fun v8 v9 _ _ i wr=>(∃(k at_:Nat) (b:Bool),k<=n/\i=zd zj k/\v8=zd zj at_/\v9=zh b/\(b=zq->at_<n))/\Below w.heap.size w wr) (fun _ _ _ _ i _=>n-(intOf i).toNat)
 case atStart=>exact⟨⟨0,0,zt,by omega,rfl,rfl,rfl,by simp⟩,zU _ _⟩
 case round=>
  obtain⟨⟨k,t,b,hk,rfl,rfl,rfl,Y⟩,hb⟩:=hrel;have g:=yw hb;have N:=yw Y;clear hb Y;by_cases o:k<n
  .have h2:(k:Int) <(n:Int):=by omega
   have Q:k<l.length:=by rw[<-HN.out];exact o
   obtain⟨c,u⟩:∃c,l[k]?=zo c:=⟨_,zy Q⟩
   obtain⟨r,I,D,c0,c1,c2,c3⟩:=HR.out.behind g.out k c u;have h4:=yw I;subst I;have HM:=yw (zW u);obtain⟨w1,M⟩:=yB (wr.alloc (zn (AI c) 191))
   have h:Below w.heap.size w w1:=by rw[M];exact g.out.alloc g.out.size _
   have T:w1.heap[wr.heap.size]?=zo (zn (AI c) 191 (0,0)):=by rw[M];exact heap_alloc_new wr _
   obtain⟨X,j⟩:=yB wr.heap.size
   rw[<-j]at T;have Z:=yw T;have R:=yw h;have h3:=yw (show w.heap.size<=X by rw[j];exact g.out.size);clear u T h;go_wp2_with fail;rw[<-j];rw[show wr.alloc (zn (AI c) 191)=w1 from M.symm];clear M j c0 c1 c2 c3 D;refine(HF.out w1 c R.out HM.out).mono ?_;rintro z U ⟨⟨ok,rfl⟩,O⟩;have H:=yw (yC R.out O R.out.size);have E:=(O.block X (yx Z.out).1).trans Z.out;clear O;cases ok with
   | false=>
    clear E;go_wp2;go_roundw
    case rel=>exact⟨⟨k+1,t,b,by omega,by go_num,rfl,rfl,N.out⟩,H.out⟩
    case measure=>simp[intOf];omega
   | true=>
    have v:U.cell? ⟨X,0,zp⟩=zo (zd zj c.n):=by simp[zN,E]
    have L:U.cell? ⟨X,1,zp⟩=zo (zd zk c.w):=by simp[zN,E]
    have s:U.cell? ⟨X,2,zp⟩=zo (zd zk c.m):=by simp[zN,E]
    have K:U.cell? ⟨X,3,zp⟩=zo (zh c.r):=by simp[zN,E]
    have G:=(yx E).1;clear E;go_upto_region 6 with(fail)
    go_cut [44]from 23 to 43 (fun F wx=>(∃b,F=zh b)/\Below w.heap.size w wx)
    case first=>
     cases b with
     | false=>
      go_wp2_with fail;go_quiet (fail)
      all_goals
       go_wp2_with fail;go_meet
       case rel=>exact⟨⟨_,rfl⟩,yH H.out nq⟩
     | true=>
      have V:=N.out rfl;have f:t<l.length:=by rw[<-HN.out];exact V
      have h1:(t:Int) <(n:Int):=by omega
      obtain⟨d,hd⟩:∃d,l[t]?=zo d:=⟨_,zy f⟩
      obtain⟨r',I,D,d0,d1,d2,d3⟩:=HR.out.behind H.out t d hd;obtain rfl:r'=r:=by cases I;rfl
      have h0:=yw (zW hd);clear hd V f I;go_wp2_with fail;go_region_held3 (fun w'=>w'.cell? ⟨X,0,zp⟩=zo (zd zj c.n)/\w'.cell? ⟨X,1,zp⟩=zo (zd zk c.w)/\w'.cell? ⟨X,2,zp⟩=zo (zd zk c.m)/\w'.cell? ⟨X,3,zp⟩=zo (zh c.r)/\w'.cell? ⟨r',t*4,zp⟩=zo (zd zj d.n)/\w'.cell? ⟨r',t*4+1,zp⟩=zo (zd zk d.w)/\w'.cell? ⟨r',t*4+2,zp⟩=zo (zd zk d.m)/\w'.cell? ⟨r',t*4+3,zp⟩=zo (zh d.r)) (go_keep)
       (first
        | (
         go_at_call 158;refine(HG.out _ c d (yI H.out) HM.out h0.out).mono ?_;rintro z x ⟨⟨n3,rfl⟩,B⟩;have A:Hid (Below U.heap.size U x):=yw ⟨B.os,B.tape,B.output,B.size,B.block⟩;have J:Hid (Below w.heap.size w x):=yw (yC H.out A.out H.out.size);replace v:=(A.out.cell (p:=⟨X,0,zp⟩) G).trans v;replace L:=(A.out.cell (p:=⟨X,1,zp⟩) G).trans L;replace s:=(A.out.cell (p:=⟨X,2,zp⟩) G).trans s;replace K:=(A.out.cell (p:=⟨X,3,zp⟩) G).trans K;replace d0:=(A.out.cell (p:=⟨r',t*4,zp⟩) D).trans d0;replace d1:=(A.out.cell (p:=⟨r',t*4+1,zp⟩) D).trans d1
         replace d2:=(A.out.cell (p:=⟨r',t*4+2,zp⟩) D).trans d2;replace d3:=(A.out.cell (p:=⟨r',t*4+3,zp⟩) D).trans d3;replace G:=yz G A.out.size;replace D:=yz D A.out.size;clear B)
        | (
         go_at_call 210;refine(JV _ _ _).mono ?_;rintro z w4 ⟨⟨n4,-,rfl⟩,q⟩;obtain rfl:=q.symm)
        | (
         go_at_call 209;refine(GL n3 n4 _ _ _ (by simp[World.cell?_alloc_new]) (by simp[World.cell?_alloc_new])).mono ?_;rintro z w5 ⟨⟨n5,rfl⟩,C⟩;obtain rfl:=C.symm))
      all_goals
       go_wp2_with fail;go_meet
       case rel=>exact⟨⟨_,rfl⟩,yC J.out (yE x _) J.out.size⟩
    case rest=>
     obtain⟨⟨b2,rfl⟩,B⟩:=hcut;have J:=yw B;clear B v L s K G;cases b2 with
     | true=>
      go_wp2;go_roundw
      case rel=>exact⟨⟨k+1,k,zq,by omega,by go_num,rfl,rfl,fun _=>by omega⟩,J.out⟩
      case measure=>simp[intOf];omega
     | false=>
      go_wp2;go_roundw
      case rel=>exact⟨⟨k+1,t,b,by omega,by go_num,rfl,rfl,N.out⟩,J.out⟩
      case measure=>simp[intOf];omega
  .have y:k=n:=by omega
   subst y;go_wp2;go_ret2;exact⟨⟨t,b,N.out,rfl⟩,g.out⟩
theorem UW(a b:Int)(w:zu)(D:0<=a)(h3:a<=1000000000000000000)(B:0<=b)(h0:b<=1000000000000000000):
 (callFunc 211 #[zd zk a,zd zk b,zd zk 0]).run prog w=.ok (.value (zi #[zd zk (a+b),zd zk 0])) w:=by
 rw[run_callFunc_extern (e:=add64Entry) func211 (by kernel_rfl) (by kernel_rfl) (by kernel_rfl) (by kernel_rfl),run_add64 a b 0 D B (by omega) (by omega)];have A:(a+b+0) %18446744073709551616=a+b:=by omega
 have E:(a+b+0) /18446744073709551616=0:=by omega
 rw[A,E];rfl
def Ws(l:List Int):Prop:=∀x∈l,0<=x/\x<=4294967296
theorem Ti(l:List Int)(k:Nat)(x:Int)(h:l[k]?=zo x):(l.take (k+1)).sum=(l.take k).sum+x:=by obtain⟨hk,A⟩:=yy h;rw[List.take_succ_eq_append_getElem hk,A];simp
theorem KI{l:List Int}(h:Ws l):∀k,k<=l.length->0<=(l.take k).sum/\(l.take k).sum<=4294967296*k
 | 0,_=>by simp
 | k+1,hk=>by
  obtain⟨x,A⟩:∃x,l[k]?=zo x:=⟨_,zy (by omega)⟩
  rw[Ti l k x A];have h1:=KI h k (by omega);have h2:=h x (zW A);omega
theorem UX(l:List Int)(a:Option Addr)(n c:Nat)(w:zu)(E:n=l.length)(hn:n<=64)(G:Ws l)(U:xE w a (uv l)):
 zw prog 162 #[zf a n c] w fun z w'=>z=zm (zd zk l.sum)/\w'=w:=by
 obtain⟨V,D,A⟩:=Qe U G E;clear U G E;go_enter func162,ntmps162;go_wp2_with fail;go_loop [3,10] (fun s i=>∃k:Nat,k<=n/\i=zd zj k/\s=zd zk (l.take k).sum) (fun _ i=>n-(intOf i).toNat)
 case atStart=>exact⟨0,by omega,rfl,by simp⟩
 case round=>
  obtain⟨k,hk,rfl,rfl⟩:=hrel;by_cases J:k<n
  .obtain⟨x,I⟩:∃x,l[k]?=zo x:=⟨_,zy (by rw[<-A.out];exact J)⟩
   obtain⟨r,M,h0,h4⟩:=V.out k _ (uM I);subst M;have R:=D.out x (zW I);have B:=KI D.out k (by rw[<-A.out];omega);have H:=yw (Ti l k x I);obtain⟨s,hs⟩:=yB ((l.take k).sum)
   rw[<-hs]at B H ⊢;obtain⟨N,h3⟩:=B;obtain⟨T,h2⟩:=R;have h1:=UW s x w N (by omega) T (by omega);clear I hs;go_wp2;go_round
   case rel=>exact⟨k+1,by omega,by go_num,by rw[H.out]⟩
   case measure=>simp[intOf];omega
  .have O:k=n:=by omega
   subst O;go_wp2;go_ret;refine⟨?_,rfl⟩;rw[List.take_of_length_le (by rw[<-A.out];exact yA _)];rfl
theorem ND(x sh A:Int)(D H:Nat)(w:zu)(E:0<=sh/\sh<=262144)(B:0<=x/\x<=4294967296)(G:0<=A/\A<=18446744073709551615)(c1:w.cell? ⟨D,0,zp⟩=zo (zd zk sh))(c2:w.cell? ⟨H,0,zp⟩=zo (zd zk A)):
 zw prog 164 #[zd zk x,ze (zo ⟨D,0,zp⟩),ze (zo ⟨H,0,zp⟩)] w fun z w'=>z=zm (zd zk (qS sh x A))/\Below w.heap.size w w':=by
 have J:=yw (Oq sh x A w E B G);clear E B G;go_enter func164,ntmps164;go_wp2_with fail;refine J.out.mono ?_;rintro z w2 ⟨rfl,hb⟩;have I:=yw hb;clear hb;go_wp2;go_ret;exact⟨rfl,I.out⟩
theorem Hd:(prog.info? 33).map (fun i=>(i.zero,i.size,i.bytes))=zo (zo (zd zk 0),1,8):=by kernel_rfl
theorem IV(l:List Int)(f:Int->Int)(k:Nat)(x:Int)(h:l[k]?=zo x):uv ((l.take (k+1)).map f)=uv ((l.take k).map f)++ [zd zk (f x)]:=by obtain⟨hk,A⟩:=yy h;rw[List.take_succ_eq_append_getElem hk,A];simp[uv]
theorem KJ(l:List Int)(sh A:Int)(a:Option Addr)(n c d F:Nat)(w:zu)(I:n=l.length)(hn:n<=64)(U:Ws l)(hR:xE w a (uv l))(h1:0<=sh/\sh<=262144)(h3:0<=A/\A<=18446744073709551615)
 (c1:w.cell? ⟨d,0,zp⟩=zo (zd zk sh)) (c2:w.cell? ⟨F,0,zp⟩=zo (zd zk A)):
 zw prog 163 #[zf a n c,.func (.func 164) #[] #[ze (zo ⟨d,0,zp⟩),ze (zo ⟨F,0,zp⟩)]] w fun z w'=>∃v,z=zm v/\w'.ownsRow w.heap.size 33 1 v n (uv (l.map fun x=>qS sh x A))/\Below w.heap.size w w':=by
 obtain⟨i0,hi,f,L,s⟩:=info_parts Hd;obtain⟨HR,K,M,H1,H3,C1,C2⟩:=Qi hR U I h1 h3 c1 c2;clear hR U I h1 h3 c1 c2;go_enter func163,ntmps163;go_wp2_with fail;go_loopw [5,10] (fun v i wr=>∃(k:Nat) (C:Option Addr) (h:Nat),k<=n/\i=zd zj k/\v=zf C k h/\wr.ownsRow w.heap.size 33 1 (zf C k h) k (uv ((l.take k).map fun x=>qS sh x A))/\Below w.heap.size w wr) (fun _ i _=>n-(intOf i).toNat)
 case atStart=>exact⟨0,zp,0,by omega,rfl,rfl,by simpa[uv]using World.ownsRow_nil _ _ _ _,zU _ _⟩
 case round=>
  obtain⟨k,C,h,hk,rfl,rfl,D,hb⟩:=hrel;have o:=yw D;have H:=yw hb;clear D hb;by_cases Y:k<n
  .obtain⟨x,X⟩:∃x,l[k]?=zo x:=⟨_,zy (by rw[<-M.out];exact Y)⟩
   obtain⟨r,Z,E,q⟩:=(HR.out.behind H.out) k _ (uM X);subst Z;have Q:=yw (ND x sh A d F wr H1.out (K.out x (zW X)) H3.out ((H.out.cell (zP _ _ C1.out)).trans C1.out) ((H.out.cell (zP _ _ C2.out)).trans C2.out));have HX:=yw (IV l (fun x=>qS sh x A) k x X);obtain⟨y,p⟩:=yB (qS sh x A)
   have R:Hid (uv ((l.take (k+1)).map fun x=>qS sh x A)=uv ((l.take k).map fun x=>qS sh x A)++ [zd zk y]):=yw (by rw[HX.out,p]);rw[<-p]at Q;obtain⟨W,N⟩:=yB (uv ((l.take k).map fun x=>qS sh x A))
   rw[<-N]at o R;clear X p HX N;go_wp2_with fail;refine Q.out.mono ?_;rintro z w4 ⟨rfl,G⟩;have J:=yw (qQ o.out G);have O:=yw (yC H.out G H.out.size);clear G E q Q;have S:=O.out.size;go_wp2_with (at_builtin;go_loud (refine wpList_append_own _ rfl _ _ 27 rfl w.heap.size 33 i0 (zd zk 0) 1 8 underlying27 hi f L s rfl (by decide) _ k W rfl (J.out.alloc _) ⟨w4.heap.size,0,zp⟩ 1 1 [zd zk y] rfl rfl ?c1 ?c2 ?c3 ?c4 ?c5 ?_))
   case c1=>exact World.news_of_block (cs:=#[zd zk y]) (t:=33) (fr:=(0,0)) (heap_alloc_new w4 _)
   case c2=>intro u hu;simp at hu;subst hu;rfl
   case c3=>unfold maxLen;omega
   case c4=>omega
   case c5=>simp;omega
   intro v' w5 B V _;have T:Below w.heap.size w w5:=(O.out.alloc S _).grown V (by simp;omega) fun j hj=>(J.out.lt j hj).1;have P:=yw T;have b:=yw B;rcases B.2 with⟨_,h0⟩|⟨g,h2,cur,hv,_⟩
   .omega
   subst hv;clear T B V;go_wp2_with fail;go_roundw
   case rel=>exact⟨k+1,_,_,by omega,by go_num,rfl,by rw[R.out];exact b.out,P.out⟩
   case measure=>simp[intOf];omega
  .have m:k=n:=by omega
   subst m;go_wp2;go_ret;refine⟨_,rfl,?_,H.out⟩;have:=o.out;rw[List.take_of_length_le (by rw[<-M.out];exact yA _)]at this;exact this
theorem Tj(l:List Int)(sh:Int)(a:Option Addr)(n c:Nat)(w:zu)(b:n=l.length)(r:n<=64)(I:Ws l)(s:xE w a (uv l))(o:0<=sh/\sh<=262144):
 zw prog 104 #[zd zk sh,zf a n c] w fun z w'=>∃v,z=zm v/\w'.ownsRow w.heap.size 33 1 v n (uv (l.map fun x=>qS sh x l.sum))/\Below w.heap.size w w':=by
 have G:=KI I l.length (yA _);rw[List.take_length]at G;have d:Hid (0<=l.sum/\l.sum<=18446744073709551615):=yw (by omega);obtain⟨p,Z,U,u⟩:=Qf s I b o;clear s I b o G;go_enter func104,ntmps104;go_wp2_with fail;obtain⟨w1,E⟩:=yB (w.alloc (zn #[zd zk sh] 33))
 have g:Below w.heap.size w w1:=by rw[E];exact yE w _
 have Y:w1.heap[w.heap.size]?=zo (zn #[zd zk sh] 33 (0,0)):=by rw[E];exact heap_alloc_new w _
 rw[<-E];have M:=yw g;have N:=yw Y;obtain⟨T,f⟩:=yB w.heap.size
 rw[<-f]at N ⊢;clear E g Y f;refine(UX l a n c w1 U.out r Z.out (p.out.behind M.out)).mono ?_;rintro z w2 ⟨rfl,t⟩;obtain rfl:=t.symm;obtain⟨V,D⟩:=yB l.sum
 rw[<-D]at d;rw[<-D];have h:=yw D;clear D;go_wp2_with fail;obtain⟨R,A⟩:=yB (w1.alloc (zn #[zd zk V] 33))
 have O:Below w1.heap.size w1 R:=by rw[A];exact yE w1 _
 have J:R.heap[w1.heap.size]?=zo (zn #[zd zk V] 33 (0,0)):=by rw[A];exact heap_alloc_new w1 _
 rw[<-A];obtain⟨j,X⟩:=yB w1.heap.size
 rw[<-X]at J ⊢;have H:R.heap[T]?=zo (zn #[zd zk sh] 33 (0,0)):=(O.block T (yx N.out).1).trans N.out;have B:=yw (yC M.out O M.out.size);have y:=yw (KJ l sh V a n c T j R U.out r Z.out (p.out.behind B.out) u.out d.out (yP H) (yP J));clear A O J X H;refine y.out.mono ?_;rintro z w4 ⟨v,rfl,q,hb⟩;have k:=yw q;have m:=yw (yC B.out hb B.out.size);clear q hb;go_wp2;go_ret;refine⟨_,rfl,?_,m.out⟩;rw[<-h.out];exact vV k.out B.out.size
def jv(l:List Int):List zz:=l.map (zd zj)
theorem ES{l:List Int}(h:l[k]?=zo x):(jv l)[k]?=zo (zd zj x):=by simp[jv,h]
structure Ur(l ys:List Int):Prop where
 len:ys.length=l.length
 inj:∀(i j:Nat) (x:Int),ys[i]?=zo x->ys[j]?=zo x->i=j
 sub:∀x∈ys,x∈l
theorem ET{A:List Int}{i j:Nat}{a b:Int}(H:A[i]?=zo a)(G:A[j]?=zo b)(h0:i≠j)(k:Nat):((A.set i b).set j a)[k]?=if k=j then zo a else if k=i then zo b else A[k]?:=by
 have D:=(yy H).1;have B:=(yy G).1;by_cases e:k=j
 .subst e;rw[if_pos rfl,zT (by simpa using B)]
 .rw[if_neg e,zC (Ne.symm e)];by_cases E:k=i
  .subst E;rw[if_pos rfl,zT D]
  .rw[if_neg E,zC (Ne.symm E)]
theorem Ur.swap{l B:List Int}(h:Ur l B){i j:Nat}{a b:Int}(G:B[i]?=zo a)(H:B[j]?=zo b)(D:i≠j):Ur l ((B.set i b).set j a):=by
 have J:=ET G H D;have A:∀k x,((B.set i b).set j a)[k]?=zo x->B[if k=j then i else if k=i then j else k]?=zo x:=fun k x hk=>by
  rw[J k]at hk;by_cases e:k=j
  .rw[if_pos e]at hk ⊢;rw[G];exact hk
  .rw[if_neg e]at hk ⊢;by_cases E:k=i
   .rw[if_pos E]at hk ⊢;rw[H];exact hk
   .rw[if_neg E]at hk ⊢;exact hk
 refine⟨by simp[h.len],?_,?_⟩
 .intro k N x M I;have e:=h.inj _ _ x (A k x M) (A N x I)
  repeat' (split at e)
  all_goals omega
 .intro x O;obtain⟨k,hk⟩:=List.getElem?_of_mem O;exact h.sub x (zW (A k x hk))
structure IR(w:zu)(g:Nat)(zs:List Int):Prop where
 ex:∃cur:Array zz,w.heap[g]?=zo (zn cur 3 (0,0))/\∀(k:Nat) (x:Int),zs[k]?=zo x->cur[k]?=zo (zd zj x)
theorem IR.lt{w:zu}(h:IR w g zs):g<w.heap.size:=by obtain⟨cur,A,_⟩:=h.ex;exact(yx A).1
theorem IR.cell{w:zu}(h:IR w g zs)(D:zs[k]?=zo x):w.cell? ⟨g,k,zp⟩=zo (zd zj x):=by obtain⟨cur,A,B⟩:=h.ex;simp[zN,A,B k x D]
theorem IR.OH{w:zu}(h:IR w g zs):∀j,w.frozen? ⟨g,j,zp⟩=zt:=by obtain⟨cur,A,hc⟩:=h.ex;intro j;simp[zY,A]
theorem IR.set{w:zu}(h:IR w g zs){y:Int}(hk:k<zs.length):IR (w.setCell ⟨g,k,zp⟩ (zd zj y)) g (zs.set k y):=by
 obtain⟨cur,E,D⟩:=h.ex;refine⟨_,yD E,fun j x A=>?_⟩;have B:k<cur.size:=by have:=D k _ (zy hk);exact(yx this).1
 by_cases e:j=k
 .subst e;rw[zT hk]at A;cases A;simp[B]
 .rw[zC (Ne.symm e)]at A;rw[Array.getElem?_setIfInBounds_ne (Ne.symm e)];exact D j x A
theorem IR.of{w:zu}(h:IR w g zs)(hb:w'.heap[g]?=w.heap[g]?):IR w' g zs:=by obtain⟨cur,A,B⟩:=h.ex;exact⟨cur,hb.trans A,B⟩
theorem Tl(x y:Int)(w:zu):zw prog 278 #[zd zj x,zd zj y] w fun z w'=>z=zm (zh (decide (x<y)))/\w'=w:=by go_enter func278,ntmps278;go_wp2;go_ret;exact⟨rfl,rfl⟩
theorem Iv(l zs:List Int)(g n c:Nat)(w:zu)(p:n=zs.length)(d:1<=n)(h0:n<=12)(o:IR w g zs)(b:Ur l zs):
 zw prog 272 #[zf (zo ⟨g,0,zp⟩) n c,zd zj 0,zd zj n] w fun z w'=>(∃v,z=zm v)/\∃A,IR w' g A/\Ur l A/\OA (fun k=>k=g) w w':=by
 have K:=yw o;have HS:=yw b;have V:Hid (n=l.length):=yw (by rw[p];exact b.len);clear o b p;go_enter func272,ntmps272;go_wp2_with fail;go_loopw [6] (fun i wr=>∃(k:Nat) (A:List Int),1<=k/\k<=n/\i=zd zj k/\IR wr g A/\Ur l A/\OA (fun k=>k=g) w wr) (fun i _=>n-(intOf i).toNat)
 case atStart=>exact⟨1,zs,by omega,d,rfl,K.out,HS.out,OA.refl _ _⟩
 case round=>
  obtain⟨k,A,h2,hk,rfl,D,hs,I⟩:=hrel;obtain⟨R,T,M⟩:=Qe D hs I;clear D hs I;obtain⟨w1,Z⟩:=yB wr
  subst Z;by_cases h1:k<n
  .go_wp2_with fail;go_loopw [7] (fun j wr=>∃(m:Nat) (A:List Int),m<=k/\j=zd zj m/\IR wr g A/\Ur l A/\OA (fun k=>k=g) w wr) (fun j _=>(intOf j).toNat)
   case atStart=>exact⟨k,A,by omega,rfl,R.out,T.out,M.out⟩
   case round=>
    obtain⟨m,J,hm,rfl,D,hs,I⟩:=hrel;obtain⟨G,B,H⟩:=Qe D hs I;have h3:=D.OH;by_cases O:m=0
    .subst O;clear D hs I;go_wp2_with fail;go_quiet (fail);go_wp2;go_roundw
     case rel=>exact⟨k+1,J,by omega,by omega,by go_num,G.out.of rfl,B.out,H.out.drewN nq⟩
     case measure=>simp[intOf];omega
    .obtain⟨m,rfl⟩:∃C,m=C+1:=⟨m-1,by omega⟩
     have E:J.length=n:=by rw[B.out.len,V.out]
     obtain⟨x,a⟩:∃x,J[m+1]?=zo x:=⟨_,zy (by omega)⟩
     obtain⟨y,Y⟩:∃y,J[m]?=zo y:=⟨_,zy (by omega)⟩
     have s:=D.cell a;have t:=D.cell Y;obtain⟨L,u,N⟩:=Qe a Y E;have h7:((m+1:Nat):Int) <(n:Int):=by omega
     have h4:((m:Nat):Int) <(n:Int):=by omega
     clear D hs I a Y E O;by_cases U:x<y
     .have hd:decide (x<y)=zq:=by simp[U]
      go_wp2_with fail;go_quiet ((go_at_call 278;exact Calls.quiet_of_same (Tl _ _ _)));go_wp2_with fail;go_region
      all_goals
       have h:IR (wr.drewN (nq+1)) g J:=G.out.of rfl;have q:=(h.set (k:=m+1) (y:=y) (by rw[N.out];omega)).set (k:=m) (y:=x) (by simp[N.out];omega);have f:OA (fun k=>k=g) w (((wr.drewN (nq+1)).setCell ⟨g,m+1,zp⟩ (zd zj y)).setCell ⟨g,m,zp⟩ (zd zj x)):=((H.out.drewN (nq+1)).one).one;have r:=yw q;have F:=yw f;clear h q f s t;go_wp2;go_roundw
       case rel=>exact⟨m,_,by omega,by go_num,r.out,B.out.swap L.out u.out (by omega),F.out⟩
       case measure=>simp[intOf]
     .have hd:decide (x<y)=zt:=by simp;omega
      go_wp2_with fail;go_quiet ((go_at_call 278;exact Calls.quiet_of_same (Tl _ _ _)));go_wp2_with fail;go_roundw
      case rel=>exact⟨k+1,J,by omega,by omega,by go_num,G.out.of rfl,B.out,H.out.drewN nq⟩
      case measure=>simp[intOf];omega
  .have X:k=n:=by omega
   subst X;go_wp2;go_end0;exact⟨⟨_,rfl⟩,A,R.out,T.out,M.out⟩
theorem NT(A1 A2 A3:Nat)(l:List Cd)(n:Nat)(a:Option Addr)(S:Nat)(w:zu)(hn:n=l.length)(h5:n<=1000)(hR:Pj w a l)
 (hf:∀W c,Below w.heap.size w W->c∈l->zw prog 155 #[zg (AI c),ze (zo ⟨A1,0,zp⟩),ze (zo ⟨A2,0,zp⟩)] W fun z P=>iO z/\Below W.heap.size W P)
 (hg:∀W c d,Below w.heap.size w W->c∈l->d∈l->zw prog 161 #[zg (AI c),zg (AI d),ze (zo ⟨A3,0,zp⟩)] W fun z P=>IsI z/\Below W.heap.size W P):
 zw prog 160 #[zf a n S,.func (.func 155) #[] #[ze (zo ⟨A1,0,zp⟩),ze (zo ⟨A2,0,zp⟩)],.func (.func 161) #[] #[ze (zo ⟨A3,0,zp⟩)]] w fun z w'=>(∃(k:Nat) (b:Bool),(b=zq->k<n)/\z=zm (zi #[zd zj k,zh b]))/\Below w.heap.size w w':=by
 obtain⟨HR,HF,HG,HN⟩:=Qf hR hf hg hn;clear hR hf hg hn;go_enter func160,ntmps160;go_wp2_with fail;go_loopw [8,9,10,11,14] (fun v8 v9 _ _ i wr=>(∃(k at_:Nat) (b:Bool),k<=n/\i=zd zj k/\v8=zd zj at_/\v9=zh b/\(b=zq->at_<n))/\Below w.heap.size w wr) (fun _ _ _ _ i _=>n-(intOf i).toNat)
 case atStart=>exact⟨⟨0,0,zt,by omega,rfl,rfl,rfl,by simp⟩,zU _ _⟩
 case round=>
  obtain⟨⟨k,t,b,hk,rfl,rfl,rfl,Y⟩,hb⟩:=hrel;have g:=yw hb;have N:=yw Y;clear hb Y;by_cases o:k<n
  .have h2:(k:Int) <(n:Int):=by omega
   have Q:k<l.length:=by rw[<-HN.out];exact o
   obtain⟨c,u⟩:∃c,l[k]?=zo c:=⟨_,zy Q⟩
   obtain⟨r,I,D,c0,c1,c2,c3⟩:=HR.out.behind g.out k c u;have h4:=yw I;subst I;have HM:=yw (zW u);obtain⟨w1,M⟩:=yB (wr.alloc (zn (AI c) 191))
   have h:Below w.heap.size w w1:=by rw[M];exact g.out.alloc g.out.size _
   have T:w1.heap[wr.heap.size]?=zo (zn (AI c) 191 (0,0)):=by rw[M];exact heap_alloc_new wr _
   obtain⟨X,j⟩:=yB wr.heap.size
   rw[<-j]at T;have Z:=yw T;have R:=yw h;have h3:=yw (show w.heap.size<=X by rw[j];exact g.out.size);clear u T h;go_wp2_with fail;rw[<-j];rw[show wr.alloc (zn (AI c) 191)=w1 from M.symm];clear M j c0 c1 c2 c3 D;refine(HF.out w1 c R.out HM.out).mono ?_;rintro z U ⟨⟨ok,rfl⟩,O⟩;have H:=yw (yC R.out O R.out.size);have E:=(O.block X (yx Z.out).1).trans Z.out;clear O;cases ok with
   | false=>
    clear E;go_wp2;go_roundw
    case rel=>exact⟨⟨k+1,t,b,by omega,by go_num,rfl,rfl,N.out⟩,H.out⟩
    case measure=>simp[intOf];omega
   | true=>
    have v:U.cell? ⟨X,0,zp⟩=zo (zd zj c.n):=by simp[zN,E]
    have L:U.cell? ⟨X,1,zp⟩=zo (zd zk c.w):=by simp[zN,E]
    have s:U.cell? ⟨X,2,zp⟩=zo (zd zk c.m):=by simp[zN,E]
    have K:U.cell? ⟨X,3,zp⟩=zo (zh c.r):=by simp[zN,E]
    have G:=(yx E).1;clear E;go_upto_region 6 with(fail)
    go_cut [44]from 23 to 43 (fun F wx=>(∃b,F=zh b)/\Below w.heap.size w wx)
    case first=>
     cases b with
     | false=>
      go_wp2_with fail;go_quiet (fail)
      all_goals
       go_wp2_with fail;go_meet
       case rel=>exact⟨⟨_,rfl⟩,yH H.out nq⟩
     | true=>
      have V:=N.out rfl;have f:t<l.length:=by rw[<-HN.out];exact V
      have h1:(t:Int) <(n:Int):=by omega
      obtain⟨d,hd⟩:∃d,l[t]?=zo d:=⟨_,zy f⟩
      obtain⟨r',I,D,d0,d1,d2,d3⟩:=HR.out.behind H.out t d hd;obtain rfl:r'=r:=by cases I;rfl
      have h0:=yw (zW hd);clear hd V f I;go_wp2_with fail;go_region_held3 (fun w'=>w'.cell? ⟨X,0,zp⟩=zo (zd zj c.n)/\w'.cell? ⟨X,1,zp⟩=zo (zd zk c.w)/\w'.cell? ⟨X,2,zp⟩=zo (zd zk c.m)/\w'.cell? ⟨X,3,zp⟩=zo (zh c.r)/\w'.cell? ⟨r',t*4,zp⟩=zo (zd zj d.n)/\w'.cell? ⟨r',t*4+1,zp⟩=zo (zd zk d.w)/\w'.cell? ⟨r',t*4+2,zp⟩=zo (zd zk d.m)/\w'.cell? ⟨r',t*4+3,zp⟩=zo (zh d.r)) (go_keep)
       (first
        | (
         go_at_call 161;refine(HG.out _ c d (yI H.out) HM.out h0.out).mono ?_;rintro z x ⟨⟨n3,rfl⟩,B⟩;have A:Hid (Below U.heap.size U x):=yw ⟨B.os,B.tape,B.output,B.size,B.block⟩;have J:Hid (Below w.heap.size w x):=yw (yC H.out A.out H.out.size);replace v:=(A.out.cell (p:=⟨X,0,zp⟩) G).trans v;replace L:=(A.out.cell (p:=⟨X,1,zp⟩) G).trans L;replace s:=(A.out.cell (p:=⟨X,2,zp⟩) G).trans s;replace K:=(A.out.cell (p:=⟨X,3,zp⟩) G).trans K;replace d0:=(A.out.cell (p:=⟨r',t*4,zp⟩) D).trans d0;replace d1:=(A.out.cell (p:=⟨r',t*4+1,zp⟩) D).trans d1
         replace d2:=(A.out.cell (p:=⟨r',t*4+2,zp⟩) D).trans d2;replace d3:=(A.out.cell (p:=⟨r',t*4+3,zp⟩) D).trans d3;replace G:=yz G A.out.size;replace D:=yz D A.out.size;clear B)
        | (
         go_at_call 210;refine(JV _ _ _).mono ?_;rintro z w4 ⟨⟨n4,-,rfl⟩,q⟩;obtain rfl:=q.symm)
        | (
         go_at_call 209;refine(GL n3 n4 _ _ _ (by simp[World.cell?_alloc_new]) (by simp[World.cell?_alloc_new])).mono ?_;rintro z w5 ⟨⟨n5,rfl⟩,C⟩;obtain rfl:=C.symm))
      all_goals
       go_wp2_with fail;go_meet
       case rel=>exact⟨⟨_,rfl⟩,yC J.out (yE x _) J.out.size⟩
    case rest=>
     obtain⟨⟨b2,rfl⟩,B⟩:=hcut;have J:=yw B;clear B v L s K G;cases b2 with
     | true=>
      go_wp2;go_roundw
      case rel=>exact⟨⟨k+1,k,zq,by omega,by go_num,rfl,rfl,fun _=>by omega⟩,J.out⟩
      case measure=>simp[intOf];omega
     | false=>
      go_wp2;go_roundw
      case rel=>exact⟨⟨k+1,t,b,by omega,by go_num,rfl,rfl,N.out⟩,J.out⟩
      case measure=>simp[intOf];omega
  .have y:k=n:=by omega
   subst y;go_wp2;go_ret2;exact⟨⟨t,b,N.out,rfl⟩,g.out⟩
theorem ZA(l:List Cd)(n:Nat)(a:Option Addr)(j:Nat)(x y:Int)(A:Int)(w:zu)(hn:n=l.length)(h0:n<=1000)(hR:Pj w a l)(hm:∀c∈l,0<=c.m/\c.m<=18446744073709551615)(hh:0<=A/\A<64):
 zw prog 103 #[zf a n j,zd zk x,zd zk y,zd zj A] w fun z w'=>(∃(k:Nat) (b:Bool),(b=zq->k<n)/\z=zm (zi #[zd zj k,zh b]))/\Below w.heap.size w w':=by
 obtain⟨h4,HR,HN,HM,HH⟩:=Qg (fun W=>GM x y W) hR hn hm hh;clear hR hn hm hh;go_enter func103,ntmps103;go_wp2_with fail;refine(h4.out _).mono ?_;rintro z w2 ⟨⟨I,rfl⟩,h1⟩;obtain rfl:=h1.symm;go_upto_region 2 with(fail)
 obtain⟨B,J⟩:=yB ((w.alloc (zn #[zd zj A] 3)).alloc (zn #[zd zk I] 33))
 obtain⟨H,hH⟩:=yB w.heap.size
 obtain⟨G,hG⟩:=yB (w.heap.size+1)
 have s:Below w.heap.size w B:=by rw[J];exact((zU _ w).alloc (yA _) _).alloc (by simp) _
 have q:B.cell? ⟨H,0,zp⟩=zo (zd zj A):=by rw[J,hH];exact yP (t:=3) ((zZ _ _ _ (by simp)).trans (heap_alloc_new w _))
 have v:B.cell? ⟨G,0,zp⟩=zo (zd zk I):=by have T:=heap_alloc_new (w.alloc (zn #[zd zj A] 3)) (zn #[zd zk I] 33);rw[World.size_alloc]at T;rw[J,hG];exact yP T
 obtain⟨F,r,S⟩:=Qe s q v;rw[<-J,<-hG,<-hH];clear J hG hH s q v;go_upto_region 5 with(fail)
 obtain⟨K,hK⟩:=yB B.heap.size
 obtain⟨M,hM⟩:=yB (B.heap.size+1)
 obtain⟨D,E⟩:=yB ((B.alloc (zn #[.func (.func 155) #[] #[ze (zo ⟨G,0,zp⟩),ze (zo ⟨H,0,zp⟩)]] 254)).alloc (zn #[.func (.func 158) #[] #[]] 256))
 have U:Below B.heap.size B D:=by rw[E];exact((zU _ B).alloc (yA _) _).alloc (by simp) _
 have Y:D.cell? ⟨K,0,zp⟩=zo (.func (.func 155) #[] #[ze (zo ⟨G,0,zp⟩),ze (zo ⟨H,0,zp⟩)]):=by rw[E,hK];exact yP (t:=254) ((zZ _ _ _ (by simp)).trans (heap_alloc_new B _))
 have X:D.cell? ⟨M,0,zp⟩=zo (.func (.func 158) #[] #[]):=by have T:=heap_alloc_new (B.alloc (zn #[.func (.func 155) #[] #[ze (zo ⟨G,0,zp⟩),ze (zo ⟨H,0,zp⟩)]] 254)) (zn #[.func (.func 158) #[] #[]] 256);rw[World.size_alloc]at T;rw[E,hM];exact yP T
 rw[<-E,<-hM,<-hK];obtain⟨g,Q,C,O,R⟩:=Qg (yC F.out U F.out.size) Y X ((U.cell (p:=⟨H,0,zp⟩) (zP _ _ r.out)).trans r.out) ((U.cell (p:=⟨G,0,zp⟩) (zP _ _ S.out)).trans S.out);have h6:Hid (∀W c,Below D.heap.size D W->c∈l->zw prog 155 #[zg (AI c),ze (zo ⟨G,0,zp⟩),ze (zo ⟨H,0,zp⟩)] W fun z W'=>iO z/\Below W.heap.size W W'):=yw fun W c hb f=>
  JW c I A G H W (HM.out c f) HH.out ((hb.cell (p:=⟨G,0,zp⟩) (zP _ _ R.out)).trans R.out) ((hb.cell (p:=⟨H,0,zp⟩) (zP _ _ O.out)).trans O.out)
 have h8:Hid (∀W c,Below D.heap.size D W->c∈l->zw prog 157 #[zg (AI c),ze (zo ⟨K,0,zp⟩),ze (zo ⟨G,0,zp⟩)] W fun z W'=>iO z/\Below W.heap.size W W'):=yw fun W c hb f=>
  LU c I A K G H W (HM.out c f) HH.out ((hb.cell (p:=⟨K,0,zp⟩) (zP _ _ Q.out)).trans Q.out) ((hb.cell (p:=⟨G,0,zp⟩) (zP _ _ R.out)).trans R.out) ((hb.cell (p:=⟨H,0,zp⟩) (zP _ _ O.out)).trans O.out)
 have o:=yw (HR.out.behind g.out);have ha:=yw (NS K G l n a j D HN.out h0 o.out h8.out (fun W c d hb f hd=>JX c d W));have h3:=yw (fun W (hb:Below D.heap.size D W)=>NT G H M l n a j W HN.out h0 (o.out.behind hb) (fun W2 c T f=>h6.out W2 c (yC hb T hb.size) f) (fun W2 c d T f hd=>LV c d M W2 (((yC hb T hb.size).cell (p:=⟨M,0,zp⟩) (zP _ _ C.out)).trans C.out)));have cK:=Y;have cM:=X;clear E hK hM U Y X;have u:=zP _ _ cK;go_wp2_with fail;refine ha.out.mono ?_;rintro z w5 ⟨⟨k,b,Z,rfl⟩,N⟩;have h:=yw (yC g.out N g.out.size)
 have h9:=yw Z;cases b with
 | true=>
  clear N Z;go_wp2;go_ret2;exact⟨⟨k,zq,fun _=>h9.out (by first|trivial|rfl),rfl⟩,h.out⟩
 | false=>
  have h7:=yw (h3.out w5 N);have he:=(N.cell (p:=⟨K,0,zp⟩) u).trans cK;clear N Z cK cM u;go_wp2_with fail;refine h7.out.mono ?_;rintro z w6 ⟨⟨k2,b2,V,rfl⟩,L⟩;have h5:=yw (yC h.out L h.out.size);have P:=yw V;clear L V;go_wp2;go_ret2;exact⟨⟨k2,b2,P.out,rfl⟩,h5.out⟩
