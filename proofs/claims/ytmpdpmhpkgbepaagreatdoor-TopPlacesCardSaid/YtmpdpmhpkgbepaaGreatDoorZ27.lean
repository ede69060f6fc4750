/- Parts for TopPlaces. Conditions: as stated. -/
import Derived.LoopIn
import Derived.LoopNIn
import Derived.OwnWalkIn
import Derived.Shelf.Abstract
import Derived.Shelf.RegionOpen
import Derived.TacticsInMore
import Derived.WalkKit
import Derived.Test.YtmpdpmhpkgbepaaGreatDoorZ08
import Derived.Test.YtmpdpmhpkgbepaaGreatDoorZ26
set_option linter.unusedVariables false
set_option maxRecDepth 100000
set_option maxHeartbeats 4000000
open Go.Value renaming int->zd,pointer->ze,slice->zf,bool->zh,tuple->zi
open Go.IntKind renaming i64->zj,u64->zk,signed->yq
open Go.Ending renaming returned->zm
open Go.Obj renaming cells->zn
open Option renaming some->zo,none->zp
open Bool renaming false->zt
open Go renaming World->zu,Calls->zw,Value->zz
open List renaming getElem?_eq_getElem->zy,length_append->zE,mem_of_getElem?->zW,replicate->ye
open Go.World renaming cell?->zN,block_lt_of_cell?->zP,frozen?->zY
open Go.RowKit.Below renaming refl->zU,heap_alloc->zZ
open Go.Proofs.Tryz
namespace Go.Proofs.YtmpdpmhpkgbepaaGreatDoor
open Go Go.RowKit Go.ChangeShapes Go.WideShapes
variable {h:Hm}{g p k:Nat}{x:Gr}{w:zu}{F:Nat->Prop}{o:Int}
attribute [local go_sem ↓] Go.wp_at_zero Go.wp_at_succ
section
open Go.Shelf
attribute [local go_sem] Oper.semAt_some
theorem Bi(c:Nat)(h:c<32):wrap64 (c:Int)=c:=by unfold wrap64;omega
structure MH(W:zu)(p A C:Nat)(rv:zz)(credit gran:Int)(ps:Nat->Option Nat)(qs dp:Nat->Nat)(h:Hm):Prop where
 ok:h.Ok
 hx:TW W p credit gran ps
 gx:∀g x,h.gs g=zo x->x.deep=dp g/\∃b,ps g=zo b/\PW W b (qs g) x
 a:W.cell? ⟨A,0,zp⟩=zo (ze (zo ⟨p,0,zp⟩))
 c:W.cell? ⟨C,0,zp⟩=zo rv
theorem Jt(m:Nat)(f b:Qu->Qu)(hf:xW f)(hb:xW b)(J:Option (Nat×Int)->Hm->zu->Prop)(p A C l:Nat)(credit gran:Int)(ps:Nat->Option Nat)(qs dp:Nat->Nat)(I:Hm×Nat×Int)
 (hJ:∀s h W,J s h W->MH W p A C (.func (.func 112) #[] #[]) credit gran ps qs dp h)
 (t:∀s h W g x,J s h W->h.gs g=zo x->zw prog 112 #[ze (zo ⟨qs g,0,zp⟩)] W fun z F=>z=zm (zd zj (f x.q).cur)/\J s (h.set g (x.OD (f x.q))) F)
 (hy:∀s h W g x k,J s h W->h.gs g=zo x->Hm.down f b (k+1) h g=I->∀F,J s (h.set g (x.OD (f x.q))) F->YieldAt Fence.wide (m+1) prog l #[ze (zo ⟨qs g,0,zp⟩),zd zj (f x.q).cur] F fun e he=>e=zm (zh true)/\J (zo (g,(f x.q).cur)) ((h.set g (x.OD (f x.q))).set g ((x.OD (f x.q)).OD (b (f x.q)))) he)
 (h0:Hm) (W0:zu) (j:J zp h0 W0) (h1:h0.down f b 9 0=I):
 CallsIn Fence.wide (m+2) prog 170 #[.func (.yield l) #[] #[],ze (zo ⟨A,0,zp⟩),ze (zo ⟨C,0,zp⟩)] W0 fun e F=>(∃v,e=zm v)/\J (zo I.2) I.1 F:=by
 refine callsIn_of_wp func170 rfl trivial ?_ rfl;simp only[ntmps170,List.size_toArray,List.length_cons,List.length_nil,Nat.reduceAdd,Nat.reduceSub,Array.replicate_succ,Array.replicate_zero,List.push_toArray,List.append_toArray,List.nil_append,List.cons_append]
 gi_wp2
 gi_loopw [4] (fun i wr=>∃(s:Option (Nat×Int)) (h:Hm) (k g:Nat) (x:Gr),i=zd zj g/\J s h wr/\h.gs g=zo x/\9<=k+dp g/\h.down f b k g=I) (fun i _=>9-dp (intOf i).toNat)
 case atStart=>
  obtain⟨r,hr,_,hd⟩:=(hJ _ _ _ j).ok.root;have:=((hJ _ _ _ j).gx 0 r hr).1;exact⟨zp,h0,9,0,r,rfl,j,hr,by omega,h1⟩
 case round=>
  obtain⟨s,h,k,g,x,rfl,u,V,hk,hd⟩:=hrel;have O:=hJ _ _ _ u;have h2:=O.ok.TG g x V;have hn:=(O.ok.deep g x V).2;obtain⟨hq,B,hB,hG⟩:=O.gx g x V;obtain⟨k,rfl⟩:∃k',k=k'+1:=⟨k-1,by omega⟩
  have hc:=O.hx.at h2;rw[hB]at hc;have hA:=O.a;have hC:=O.c;obtain⟨c0,c1,c2,c3,c4,c5,c6,c7,c8⟩:=hG.c9;clear c0 c1 c3 c4 c5 c6 c7 c8;have o:=yw (t s h wr g x u V);have X:=yw (hy s h wr g x k u V hd);have R:=O.ok;have h4:=(R.q g x V).1;have h9:=hf.ok _ h4;have G:h.down f b (k+1) g=if(f x.q).cur<0∨(f x.q).cur%2=0 then((h.set g (x.OD (f x.q))).set g ((x.OD (f x.q)).OD (b (f x.q))),g,(f x.q).cur)else Hm.down f b k ((h.set g (x.OD (f x.q))).set g ((x.OD (f x.q)).OD (b (f x.q)))) ((f x.q).cur/2).toNat:=by
   conv=>lhs;unfold Hm.down
   rw[V]
  obtain⟨N,hN⟩:=yB ((f x.q).cur)
  obtain⟨h3,T⟩:=yB ((h.set g (x.OD (f x.q))).set g ((x.OD (f x.q)).OD (b (f x.q))))
  rw[<-hN]at o X G;rw[<-T]at X G;rw[G]at hd;by_cases L:N<0
  .rw[if_pos (.inl L)]at hd;have Q:=yw hd;clear G hd T hN O u
   gi_wp2
   refine⟨trivial,(callsIn_wide.2 o.out).mono ?_⟩;rintro z W2 ⟨rfl,E⟩;obtain⟨fn,tmps,assign,body,M,d⟩:=X.out W2 E;clear hA hC hc c2 hG o X E
   gi_wp2
   refine d.mono ?_;rintro e W3 ⟨rfl,D⟩;have U:=yw D;clear M d D
   gi_wp2
   refine bodyPost_ret (results_none rfl _ _ _) rfl ?_;rw[<-Q.out];exact⟨⟨_,rfl⟩,U.out⟩
  .by_cases h5:N%2=0
   .rw[if_pos (.inr h5)]at hd;have Q:=yw hd;have ht:Int.tmod N 2=0:=by rw[Int.tmod_eq_emod_of_nonneg (by omega)];exact h5
    clear G hd T hN O u
    gi_wp2
    refine⟨trivial,(callsIn_wide.2 o.out).mono ?_⟩;rintro z W2 ⟨rfl,E⟩;obtain⟨fn,tmps,assign,body,M,d⟩:=X.out W2 E;clear hA hC hc c2 hG o X E
    gi_wp2
    refine d.mono ?_;rintro e W3 ⟨rfl,D⟩;have U:=yw D;clear M d D
    gi_wp2
    refine bodyPost_ret (results_none rfl _ _ _) rfl ?_;rw[<-Q.out];exact⟨⟨_,rfl⟩,U.out⟩
   .rw[if_neg (by omega)]at hd;have Q:=yw hd;obtain⟨c,n⟩:∃c:Nat,N=2*c+1:=⟨(N/2).toNat,by omega⟩
    have ht:Int.tmod N 2=1:=by rw[Int.tmod_eq_emod_of_nonneg (by omega)];omega
    have hu:Int.tdiv N 2=c:=by rw[Int.tdiv_eq_ediv_of_nonneg (by omega)];omega
    have Z:∃e∈(f x.q).l,e.id=(f x.q).cur:=h9.cur.resolve_left (by omega);have hh:x.q.has (2*c+1):=by rw[<-n,hN];exact(hf.has _ _ h4).1 Z
    obtain⟨y,H,P⟩:=R.eJ g x c V hh;obtain⟨ho,K,x',S,hm⟩:=Vv R H P;rw[V]at S;cases S;have h6:h3.gs c=zo y:=by rw[T,yJ _ _ K,yJ _ _ K];exact H
    have hl:=(O.gx c y H).1;have Y:=R.TG c y H;have hi:=yw Y;have hp:=(R.deep c y H).2;have h8:Hid ((N/2).toNat=c):=yw (by rw[n];omega);have ha:=yw h6;have h7:Hid (dp c=dp g+1):=yw (by omega);clear G hd T hN O u Z hh H P h6 n;have hg:wrap64 (c:Int)=c:=Bi c Y
    gi_wp2
    refine⟨trivial,(callsIn_wide.2 o.out).mono ?_⟩;rintro z W2 ⟨rfl,E⟩;obtain⟨fn,tmps,assign,body,M,d⟩:=X.out W2 E;clear hA hC hc c2 hG o X E
    gi_wp2
    refine d.mono ?_;rintro e W3 ⟨rfl,D⟩;have U:=yw D;clear M d D
    gi_wp2
    go_roundw
    case rel=>exact⟨_,h3,k,c,y,by first|rfl|rw[hg],U.out,ha.out,by have:=h7.out;omega,by have:=Q.out;rw[h8.out]at this;exact this⟩
    case measure=>
     simp[intOf];omega
theorem EN(m:Nat)(f b:Qu->Qu)(hf:xW f)(hb:xW b)(J:Option (Nat×Int)->Hm->zu->Prop)(p A C K l:Nat)(credit gran:Int)(ps:Nat->Option Nat)(qs dp:Nat->Nat)(I:Hm×Nat×Int)
 (hJ:∀s h W,J s h W->MH W p A C (.func (.func 168) #[] #[ze (zo ⟨K,0,zp⟩)]) credit gran ps qs dp h)
 (t:∀s h W g x,J s h W->h.gs g=zo x->zw prog 168 #[ze (zo ⟨qs g,0,zp⟩),ze (zo ⟨K,0,zp⟩)] W fun z F=>z=zm (zd zj (f x.q).cur)/\J s (h.set g (x.OD (f x.q))) F)
 (hy:∀s h W g x k,J s h W->h.gs g=zo x->Hm.down f b (k+1) h g=I->∀F,J s (h.set g (x.OD (f x.q))) F->YieldAt Fence.wide (m+1) prog l #[ze (zo ⟨qs g,0,zp⟩),zd zj (f x.q).cur] F fun e hg=>e=zm (zh true)/\J (zo (g,(f x.q).cur)) ((h.set g (x.OD (f x.q))).set g ((x.OD (f x.q)).OD (b (f x.q)))) hg)
 (h0:Hm) (W0:zu) (j:J zp h0 W0) (h1:h0.down f b 9 0=I):
 CallsIn Fence.wide (m+2) prog 170 #[.func (.yield l) #[] #[],ze (zo ⟨A,0,zp⟩),ze (zo ⟨C,0,zp⟩)] W0 fun e F=>(∃v,e=zm v)/\J (zo I.2) I.1 F:=by
 refine callsIn_of_wp func170 rfl trivial ?_ rfl;simp only[ntmps170,List.size_toArray,List.length_cons,List.length_nil,Nat.reduceAdd,Nat.reduceSub,Array.replicate_succ,Array.replicate_zero,List.push_toArray,List.append_toArray,List.nil_append,List.cons_append]
 gi_wp2
 gi_loopw [4] (fun i wr=>∃(s:Option (Nat×Int)) (h:Hm) (k g:Nat) (x:Gr),i=zd zj g/\J s h wr/\h.gs g=zo x/\9<=k+dp g/\h.down f b k g=I) (fun i _=>9-dp (intOf i).toNat)
 case atStart=>
  obtain⟨r,hr,_,hd⟩:=(hJ _ _ _ j).ok.root;have:=((hJ _ _ _ j).gx 0 r hr).1;exact⟨zp,h0,9,0,r,rfl,j,hr,by omega,h1⟩
 case round=>
  obtain⟨s,h,k,g,x,rfl,u,V,hk,hd⟩:=hrel;have O:=hJ _ _ _ u;have h2:=O.ok.TG g x V;have ho:=(O.ok.deep g x V).2;obtain⟨hu,B,hB,hG⟩:=O.gx g x V;obtain⟨k,rfl⟩:∃k',k=k'+1:=⟨k-1,by omega⟩
  have hc:=O.hx.at h2;rw[hB]at hc;have hA:=O.a;have hC:=O.c;obtain⟨c0,c1,c2,c3,c4,c5,c6,c7,c8⟩:=hG.c9;clear c0 c1 c3 c4 c5 c6 c7 c8;have o:=yw (t s h wr g x u V);have X:=yw (hy s h wr g x k u V hd);have R:=O.ok;have h5:=(R.q g x V).1;have ha:=hf.ok _ h5;have G:h.down f b (k+1) g=if(f x.q).cur<0∨(f x.q).cur%2=0 then((h.set g (x.OD (f x.q))).set g ((x.OD (f x.q)).OD (b (f x.q))),g,(f x.q).cur)else Hm.down f b k ((h.set g (x.OD (f x.q))).set g ((x.OD (f x.q)).OD (b (f x.q)))) ((f x.q).cur/2).toNat:=by
   conv=>lhs;unfold Hm.down
   rw[V]
  obtain⟨N,hN⟩:=yB ((f x.q).cur)
  obtain⟨h3,T⟩:=yB ((h.set g (x.OD (f x.q))).set g ((x.OD (f x.q)).OD (b (f x.q))))
  rw[<-hN]at o X G;rw[<-T]at X G;rw[G]at hd;by_cases P:N<0
  .rw[if_pos (.inl P)]at hd;have S:=yw hd;clear G hd T hN O u
   gi_wp2
   refine⟨trivial,(callsIn_wide.2 o.out).mono ?_⟩;rintro z W2 ⟨rfl,E⟩;obtain⟨fn,tmps,assign,body,M,d⟩:=X.out W2 E;clear hA hC hc c2 hG o X E
   gi_wp2
   refine d.mono ?_;rintro e W3 ⟨rfl,D⟩;have U:=yw D;clear M d D
   gi_wp2
   refine bodyPost_ret (results_none rfl _ _ _) rfl ?_;rw[<-S.out];exact⟨⟨_,rfl⟩,U.out⟩
  .by_cases h6:N%2=0
   .rw[if_pos (.inr h6)]at hd;have S:=yw hd;have ht:Int.tmod N 2=0:=by rw[Int.tmod_eq_emod_of_nonneg (by omega)];exact h6
    clear G hd T hN O u
    gi_wp2
    refine⟨trivial,(callsIn_wide.2 o.out).mono ?_⟩;rintro z W2 ⟨rfl,E⟩;obtain⟨fn,tmps,assign,body,M,d⟩:=X.out W2 E;clear hA hC hc c2 hG o X E
    gi_wp2
    refine d.mono ?_;rintro e W3 ⟨rfl,D⟩;have U:=yw D;clear M d D
    gi_wp2
    refine bodyPost_ret (results_none rfl _ _ _) rfl ?_;rw[<-S.out];exact⟨⟨_,rfl⟩,U.out⟩
   .rw[if_neg (by omega)]at hd;have S:=yw hd;obtain⟨c,n⟩:∃c:Nat,N=2*c+1:=⟨(N/2).toNat,by omega⟩
    have ht:Int.tmod N 2=1:=by rw[Int.tmod_eq_emod_of_nonneg (by omega)];omega
    have hv:Int.tdiv N 2=c:=by rw[Int.tdiv_eq_ediv_of_nonneg (by omega)];omega
    have Z:∃e∈(f x.q).l,e.id=(f x.q).cur:=ha.cur.resolve_left (by omega);have hh:x.q.has (2*c+1):=by rw[<-n,hN];exact(hf.has _ _ h5).1 Z
    obtain⟨y,H,Q⟩:=R.eJ g x c V hh;obtain⟨hp,L,x',h4,hn⟩:=Vv R H Q;rw[V]at h4;cases h4;have h7:h3.gs c=zo y:=by rw[T,yJ _ _ L,yJ _ _ L];exact H
    have hm:=(O.gx c y H).1;have Y:=R.TG c y H;have hl:=yw Y;have hq:=(R.deep c y H).2;have h9:Hid ((N/2).toNat=c):=yw (by rw[n];omega);have he:=yw h7;have h8:Hid (dp c=dp g+1):=yw (by omega);clear G hd T hN O u Z hh H Q h7 n;have hi:wrap64 (c:Int)=c:=Bi c Y
    gi_wp2
    refine⟨trivial,(callsIn_wide.2 o.out).mono ?_⟩;rintro z W2 ⟨rfl,E⟩;obtain⟨fn,tmps,assign,body,M,d⟩:=X.out W2 E;clear hA hC hc c2 hG o X E
    gi_wp2
    refine d.mono ?_;rintro e W3 ⟨rfl,D⟩;have U:=yw D;clear M d D
    gi_wp2
    go_roundw
    case rel=>exact⟨_,h3,k,c,y,by first|rfl|rw[hi],U.out,he.out,by have:=h8.out;omega,by have:=S.out;rw[h9.out]at this;exact this⟩
    case measure=>
     simp[intOf];omega
def MI:Option (Nat×Int)->Int
 | none=> -1
 | some x=>x.2
def UQ(h:Hm)(g:Nat):Nat:=match h.gs g with
 | none=>0
 | some x=>x.deep.toNat
theorem Et(hk:h.Ok)(A:h.gs g=zo x):x.deep=UQ h g:=by unfold UQ;rw[A];have:=(hk.deep g x A).1;simp only;omega
theorem HS.gxs{ps:Nat->Option Nat}{A B:Nat->Nat}(hs:HS w F p h ps A B)(G:h.gs g=zo x):∃b,ps g=zo b/\PW w b (A g) x:=by obtain⟨b,E,_,_,D⟩:=hs.PJ G;exact⟨b,E,D⟩
theorem yP{W:zu}{b:Nat}{v:zz}{t:TypeId}{z:Nat×Nat}(h:W.heap[b]?=zo (zn #[v] t z)):W.cell? ⟨b,0,zp⟩=zo v:=by simp[zN,h]
def MZ(m B l:Nat)(fn:FuncId)(T:Array zz)(E:Array Tmp)(A bd:Code):Prop:=
 ∀(W:zu) (q:Nat) (n:Int),qm W l .ready fn T E A bd->(∃v,W.heap[B]?=zo (zn #[v] 3 (0,0)))->
  YieldAt Fence.wide m prog (l+1) #[ze (zo ⟨q,0,zp⟩),zd zj n] W fun e D=>e=zm (zh true)/\qm D l .ready fn T E A bd/\
   D.heap[B]?=zo (zn #[zd zj n] 3 (0,0))/\OA (fun k=>k=B∨k=l+1) W D
theorem JI(w:zu)(A C:Nat)(D:Int->zu->Prop)(J:∀n W d l,D n W->w.heap.size<=l->OA (fun k=>k=l) W d->D n d)
 (V:∀(B l:Nat) (fn:FuncId) (T:Array zz) (pm:Array Tmp) (X bd:Code) (c:zu),Below w.heap.size w c->w.heap.size<=B->B<l->c.heap[B]?=zo (zn #[zd zj (-1)] 3 (0,0))->
  qm c l .ready fn T pm X bd->MZ 2 B l fn T pm X bd->
  CallsIn Fence.wide 3 prog 170 #[.func (.yield (l+1)) #[] #[],ze (zo ⟨A,0,zp⟩),ze (zo ⟨C,0,zp⟩)] c fun e G=>(∃v,e=zm v)/\
   qm G l .ready fn T pm X bd/\∃n,G.heap[B]?=zo (zn #[zd zj n] 3 (0,0))/\ -1<=n/\n<1000000/\D n G):
 zw prog 110 #[.func (.func 170) #[] #[ze (zo ⟨A,0,zp⟩),ze (zo ⟨C,0,zp⟩)]] w fun z w'=>∃n,z=zm (zd zj (Ku n))/\D n w':=by
 have HP:=yw J;have HW:=yw V;clear J V;refine(callsIn_wide (n:=4)).1 ?_;refine callsIn_of_wp_marks func110 rfl trivial ?_ rfl;simp only[ntmps110,List.size_toArray,List.length_cons,List.length_nil,Nat.reduceAdd,Nat.reduceSub,Array.replicate_succ,Array.replicate_zero,List.push_toArray,List.append_toArray,List.nil_append,List.cons_append]
 gi_wp2
 obtain⟨w1,I⟩:=yB (w.alloc (zn #[zd zj (-1)] 3))
 rw[<-I];have y:Below w.heap.size w w1:=by rw[I];exact yE w _
 have t:w1.heap.size=w.heap.size+1:=by rw[I];simp
 have Z:w1.heap[w.heap.size]?=zo (zn #[zd zj (-1)] 3 (0,0)):=by rw[I];exact heap_alloc_new w _
 obtain⟨B,P⟩:=yB w.heap.size
 rw[<-P]at Z ⊢;obtain⟨x,r,o,u⟩:=Qf t y Z P;clear I y t Z P;refine xq rfl (by simp) (gf:=170) (lb:=#[ze (zo ⟨A,0,zp⟩),ze (zo ⟨C,0,zp⟩)]) rfl trivial (enters_of func170 (by kernel_rfl) rfl) ?_;intro fn c ha hb a;obtain⟨l,H⟩:=yB w1.heap.size
 rw[<-H]at a hb ⊢;have j:B<l:=by rw[H,x.out,u.out];omega
 have h5:w.heap.size<=B:=by rw[u.out];exact yA _
 have h:c.heap[B]?=zo (zn #[zd zj (-1)] 3 (0,0)):=by rw[hb.block B j];exact o.out
 have h0:Hid (w.heap.size<=l+1):=yw (by rw[H,x.out];omega);have h7:w1.heap.size<=l:=by rw[H];exact yA _
 clear H;refine(HW.out B l fn _ _ _ _ c (yC r.out hb (by have:=r.out.size;omega)) h5 j h a ?_).mono ?_
 .clear a hb h o HW HP;intro W q n a b;obtain⟨v,b⟩:=b;have HV:=yw b;have HL:=yw a;refine YieldAt.mono (vQ (a₁:={ tmps:=#[.func (.func 170) #[] #[ze (zo ⟨A,0,zp⟩),ze (zo ⟨C,0,zp⟩)],undef,zd zj 0,ze (zo ⟨B,0,zp⟩),undef,zd zj n,.func (.func 170) #[] #[ze (zo ⟨A,0,zp⟩),ze (zo ⟨C,0,zp⟩)],ze (zo ⟨q,0,zp⟩),zd zj n,undef,undef,undef,undef,undef],defers:= [] }) trivial a _ rfl (R:=fun d=>d.heap[B]?=zo (zn #[zd zj n] 3 (0,0))/\OA (fun k=>k=B∨k=l+1) W d) ?_ ?_) ?_
  .intro K hK
   gi_wp2
   exact hK
  .generalize N:qr W l .busy _ _ _ _ _=G;have E:=HL.out.put .busy;rw[N]at E;have O:G.heap[B]?=zo (zn #[v] 3 (0,0)):=by rw[<-N,yY _ _ _ _ _ _ _ _ (by omega)];exact HV.out
   have RJ:OA (fun k=>k=B∨k=l+1) W G:=by rw[<-N];exact(yZ _ _ _ _ _ _ _ _).mono fun k hk=>.inr hk
   obtain⟨Q,S,L⟩:=Qe E O RJ;have Y:G.cell? ⟨B,0,zp⟩=zo v:=by simp[zN,O]
   have h6:G.frozen? ⟨B,0,zp⟩=zt:=by simp[zY,O]
   clear N E O RJ HL HV a b
   gi_wp2
   have M:(G.setCell ⟨B,0,zp⟩ (zd zj n)).heap[B]?=zo (zn #[zd zj n] 3 (0,0)):=yD S.out;have s:OA (fun k=>k=B) G (G.setCell ⟨B,0,zp⟩ (zd zj n)):=(OA.refl _ _).one;refine⟨Q.out.RB s (by omega) (by omega),?_,?_⟩
   .rw[yY _ _ _ _ _ _ _ _ (by omega)];exact M
   .exact((L.out.trans s fun k hk=>.inl (.inl hk)).trans (yZ _ _ _ _ _ _ _ _) fun k hk=>.inl (.inr hk))
  .rintro e d ⟨h1,h2,h3,h4⟩;exact⟨h1,h2,h3,h4⟩
 .rintro e G ⟨b,E,n,hn,h8,hc,p⟩;refine⟨b,E,?_⟩;intro f hd F;have M:f.heap[B]?=zo (zn #[zd zj n] 3 (0,0)):=by rw[F.block B (yx hn).1 (by omega)];exact hn
  have Y:f.cell? ⟨B,0,zp⟩=zo (zd zj n):=by simp[zN,M]
  have U:=HP.out n G f (l+1) p h0.out F;have g:Hid (D n (f.putObj l (.deferred zp))):=yw (HP.out n f _ l U (by omega) ⟨rfl,rfl,rfl,by simp,fun k _ hk=>World.putObj_heap_other hk⟩);clear p U hn E b F M;have HD:=yw hd;clear hd;by_cases m:n<0
  .gi_wp2
   refine⟨by simp,.inl ⟨_,_,rfl,run_takeDeferred HD.out,?_⟩⟩;exact⟨_,results_tmp rfl _ _ _,n,by simp[Ku,m],g.out⟩
  .have h9:Int.tdiv n 2=n/2:=Int.tdiv_eq_ediv_of_nonneg (by omega)
   gi_wp2
   refine⟨by simp,.inl ⟨_,_,rfl,run_takeDeferred HD.out,?_⟩⟩;exact⟨_,results_tmp rfl _ _ _,n,by rw[Ku,if_neg (by omega)];rfl,g.out⟩
theorem Wr{f b:Qu->Qu}(A:xW f)(hb:xW b):∀(k:Nat) {h:Hm} (hk:h.Ok) (g:Nat),-1<=(h.down f b k g).2.2/\(h.down f b k g).2.2<1000000
 | 0,h,hk,g=>⟨by show(-1:Int)<= -1;omega,by show(-1:Int) <_;omega⟩
 | k+1,h,hk,g=>by
  unfold Hm.down;cases hx:h.gs g with
  | none=>exact⟨by show(-1:Int)<= -1;omega,by show(-1:Int) <_;omega⟩
  | some x=>
   simp only;have B:=(hk.q g x hx).1;have H:=qg hk hx (A.ok _ B) fun i=>A.has _ i B;have I:=qg H.ok (yO h g (x.OD (f x.q))) (q:=b (f x.q)) (hb.ok _ (A.ok _ B)) fun i=>hb.has _ i (A.ok _ B);split
   .show -1<=(f x.q).cur/\(f x.q).cur<_;rcases(A.ok _ B).cur with E|⟨e,D,hi⟩
    .rw[E];exact⟨by omega,by omega⟩
    .have:=(A.has _ e.id B).1 ⟨e,D,rfl⟩;obtain⟨a,G,h0⟩:=this;have h2:=(hk.q g x hx).2 a G;have h3:=((A.ok _ B).RA e D).id;omega
   .exact Wr A hb k I.ok _
theorem St(w:zu)(F:Nat->Prop)(p A C:Nat)(h:Hm)(ps:Nat->Option Nat)(U m:Nat->Nat)(hs:HS w F p h ps U m)(hk:h.Ok)
 (Z:w.cell? ⟨A,0,zp⟩=zo (ze (zo ⟨p,0,zp⟩))) (Y:w.cell? ⟨C,0,zp⟩=zo (.func (.func 112) #[] #[])):
 zw prog 110 #[.func (.func 170) #[] #[ze (zo ⟨A,0,zp⟩),ze (zo ⟨C,0,zp⟩)]] w fun z w'=>z=zm (zd zj h.running)/\Below w.heap.size w w':=by
 have N:=zP w _ Z;have V:=zP w _ Y;refine(JI w A C (fun n W=>n=(h.down PC PC 9 0).2.2/\Below w.heap.size w W) ?_ ?_).mono ?_
 .rintro n W X l ⟨R,J⟩ a c;exact⟨R,J.trans (c.below (by have:=J.size;omega) fun k hk=>by omega)⟩
 .intro B l fn T b O bd j hb h0 h6 f a u;refine(Jt 1 PC PC .id .id (fun s M W=>M=h/\Below w.heap.size w W/\W.heap[B]?=zo (zn #[zd zj (MI s)] 3 (0,0))/\qm W l .ready fn T b O bd) p A C (l+1) h.credit h.gran ps U (UQ h) (h.down PC PC 9 0) ?_ ?_ ?_ h j ⟨rfl,hb,f,a⟩ rfl).mono ?_
  .rintro s M W ⟨rfl,D,_,_⟩;have I:=hs.kept (w':=W) (.NZ D);exact⟨hk,I.hx,fun g x H=>⟨Et hk H,I.gxs H⟩,((Lb D).1 A 0 N).trans Z,((Lb D).1 C 0 V).trans Y⟩
  .rintro s M W g x ⟨rfl,D,G,E⟩ H;refine(Xi W _ _ x.q ((hs.kept (w':=W) (.NZ D)).RT H)).mono ?_;rintro z X ⟨rfl,rfl⟩;exact⟨rfl,qY (x:=x.OD (PC x.q)) H,D,G,E⟩
  .rintro s M W g x k ⟨rfl,_,_,_⟩ H hd X ⟨r,D,G,E⟩;refine(u X (U g) _ E ⟨_,G⟩).mono ?_;rintro e h5 ⟨R,J,o,d⟩;refine⟨R,?_,D.trans (d.below (by have:=D.size;omega) fun k hk=>by omega),o,J⟩;rw[r];exact qY (x:=(x.OD (PC x.q)).OD (PC (PC x.q))) H
  .rintro e W2 ⟨t,_,D,G,E⟩;exact⟨t,E,_,G,(Wr .id .id 9 hk 0).1,(Wr .id .id 9 hk 0).2,rfl,D⟩
 .rintro z w' ⟨n,rfl,rfl,hb⟩;exact⟨rfl,hb⟩
theorem Bj(w:zu)(p:Nat)(B:zz)(h1:B.oneCell'=true):
 zw prog 111 #[ze (zo ⟨p,0,zp⟩),B] w fun z w'=>∃A C,z=zm (.func (.func 170) #[] #[ze (zo ⟨A,0,zp⟩),ze (zo ⟨C,0,zp⟩)])/\
  w'.cell? ⟨A,0,zp⟩=zo (ze (zo ⟨p,0,zp⟩))/\w'.cell? ⟨C,0,zp⟩=zo B/\w.heap.size<=A/\w.heap.size<=C/\Below w.heap.size w w':=by
 go_enter func111,ntmps111;go_wp2;go_ret;refine⟨_,_,rfl,?_,?_,yA _,by omega,((zU _ w).alloc (yA _) _).alloc (by simp) _⟩
 .exact yP (t:=99) ((zZ _ _ _ (by simp)).trans (heap_alloc_new w _))
 .have D:=heap_alloc_new (w.alloc (zn #[ze (zo ⟨p,0,zp⟩)] 99)) (zn #[B] 199);rw[World.size_alloc]at D;exact yP D
theorem ue(w:zu)(F:Nat->Prop)(p:Nat)(h:Hm)(O:yT w F p h):zw prog 59 #[ze (zo ⟨p,0,zp⟩)] w fun z w'=>z=zm (zd zj h.running)/\Below w.heap.size w w':=by
 obtain⟨⟨ps,N,M,hs⟩,D⟩:=O;obtain⟨E,R,T⟩:=Qe hs D (Bj w p (.func (.func 112) #[] #[]) rfl);clear hs D;go_enter func59,ntmps59;go_wp2_with fail;refine T.out.mono ?_;rintro z w1 ⟨A,C,rfl,J,H,_,_,hb⟩;have I:=yw hb;have U:=yw (St w1 F p A C h ps N M (E.out.kept (.NZ hb)) R.out J H);clear J H hb;go_wp2_with fail;refine U.out.mono ?_;rintro z w2 ⟨rfl,B⟩;have G:=yw B;clear B;go_wp2;go_ret;exact⟨rfl,yC I.out G.out I.out.size⟩
theorem HS.gW{w':zu}{ps:Nat->Option Nat}{D B:Nat->Nat}(hs:HS w F p h ps D B){q':Qu}(M:h.gs g=zo x)
 (O:OA (fun k=>k=D g) w w') (R:xZ w' (fun k=>F k/\B k=g+1) (D g) q'):HS w' F p (h.set g (x.OD q')) ps D B:=by
 obtain⟨_,_,_,_,_,hF,T⟩:=(hs.RT M).ex;obtain⟨H,G,Z,tb,gb⟩:=hs.PJ M;have hk:∀k,k<w.heap.size->B k≠g+1->w'.heap[k]?=w.heap[k]?:=fun k Y E=>O.block k Y (by rintro rfl;exact E T);refine⟨hs.hx.of (hk p hs.hx.lt (by rw[hs.tp];omega)),?_,?_,hs.inj,hs.fp,hs.tp⟩
 .intro k hk;by_cases e:k=g
  .subst e;rw[yO]at hk;cases hk
  .rw[yJ h _ e]at hk;exact hs.eK k hk
 .intro k z A;by_cases e:k=g
  .subst e;rw[yO]at A;cases A;exact⟨H,G,Z,tb,gb.of (hk H gb.lt (by rw[tb];omega)),R⟩
  .rw[yJ h _ e]at A;obtain⟨c,U,N,J,I,V⟩:=hs.gx k z A;exact⟨c,U,N,J,I.of (hk c I.lt (by rw[J];omega)),V.kept fun j a X=>hk j a (by rw[X.2];omega)⟩
theorem KD(w:zu)(F:Nat->Prop)(q p K:Nat)(x:Qu)(credit gran:Int)(ps:Nat->Option Nat)(h:xZ w F q x)(D:TW w p credit gran ps)(hK:w.cell? ⟨K,0,zp⟩=zo (ze (zo ⟨p,0,zp⟩))):
 zw prog 168 #[ze (zo ⟨q,0,zp⟩),ze (zo ⟨K,0,zp⟩)] w (vv w F q (x.pick gran)):=by
 have H:=yw (Qo gran w F q x h);have c1:=D.c1;clear h D;go_enter func168,ntmps168;go_wp2_with fail;refine H.out.mono ?_;rintro z w2 ⟨rfl,A,B⟩;have G:=yw A;have E:=yw B;clear A B;go_wp2;go_ret;exact⟨rfl,G.out,E.out⟩
theorem EO(w:zu)(F:Nat->Prop)(p A C K:Nat)(h:Hm)(ps:Nat->Option Nat)(a u:Nat->Nat)(hs:HS w F p h ps a u)(hk:h.Ok)
 (hA:w.cell? ⟨A,0,zp⟩=zo (ze (zo ⟨p,0,zp⟩))) (hC:w.cell? ⟨C,0,zp⟩=zo (.func (.func 168) #[] #[ze (zo ⟨K,0,zp⟩)])) (hK:w.cell? ⟨K,0,zp⟩=zo (ze (zo ⟨p,0,zp⟩)))
 (r:∀k,F k->k<w.heap.size) (nA:¬F A) (nC:¬F C) (nK:¬F K):
 zw prog 110 #[.func (.func 170) #[] #[ze (zo ⟨A,0,zp⟩),ze (zo ⟨C,0,zp⟩)]] w fun z w'=>z=zm (zd zj h.pick.2)/\yT w' F p h.pick.1/\OA F w w':=by
 have P:=zP w _ hA;have h5:=zP w _ hC;have S:=zP w _ hK;have I:∀{W:zu} {k:Nat},OA F w W->k<w.heap.size->¬F k->∀o,W.cell? ⟨k,o,zp⟩=w.cell? ⟨k,o,zp⟩:=fun m v hn o=>by simp[zN,m.block _ v hn]
 obtain⟨R,H⟩:=yB (h.down (vp h.gran) PC 9 0)
 have b:=Wr (.pick h.gran) .id 9 hk 0;have d:=(Qr (.pick h.gran) .id 9 hk 0).ok;rw[<-H]at b d;refine(JI w A C (fun n W=>n=R.2.2/\HS W F p R.1 ps a u/\OA F w W) ?_ ?_).mono ?_
 .rintro n W W' l ⟨f,N,O⟩ v m;have L:∀k,F k->k≠l:=fun k hk e=>by have:=r k hk;omega
  exact⟨f,N.kept (xz.PS m fun k hk e=>L k hk e),O.trans m fun k hk=>.inr (by omega)⟩
 .intro B l fn T pm Q bd W1 hb h9 h6 hc v hR;have j:¬F B:=fun e=>by have:=r B e;omega
  have h0:¬F l:=fun e=>by have:=r l e;omega
  have Y:¬F (l+1):=fun e=>by have:=r _ e;omega
  refine(EN 1 (vp h.gran) PC (.pick _) .id (fun s Z W=>Z.Ok/\qM h Z/\HS W F p Z ps a u/\OA F w W/\W.heap[B]?=zo (zn #[zd zj (MI s)] 3 (0,0))/\qm W l .ready fn T pm Q bd) p A C K (l+1) h.credit h.gran ps a (UQ h) R ?_ ?_ ?_ h W1 ⟨hk,.refl h,hs.kept (.NZ hb),.NZ hb,hc,v⟩ H.symm).mono ?_
  .rintro s Z W ⟨J,E,D,G,_,_⟩;refine⟨J,?_,fun g x V=>⟨?_,D.gxs V⟩,(I G P nA 0).trans hA,(I G h5 nC 0).trans hC⟩
   .have:=D.hx;rw[E.cr,E.gr]at this;exact this
   .rcases E.gs g with⟨_,N⟩|⟨x0,y,f,N,O,t⟩
    .rw[V]at N;cases N
    .rw[V]at N;cases N;rw[t];exact Et hk f
  .rintro s Z W g x ⟨J,E,D,G,M,U⟩ V;have c:=D.hx;rw[E.cr,E.gr]at c;obtain⟨_,_,_,_,_,X,h8⟩:=(D.RT V).ex;refine(KD W _ (a g) p K x.q h.credit h.gran ps (D.RT V) c ((I G S nK 0).trans hK)).mono ?_;rintro z W' ⟨rfl,N,O⟩;have a1:=qg J V (Er (J.q g x V).1 h.gran) fun i=>Vt _ _ _;refine⟨rfl,a1.ok,E.trans a1.dQ,D.gW V O N,G.trans O fun k e=>.inl (e▸X),?_,U.RB O (fun e=>h0 (e▸X)) (fun e=>Y (e▸X))⟩;rw[O.block B (yx M).1 (fun e=>j (e▸X))];exact M
  .rintro s Z W g x k _ V hd W' ⟨J,E,D,G,M,U⟩;refine(hR W' (a g) _ U ⟨_,M⟩).mono ?_;rintro e h7 ⟨f,N,O,t⟩;have es:(Z.set g (x.OD (vp h.gran x.q))).set g ((x.OD (vp h.gran x.q)).OD (PC (vp h.gran x.q)))=Z.set g (x.OD (vp h.gran x.q)):=qY (x:=(x.OD (vp h.gran x.q)).OD (PC (vp h.gran x.q))) (yO _ _ _);rw[es];refine⟨f,J,E,D.kept (xz.PS t ?_),G.trans t fun k e=>.inr (by omega),O,N⟩;rintro k hk (rfl|rfl)
   .exact j hk
   .exact Y hk
  .rintro e W2 ⟨hv,_,_,D,G,M,U⟩;exact⟨hv,U,_,M,b.1,b.2,rfl,D,G⟩
 .rintro z w' ⟨n,rfl,rfl,N,O⟩;refine⟨?_,⟨⟨ps,a,u,?_⟩,?_⟩,O⟩
  .unfold Hm.pick;rw[<-H]
  .unfold Hm.pick;rw[<-H];exact N
  .unfold Hm.pick;rw[<-H];exact d
theorem Up(w:zu)(F:Nat->Prop)(p:Nat)(h:Hm)(n:yT w F p h)(c:∀k,F k->k<w.heap.size):zw prog 109 #[ze (zo ⟨p,0,zp⟩)] w fun z w'=>z=zm (zd zj h.pick.2)/\yT w' F p h.pick.1/\OA F w w':=by
 obtain⟨⟨ps,m,l,hs⟩,J⟩:=n;obtain⟨V,o,a⟩:=Qe hs J c;clear hs J c;go_enter func109,ntmps109;go_wp2_with fail;obtain⟨w1,B⟩:=yB (w.alloc (zn #[ze (zo ⟨p,0,zp⟩)] 99))
 have M:Below w.heap.size w w1:=by rw[B];exact yE w _
 have E:w1.heap[w.heap.size]?=zo (zn #[ze (zo ⟨p,0,zp⟩)] 99 (0,0)):=by rw[B];exact heap_alloc_new w _
 rw[<-B];obtain⟨K,G⟩:=yB w.heap.size
 rw[<-G]at E ⊢;obtain⟨N,H,T⟩:=Qe G M E;have I:=(yx E).1;clear B M G E;refine(Bj w1 p (.func (.func 168) #[] #[ze (zo ⟨K,0,zp⟩)]) rfl).mono ?_;rintro z f ⟨A,C,rfl,b,Z,O,X,hb⟩;have R:=yw (yC H.out hb H.out.size);have U:=H.out.size;have D:∀k,w.heap.size<=k->¬F k:=fun k hk e=>by have:=a.out k e;omega
 have q:=yw (EO f F p A C K h ps m l (V.out.kept (.NZ R.out)) o.out b Z (yP ((hb.block K I).trans T.out)) (fun k hk=>yz (a.out k hk) R.out.size) (D _ (by omega)) (D _ (by omega)) (D _ (by rw[N.out];exact yA _)));clear b Z hb O X D I U;go_wp2_with fail;refine q.out.mono ?_;rintro z w3 ⟨rfl,d,Y⟩;have g:=yw d;have j:=yw Y;clear d Y;go_wp2;go_ret;exact⟨rfl,g.out,(OA.NZ R.out:OA F w f).trans j.out fun k hk=>.inl hk⟩
theorem UR(w:zu)(F:Nat->Prop)(p:Nat)(h:Hm)(B:yT w F p h):zw prog 109 #[ze (zo ⟨p,0,zp⟩)] w fun z w'=>z=zm (zd zj h.pick.2)/\qv w F p h.pick.1 w':=
 (Up w _ p h B.fO fun k hk=>hk.2).mono fun z w' A=>⟨A.1,A.2.1.mono fun k _ hk=>.inl hk.1,A.2.2.mono fun k hk=>hk.1⟩
def NP(A:Nat->Nat):Option (Nat×Int)->zz
 | none=>ze zp
 | some x=>ze (zo ⟨A x.1,0,zp⟩)
def NA(m B l:Nat)(fn:FuncId)(T:Array zz)(E:Array Tmp)(A bd:Code):Prop:=
 ∀(W:zu) (q:Nat) (n:Int),qm W l .ready fn T E A bd->(∃v,W.heap[B]?=zo (zn #[v] 136 (0,0)))->
  YieldAt Fence.wide m prog (l+1) #[ze (zo ⟨q,0,zp⟩),zd zj n] W fun e D=>e=zm (zh true)/\qm D l .ready fn T E A bd/\
   D.heap[B]?=zo (zn #[ze (zo ⟨q,0,zp⟩)] 136 (0,0))/\OA (fun k=>k=B∨k=l+1) W D
theorem EP(w M:zu)(F:Nat->Prop)(p A C B l:Nat)(h:Hm)(ps:Nat->Option Nat)(X t:Nat->Nat)(hs:HS w F p h ps X t)(hk:h.Ok)(fn:FuncId)(T:Array zz)(Y:Array Tmp)(I bd:Code)
 (f:w.cell? ⟨A,0,zp⟩=zo (ze (zo ⟨p,0,zp⟩))) (d:w.cell? ⟨C,0,zp⟩=zo (.func (.func 112) #[] #[]))
 (R:A≠B/\C≠B/\A<l/\C<l/\B<l) (J:¬F B/\¬F (l+1)) (hb:Below w.heap.size w M) (r:M.heap[B]?=zo (zn #[ze zp] 136 (0,0)))
 (u:qm M l .ready fn T Y I bd) (S:NA 2 B l fn T Y I bd):
 CallsIn Fence.wide 3 prog 170 #[.func (.yield (l+1)) #[] #[],ze (zo ⟨A,0,zp⟩),ze (zo ⟨C,0,zp⟩)] M fun e a=>(∃v,e=zm v)/\
  qm a l .ready fn T Y I bd/\a.heap[B]?=zo (zn #[ze (zo ⟨X (h.down PC PC 9 0).2.1,0,zp⟩)] 136 (0,0))/\OA (fun k=>k=B∨k=l+1) M a:=by
 have b:=zP w _ f;have c:=zP w _ d;refine(Jt 1 PC PC .id .id (fun s Z W=>Z=h/\OA (fun k=>k=B∨k=l+1) M W/\W.heap[B]?=zo (zn #[NP X s] 136 (0,0))/\qm W l .ready fn T Y I bd) p A C (l+1) h.credit h.gran ps X (UQ h) (h.down PC PC 9 0) ?_ ?_ ?_ h M ⟨rfl,.refl _ _,r,u⟩ rfl).mono ?_
 .rintro s Z W ⟨rfl,D,_,_⟩;have U:=hs.kept (w':=M) (.NZ hb);have N:=U.kept (w':=W) (xz.PS D fun k V hk=>by rcases hk with rfl|rfl;exact J.1 V;exact J.2 V);have H:∀k,k<w.heap.size->k≠B->k≠l+1->W.cell? ⟨k,0,zp⟩=w.cell? ⟨k,0,zp⟩:=fun k hk Q n=>by have K:=D.block k (yz hk hb.size) (by rintro(e|e);exact Q e;exact n e);simp[zN,K.trans (hb.block k hk)]
  exact⟨hk,N.hx,fun g x O=>⟨Et hk O,N.gxs O⟩,(H A b R.1 (by omega)).trans f,(H C c R.2.1 (by omega)).trans d⟩
 .rintro s Z W g x ⟨rfl,D,G,E⟩ O;have U:=hs.kept (w':=M) (.NZ hb);have N:=U.kept (w':=W) (xz.PS D fun k V hk=>by rcases hk with rfl|rfl;exact J.1 V;exact J.2 V);refine(Xi W _ _ x.q (N.RT O)).mono ?_;rintro z j ⟨rfl,rfl⟩;exact⟨rfl,qY (x:=x.OD (PC x.q)) O,D,G,E⟩
 .rintro s Z W g x k ⟨rfl,_,_,_⟩ O hd j ⟨L,D,G,E⟩;refine(S j (X g) _ E ⟨_,G⟩).mono ?_;rintro e h0 ⟨U,m,y,o⟩;refine⟨U,?_,D.trans o fun k hk=>.inl hk,y,m⟩;rw[L];exact qY (x:=(x.OD (PC x.q)).OD (PC (PC x.q))) O
 .rintro e a ⟨P,_,D,G,E⟩;exact⟨P,E,G,D⟩
theorem NB(hk:h.Ok): -1<=h.running/\h.running<1000000:=by have:=Wr .id .id 9 hk 0;unfold Hm.running Ku;split<;>omega
theorem KE(w:zu)(F:Nat->Prop)(p:Nat)(h:Hm)(A:yT w F p h)(I:∀k,F k->k<w.heap.size)(B:h.running= -1):zw prog 95 #[ze (zo ⟨p,0,zp⟩)] w fun z w'=>z=zm (zd zj h.yield.2)/\yT w' F p h.yield.1/\OA F w w':=by
 have J:h.yield=h.pick:=by unfold Hm.yield;rw[if_pos B]
 rw[J];have H:=yw (ue w F p h A);rw[B]at H;have R:=yw A;have M:=yw I;obtain⟨⟨ps,qs,tg,hs⟩,D⟩:=A;clear hs D B I J;go_enter func95,ntmps95;go_wp2_with fail;refine H.out.mono ?_;rintro z w1 ⟨rfl,hb⟩;have N:=yw hb;have T:=yw (Up w1 F p h (R.out.behind hb) fun k hk=>yz (M.out k hk) hb.size);clear hb;go_wp2_with fail;refine T.out.mono ?_;rintro z w2 ⟨rfl,G,E⟩;have O:=yw G;have U:=yw E;clear G E;go_wp2;go_ret;exact⟨rfl,O.out,(OA.NZ N.out:OA F w w1).trans U.out fun k hk=>.inl hk⟩
theorem KF(w:zu)(F:Nat->Prop)(p:Nat)(h:Hm)(hh:yT w F p h)(hF:∀k,F k->k<w.heap.size)(hr:h.running≠ -1):zw prog 95 #[ze (zo ⟨p,0,zp⟩)] w fun z w'=>z=zm (zd zj h.yield.2)/\yT w' F p h.yield.1/\OA F w w':=by
 obtain⟨g,hg⟩:=yB ((h.down PC PC 9 0).2.1)
 have hy:h.yield=(h.RU g).pick:=by unfold Hm.yield;rw[if_neg hr,hg]
 have HR:=yw (ue w F p h hh);have HF:=yw hF;obtain⟨⟨ps,qs,tg,hs⟩,T⟩:=hh;obtain⟨r,H7,_,ke⟩:=T.root;obtain⟨x,hx⟩:=Lo .id .id 9 T 0 r H7 (by omega);rw[JC,<-hg]at hx;have H3:h.RU g=h.set g (x.OD (x.q.yield h.gran)):=by unfold Hm.RU;rw[hx]
 have hi:=(ub T g).ok;rw[H3]at hy hi;rw[hy];have h6:(h.running == -1)=zt:=beq_eq_false_iff_ne.2 hr;obtain⟨h7,HK,HX,H6,HG,k6⟩:=Qh hs T hx hi hg hr;obtain⟨N,hN⟩:=yB h.running
 rw[<-hN]at HR h6 k6;clear hs T hr hF hy hx H3 hi H7 ke hg hN;have kl:(N == -1)=zt:=h6;clear h6;refine(callsIn_wide (n:=4)).1 ?_;refine callsIn_of_wp_marks func95 rfl trivial ?_ rfl;simp only[ntmps95,List.size_toArray,List.length_cons,List.length_nil,Nat.reduceAdd,Nat.reduceSub,Array.replicate_succ,Array.replicate_zero,List.push_toArray,List.append_toArray,List.nil_append,List.cons_append]
 gi_wp2_with fail
 refine⟨trivial,(callsIn_wide.2 HR.out).mono ?_⟩;rintro z w1 ⟨rfl,k4⟩;have o:=yw k4;clear k4 HR
 gi_wp2_with fail
 obtain⟨w2,Y⟩:=yB (w1.alloc (zn #[ze zp] 136))
 have H2:Below w1.heap.size w1 w2:=by rw[Y];exact yE w1 _
 have d:w2.heap[w1.heap.size]?=zo (zn #[ze zp] 136 (0,0)):=by rw[Y];exact heap_alloc_new w1 _
 rw[<-Y];obtain⟨B,hp⟩:=yB w1.heap.size
 rw[<-hp]at d ⊢;obtain⟨kf,ha,H1⟩:=Qe hp H2 d;clear Y hp H2 d;refine⟨trivial,(callsIn_wide.2 (Bj w2 p (.func (.func 112) #[] #[]) rfl)).mono ?_⟩;rintro z w3 ⟨A,C,rfl,hA,hC,ka,kg,hc⟩;have Q:=zP _ _ hA;have P:=zP _ _ hC;have L:=(yx H1.out).1;have hm:w3.heap[B]?=zo (zn #[ze zp] 136 (0,0)):=(hc.block B L).trans H1.out;have j:Hid (Below w.heap.size w w3):=yw (yC o.out (yC ha.out hc ha.out.size) o.out.size)
 obtain⟨HA,HC,h8⟩:=Qe hA hC hm;have k2:Hid (w.heap.size<=B/\B<w3.heap.size):=yw ⟨by rw[kf.out];exact o.out.size,(yx hm).1⟩;clear hA hC ka kg hc L hm
 gi_wp2_with fail
 refine xq rfl (by simp) (gf:=170) (lb:=#[ze (zo ⟨A,0,zp⟩),ze (zo ⟨C,0,zp⟩)]) rfl trivial (enters_of func170 (by kernel_rfl) rfl) ?_;intro fn W1 kk hb S;obtain⟨l,D⟩:=yB w3.heap.size
 rw[<-D]at S hb ⊢;have k7:=yw D;have hu:B<l:=by rw[D];exact k2.out.2
 have h0:A<l:=by rw[D];exact Q
 have u:C<l:=by rw[D];exact P
 have Hg:w.heap.size<=l:=by rw[D];exact j.out.size
 have k0:=k2.out.1;clear D Q P;have m:Below w.heap.size w W1:=yC j.out hb (by rw[k7.out];exact j.out.size);have J:W1.cell? ⟨A,0,zp⟩=zo (ze (zo ⟨p,0,zp⟩)):=(hb.cell (p:=⟨A,0,zp⟩) h0).trans HA.out;have M:W1.cell? ⟨C,0,zp⟩=zo (.func (.func 112) #[] #[]):=(hb.cell (p:=⟨C,0,zp⟩) u).trans HC.out;have U:W1.heap[B]?=zo (zn #[ze zp] 136 (0,0)):=(hb.block B hu).trans h8.out;have H8:∀k,F k->k<w.heap.size:=HF.out;have Z:∀k,w.heap.size<=k->¬F k:=fun k hk e=>by have:=H8 k e;omega
 have k3:=Z B k0;have ho:=Z l Hg;have V:=Z (l+1) (by omega);have hj:A≠B/\C≠B:=⟨fun e=>by rw[e]at J;rw[yP U]at J;simp at J,fun e=>by rw[e]at M;rw[yP U]at M;simp at M⟩
 have a:=h7.out.kept (w':=W1) (.NZ m);clear Z H8;refine(EP W1 W1 F p A C B l h ps qs tg a HK.out fn _ _ _ _ J M ⟨hj.1,hj.2,h0,u,hu⟩ ⟨k3,V⟩ (zU _ _) U S ?_).mono ?_
 .clear S hb m a J M U hj h7 HK HX H6 HA HC h8;intro W q n S hv;obtain⟨v,hv⟩:=hv;have HV:=yw hv;have HL:=yw S;refine YieldAt.mono (vQ (a₁:={ tmps:=#[ze (zo ⟨p,0,zp⟩),undef,zd zj 0,ze (zo ⟨B,0,zp⟩),ze (zo ⟨q,0,zp⟩),ze (zo ⟨p,0,zp⟩),zd zj N,zh true,ze (zo ⟨p,0,zp⟩),.func (.func 170) #[] #[ze (zo ⟨A,0,zp⟩),ze (zo ⟨C,0,zp⟩)],ze (zo ⟨q,0,zp⟩),zd zj n,undef,undef,undef,undef,undef,undef,undef,undef,undef],defers:= [] }) trivial S _ rfl (R:=fun W'=>W'.heap[B]?=zo (zn #[ze (zo ⟨q,0,zp⟩)] 136 (0,0))/\OA (fun k=>k=B∨k=l+1) W W') ?_ ?_) ?_
  .intro K hK
   gi_wp2
   exact hK
  .generalize f:qr W l .busy _ _ _ _ _=s;have O:=HL.out.put .busy;rw[f]at O;have X:s.heap[B]?=zo (zn #[v] 136 (0,0)):=by rw[<-f,yY _ _ _ _ _ _ _ _ (by omega)];exact HV.out
   have RJ:OA (fun k=>k=B∨k=l+1) W s:=by rw[<-f];exact(yZ _ _ _ _ _ _ _ _).mono fun k hk=>.inr hk
   obtain⟨kc,kd,k9⟩:=Qe O X RJ;have E:s.cell? ⟨B,0,zp⟩=zo v:=by simp[zN,X]
   have kh:s.frozen? ⟨B,0,zp⟩=zt:=by simp[zY,X]
   have d:=(yx X).1;clear f O X RJ HL HV S hv
   gi_wp2
   have b:(s.setCell ⟨B,0,zp⟩ (ze (zo ⟨q,0,zp⟩))).heap[B]?=zo (zn #[ze (zo ⟨q,0,zp⟩)] 136 (0,0)):=yD kd.out;have H:OA (fun k=>k=B) s (s.setCell ⟨B,0,zp⟩ (ze (zo ⟨q,0,zp⟩))):=(OA.refl _ _).one;refine⟨kc.out.RB H (by omega) (by omega),?_,?_⟩
   .rw[yY _ _ _ _ _ _ _ _ (by omega)];exact b
   .exact((k9.out.trans H fun k hk=>.inl (.inl hk)).trans (yZ _ _ _ _ _ _ _ _) fun k hk=>.inl (.inr hk))
  .rintro e W' ⟨h1,h2,h3,h4⟩;exact⟨h1,h2,h3,h4⟩
 .rintro e s ⟨hv,O,hn,RJ⟩;refine⟨hv,O,?_⟩;intro y hd H;rw[<-HG.out]at hn;have b:y.heap[B]?=zo (zn #[ze (zo ⟨qs g,0,zp⟩)] 136 (0,0)):=by rw[H.block B (yx hn).1 (by omega)];exact hn
  have I:=(a.kept (w':=s) (xz.PS RJ fun k c hk=>by rcases hk with rfl|rfl;exact k3 c;exact V c)).kept (w':=y) (xz.PS H fun k c hk=>by rw[hk]at c;exact V c);have ht:OA F w y:=((OA.NZ m:OA F w W1).trans RJ fun k hk=>by rcases hk with rfl|rfl;exact .inr k0;exact .inr (by omega)).trans H fun k hk=>by rw[hk];exact .inr (by omega)
  have E:y.cell? ⟨B,0,zp⟩=zo (ze (zo ⟨qs g,0,zp⟩)):=yP b;have c1:=I.hx.c1;obtain⟨h9,k5,HD⟩:=Qe I ht hd;obtain⟨q,hq⟩:=yB (qs g)
  have HQ:=yw hq;rw[<-hq]at E;clear hn b I ht RJ H hd hv O a J M U m hb S h7 HA HC h8 hq o ha j;have kj:prog.follows .mixedOrders=true:=by kernel_rfl
  have Hy:∀W,W.heap=y.heap->zw prog 145 #[ze (zo ⟨q,0,zp⟩),zd zj h.gran] W (vv W (fun k=>F k/\tg k=g+1) q (x.q.yield h.gran)):=fun W hW=>by rw[HQ.out];exact Rp h.gran W _ (qs g) x.q ((h9.out.kept (w':=W) fun k _ _=>by rw[hW]).RT HX.out)
  have hz:=yw Hy;clear Hy
  gi_wp2
  have H4:F q:=by obtain⟨_,_,_,_,_,c,_⟩:=(h9.out.RT HX.out).ex;rw[HQ.out];exact c
  have H0:=yw H4;have k8:Hid (∀w4 w5,OA (fun k=>k=q) y.drew w4->OA F w4 w5->w5.heap[l]?=zo (.deferred (zo []))):=yw fun w4 w5 h1 h2=>by have H9:=(yx HD.out).1;rw[h2.block l (yz H9 h1.size) ho,h1.block l H9 (fun e=>ho (e▸H0.out))];exact HD.out
  clear H4
  first|gi_region_with_o ((refine⟨trivial,(callsIn_wide.2 (hz.out y.drew rfl)).mono ?_⟩;rintro z w4 ⟨rfl,hw,t⟩))|fail "region"
  all_goals
   have I:HS y.drew F p h ps qs tg:=h9.out.kept fun _ _ _=>rfl;have he:=I.gW (w':=w4) (q':=x.q.yield h.gran) HX.out (by rw[<-HQ.out];exact t) (by rw[<-HQ.out];exact hw);obtain⟨ki,k1,HP⟩:=Qe he t (Up w4 F p (h.set g (x.OD (x.q.yield h.gran))) ⟨⟨_,_,_,he⟩,H6.out⟩ fun k hk=>yz (HF.out k hk) (Nat.le_trans k5.out.size t.size));clear I he hw t E c1 hz
   gi_wp2_with fail
   refine⟨trivial,(callsIn_wide.2 HP.out).mono ?_⟩;rintro z w5 ⟨rfl,h5,t5⟩;obtain⟨kb,H5,T5⟩:=Qe (k8.out w4 w5 k1.out t5) h5 t5;clear h5 t5 HP
   gi_wp2
   refine⟨by simp,.inl ⟨_,_,rfl,run_takeDeferred kb.out,?_⟩⟩;refine⟨_,results_tmp rfl _ _ _,rfl,H5.out.kept (fun k hk c=>World.putObj_heap_other (fun e=>ho (e▸c))),?_⟩;refine OA.trans (((k5.out.trans (k1.out.TT) fun k hk=>.inl (hk▸H0.out)).trans T5.out fun k hk=>.inl hk):OA F w w5) (G:=fun k=>k=l) ⟨rfl,rfl,rfl,by simp,fun k _ hk=>World.putObj_heap_other hk⟩ fun k hk=>.inr (by rw[hk];exact Hg)
theorem Gu(w:zu)(F:Nat->Prop)(p:Nat)(h:Hm)(B:yT w F p h):zw prog 95 #[ze (zo ⟨p,0,zp⟩)] w fun z w'=>z=zm (zd zj h.yield.2)/\qv w F p h.yield.1 w':=by
 by_cases D:h.running= -1
 .exact(KE w _ p h B.fO (fun k hk=>hk.2) D).mono fun z w' A=>⟨A.1,A.2.1.mono fun k _ hk=>.inl hk.1,A.2.2.mono fun k hk=>hk.1⟩
 .exact(KF w _ p h B.fO (fun k hk=>hk.2) D).mono fun z w' A=>⟨A.1,A.2.1.mono fun k _ hk=>.inl hk.1,A.2.2.mono fun k hk=>hk.1⟩
structure JCh(F:Nat->Prop)(W1:zu)(p:Nat)(h:Hm)(ps:Nat->Option Nat)(qs:Nat->Nat)(A C B l:Nat)(ns:Int)(fn:FuncId)(T:Array zz)(pm:Array Tmp)(asg bd:Code)(h':Hm)(W:zu):Prop where
 ok:h'.Ok
 dQ:qM h h'
 hs:∃tg,HS W (Ext F W1 W) p h' ps qs tg
 t:OA (fun k=>F k∨k=l+1) W1 W
 a:W.cell? ⟨A,0,zp⟩=zo (ze (zo ⟨p,0,zp⟩))
 c:W.cell? ⟨C,0,zp⟩=zo (.func (.func 112) #[] #[])
 b:W.heap[B]?=zo (zn #[zd zk ns] 33 (0,0))
 lr:qm W l .ready fn T pm asg bd
theorem Ext.no{B W:zu}(h:¬F k)(hk:k<B.heap.size):¬Ext F B W k:=by
 rintro(A|A)
 .exact h A
 .omega
theorem IP{ns:Int}{A:Hm×Nat×Int}(E:h.gs g=zo x)(hd:Hm.down PC (Kv ns) (k+1) h g=A)(B:0<=A.2.2):0<=x.q.cur:=by
 by_cases D:x.q.cur<0
 .unfold Hm.down at hd;rw[E]at hd;simp only at hd;have e:(PC x.q).cur=x.q.cur:=rfl;rw[e,if_pos (.inl D)]at hd;rw[<-hd]at B;have:(0:Int)<=x.q.cur:=B;omega
 .omega
theorem Ot(ns:Int)(w:zu)(F:Nat->Prop)(p:Nat)(h:Hm)(hh:yT w F p h)(hF:∀k,F k->k<w.heap.size)(hr:h.running≠ -1)(kn:0<=ns)(m7:ns<=1000000000):
 zw prog 99 #[ze (zo ⟨p,0,zp⟩),zd zk ns] w fun z w'=>z=zm (zd zj 0)/\yT w' (Ext F w w') p (h.OK ns)/\OA F w w':=by
 have HF:=yw hF;obtain⟨Z,M⟩:=yB (h.down PC (Kv ns) 9 0)
 have kj:h.OK ns=Z.1:=by unfold Hm.OK;rw[M]
 have kk:0<=Z.2.2:=by
  have e:=Sb h ns 9 0;rw[<-M]at e;have ks:=Wr .id .id 9 hh.2 0;rw[<-e]at ks;by_cases h0:0<=Z.2.2
  .exact h0
  .refine absurd ?_ hr;unfold Hm.running Ku;rw[<-e,if_pos (by omega)]
 have hu:=(Qr .id (.OK ns) 9 hh.2 0).ok;rw[<-M]at hu;rw[kj];have HR:=yw (ue w F p h hh);have hi:(h.running == -1)=zt:=beq_eq_false_iff_ne.2 hr;obtain⟨⟨ps,Q,tg,hs⟩,kc⟩:=hh;obtain⟨kb,HK,k4,K3,mb⟩:=Qg hs kc M kk hu;obtain⟨N,hN⟩:=yB h.running
 rw[<-hN]at HR hi;have HN:=yw hN;clear hs kc hr hF kj kk hu M hN HR;have mc:(N == -1)=zt:=hi;clear hi;refine(callsIn_wide (n:=4)).1 ?_;refine callsIn_of_wp_marks func99 rfl trivial ?_ rfl;simp only[ntmps99,List.size_toArray,List.length_cons,List.length_nil,Nat.reduceAdd,Nat.reduceSub,Array.replicate_succ,Array.replicate_zero,List.push_toArray,List.append_toArray,List.nil_append,List.cons_append]
 gi_wp2_with fail
 obtain⟨w1,t⟩:=yB (w.alloc (zn #[zd zk ns] 33))
 have k0:Below w.heap.size w w1:=by rw[t];exact yE w _
 have hn:w1.heap[w.heap.size]?=zo (zn #[zd zk ns] 33 (0,0)):=by rw[t];exact heap_alloc_new w _
 rw[<-t];obtain⟨B,Hy⟩:=yB w.heap.size
 rw[<-Hy]at hn ⊢;obtain⟨m2,ki,ke,hz⟩:=Qf Hy k0 hn (ue w1 F p h ⟨⟨ps,Q,tg,kb.out.kept (.NZ k0)⟩,HK.out⟩);rw[<-HN.out]at hz;clear t k0 hn Hy;refine⟨trivial,(callsIn_wide.2 hz.out).mono ?_⟩;rintro z w2 ⟨rfl,H1⟩;have u:w2.heap[B]?=zo (zn #[zd zk ns] 33 (0,0)):=(H1.block B (yx ke.out).1).trans ke.out;have H2:=yw (yC ki.out H1 ki.out.size);have K2:=yw u;have P:=yP u;have h6:=(yx u).1;clear H1 u hz
 gi_wp2_with fail
 refine⟨trivial,(callsIn_wide.2 (Bj w2 p (.func (.func 112) #[] #[]) rfl)).mono ?_⟩;rintro z w3 ⟨A,C,rfl,hA,hC,kx,m4,H5⟩;have h9:=zP _ _ hA;have h8:=zP _ _ hC;have Hg:w3.heap[B]?=zo (zn #[zd zk ns] 33 (0,0)):=(H5.block B h6).trans K2.out;have H6:Hid (Below w.heap.size w w3):=yw (yC H2.out H5 H2.out.size);obtain⟨HA,HC,K0⟩:=Qe hA hC Hg;have km:Hid (w.heap.size<=B/\B<w3.heap.size):=yw ⟨by rw[m2.out];exact yA _,(yx Hg).1⟩;have S:Hid (w.heap.size<=A/\w.heap.size<=C):=yw (by have:=H2.out.size;exact⟨by omega,by omega⟩)
 clear hA hC kx m4 H5 h6 Hg P
 gi_wp2_with fail
 refine xq rfl (by simp) (gf:=170) (lb:=#[ze (zo ⟨A,0,zp⟩),ze (zo ⟨C,0,zp⟩)]) rfl trivial (enters_of func170 (by kernel_rfl) rfl) ?_;intro fn Y ma hb hl;obtain⟨l,T⟩:=yB w3.heap.size
 rw[<-T]at hl hb ⊢;have ko:=yw T;have ku:B<l:=by rw[T];exact km.out.2
 have k8:A<l:=by rw[T];exact h9
 have k2:C<l:=by rw[T];exact h8
 have K9:w.heap.size<=l:=by rw[T];exact H6.out.size
 have md:=km.out.1;clear T h9 h8;have m:Below w.heap.size w Y:=yC H6.out hb (by rw[ko.out];exact H6.out.size);have ho:Y.cell? ⟨A,0,zp⟩=zo (ze (zo ⟨p,0,zp⟩)):=(hb.cell (p:=⟨A,0,zp⟩) k8).trans HA.out;have hp:Y.cell? ⟨C,0,zp⟩=zo (.func (.func 112) #[] #[]):=(hb.cell (p:=⟨C,0,zp⟩) k2).trans HC.out;have H4:Y.heap[B]?=zo (zn #[zd zk ns] 33 (0,0)):=(hb.block B ku).trans K0.out;have K7:∀k,F k->k<w.heap.size:=HF.out;have kq:∀k,w.heap.size<=k->¬F k:=fun k hk e=>by have:=K7 k e;omega
 have kl:=hl.lt;have kw:∀W k,w.heap.size<=k->k<Y.heap.size->¬Ext F Y W k:=fun W k h1 r=>Ext.no (kq k h1) r;have U:=yw kw;refine(Jt 1 PC (Kv ns) .id (.OK ns) (fun _ h' W=>JCh F Y p h ps Q A C B l ns fn _ _ _ _ h' W) p A C (l+1) h.credit h.gran ps Q (UQ h) Z ?_ ?_ ?_ h Y ⟨HK.out,.refl h,⟨tg,(kb.out.kept (.NZ m)).mono fun k _ hk=>.inl hk⟩,.refl _ _,ho,hp,H4,hl⟩ k4.out.symm).mono ?_
 .rintro s h' W ⟨I,H,⟨b,D⟩,O,ha,hc,_,_⟩;refine⟨I,?_,fun g x d=>⟨?_,D.gxs d⟩,ha,hc⟩
  .have:=D.hx;rw[H.cr,H.gr]at this;exact this
  .rcases H.gs g with⟨_,r⟩|⟨x0,y,h1,r,h3,h4⟩
   .rw[d]at r;cases r
   .rw[d]at r;cases r;rw[h4];exact Et HK.out h1
 .rintro s h' W g x ⟨I,H,⟨b,D⟩,O,ha,hc,hb,J⟩ d;refine(Xi W _ _ x.q (D.RT d)).mono ?_;rintro z X ⟨rfl,rfl⟩;rw[qY (x:=x.OD (PC x.q)) d];exact⟨rfl,I,H,⟨b,D⟩,O,ha,hc,hb,J⟩
 .rintro s h' W g x k _ d hd X hj;have k7:=IP d hd K3.out;rw[qY (x:=x.OD (PC x.q)) d]at hj ⊢;obtain⟨I,H,⟨b,D⟩,O,ha,hc,H3,J⟩:=hj;have m9:=U.out X B (by omega) (by omega);have m3:=U.out X l (by omega) (by omega);have j:=U.out X (l+1) (by omega) kl;have m0:=U.out X A S.out.1 (by omega);have K8:=U.out X C S.out.2 (by omega);obtain⟨q,hq⟩:=yB (Q g)
  rw[<-hq];obtain⟨m6,hy,kg,k3,HQ,HX,hm,K5⟩:=Qj D O J H3 hq d I H;obtain⟨kp,kh,ka⟩:=Qe k7 ha hc;have m5:=(yx H3).1;clear D O H3 hq d I H hd ha hc hb m ho hp H4 hl;refine YieldAt.mono (vQ (a₁:=?a1) trivial J _ rfl (R:=fun a=>a.heap[B]?=zo (zn #[zd zk ns] 33 (0,0))/\(∃tg'',HS a (Ext F Y a) p (h'.set g (x.OD (x.q.OK ns))) ps Q tg'')/\OA (fun k=>Ext F Y X k∨k=l+1) X a) ?has ?hbo) ?hmo
  case has=>
   intro K hK
   gi_wp2
   exact hK
  case hbo=>
   generalize v:qr X l .busy _ _ _ _ _=W2;have H7:=kg.out.put .busy;rw[v]at H7;have H9:W2.heap.size=X.heap.size:=by rw[<-v];simp[qr]
   have RJ:OA (fun k=>k=l+1) X W2:=by rw[<-v];exact yZ _ _ _ _ _ _ _ _
   have L:W2.heap[B]?=zo (zn #[zd zk ns] 33 (0,0)):=by rw[RJ.block B m5 (by omega)];exact k3.out
   have ht:HS W2 (Ext F Y X) p h' ps Q b:=m6.out.kept (xz.PS RJ fun k E hk=>j (hk▸E));have H8:=(hm.out.q g x HX.out).1;obtain⟨e,he,kf⟩:∃e∈x.q.l,e.id=x.q.cur:=H8.cur.resolve_left (by have:=kp.out;omega);have h7:x.q.get x.q.cur=zo e:=by rw[<-kf];exact MN H8.ids he
   have hw:=yw (Ny ns e W2 _ (Q g) x.q (ht.RT HX.out) h7 kn m7);rw[<-HQ.out]at hw;obtain⟨K4,K6,kt,ky,kz⟩:=Qg H7 L RJ ht H9;have hg:W2.cell? ⟨B,0,zp⟩=zo (zd zk ns):=yP L;have K1:=(yx L).1;clear v H7 L RJ ht H9 H8 he kf h7 J kg
   gi_wp2_with fail
   refine⟨trivial,(CallsIn.inRound (l+1) (callsIn_wide.2 hw.out)).mono ?_⟩;rintro z W3 ⟨rfl,kd,V⟩;have c:=ky.out.dP (q':=x.q.OK ns) HX.out V (by rw[<-HQ.out];exact kd);have H0:=yw c;have o:=yw V;clear kd c V hg hw
   gi_wp2
   have k6:=K4.out.RB o.out (fun hk=>m3 hk.1) (fun hk=>j hk.1);have kv:W3.heap[B]?=zo (zn #[zd zk ns] 33 (0,0)):=(o.out.block B K1 fun hk=>m9 hk.1).trans K6.out;have H9:=kz.out;have m1:=hy.out.size;refine⟨k6,?_,⟨_,(H0.out.kept (w':=qr W3 l .ready _ _ _ _ _) ?_).mono ?_⟩,?_⟩
   .rw[yY _ _ _ _ _ _ _ _ (by omega)];exact kv
   .refine xz.PS (yZ _ _ _ _ _ _ _ _) fun k E hk=>?_;rcases E with E|E
    .exact j (hk▸E)
    .omega
   .intro k hk E;rcases E with(E|E)|E
    .exact .inl E
    .exact .inr ⟨E.1,hk⟩
    .exact .inr ⟨by omega,hk⟩
   .refine((kt.out.mono fun k hk=>.inr hk).trans o.out fun k hk=>.inl (.inl hk.1)).trans (yZ _ _ _ _ _ _ _ _) fun k hk=>.inl (.inr hk)
  case hmo=>
   rintro e a ⟨h1,r,h3,h4,h5⟩;have a1:=qg hm.out HX.out (TS (hm.out.q g x HX.out).1 ns) fun i=>Fq ns i;have m1:=hy.out.size;have f:∀k,k<X.heap.size->¬Ext F Y X k->k≠l+1->a.heap[k]?=X.heap[k]?:=fun k hk n1 n2=>h5.block k hk (by rintro(e|e);exact n1 e;exact n2 e);have k5:=zP _ _ kh.out;have k9:=zP _ _ ka.out;refine⟨h1,a1.ok,K5.out.trans a1.dQ,h4,hy.out.trans h5 fun k hk=>?_,?_,?_,h3,r⟩
   .rcases hk with(hk|hk)|hk
    .exact .inl (.inl hk)
    .exact .inr hk.1
    .exact .inl (.inr hk)
   .refine Eq.trans ?_ kh.out;simp[zN,f A k5 m0 (by omega)]
   .refine Eq.trans ?_ ka.out;simp[zN,f C k9 K8 (by omega)]
 .rintro e W2 ⟨hv,I,H,⟨b,D⟩,O,ha,hc,kr,J⟩;refine⟨hv,J,?_⟩;intro W3 hd V;have c:=D.kept (w':=W3) (xz.PS V fun k E hk=>by rw[hk]at E;exact U.out _ (l+1) (by omega) kl E);have H0:=yw c;have o:Hid (OA F w W3):=yw (((OA.NZ m:OA F w Y).trans O fun k hk=>by rcases hk with hk|hk;exact .inl hk;exact .inr (by omega)).trans V fun k hk=>.inr (by rw[hk];omega));have m8:Hid (w.heap.size<=Y.heap.size):=yw m.size;have HD:=yw hd;have k1:=yw I;clear hd c V D O ha hc kr J hv ho hp H4 hb m hl
  gi_wp2
  refine⟨by simp,.inl ⟨_,_,rfl,run_takeDeferred HD.out,?_⟩⟩;refine⟨_,results_tmp rfl _ _ _,rfl,⟨⟨ps,Q,b,(H0.out.kept (w':=W3.putObj l (.deferred zp)) ?_).mono ?_⟩,k1.out⟩,?_⟩
  .exact fun k hk E=>World.putObj_heap_other (fun e=>U.out _ l (by omega) (by omega) (e▸E))
  .intro k hk E;rcases E with E|⟨h1,r⟩
   .exact .inl E
   .exact .inr ⟨by have:=m8.out;omega,hk⟩
  .exact o.out.trans (G:=fun k=>k=l) ⟨rfl,rfl,rfl,by simp,fun k _ hk=>World.putObj_heap_other hk⟩ fun k hk=>.inr (by rw[hk];exact K9)
theorem Su(ns:Int)(w:zu)(F:Nat->Prop)(p:Nat)(h:Hm)(E:yT w F p h)(G:h.running≠ -1)(A:0<=ns)(B:ns<=1000000000):
 zw prog 99 #[ze (zo ⟨p,0,zp⟩),zd zk ns] w fun z w'=>z=zm (zd zj 0)/\qv w F p (h.OK ns) w':=
 (Ot ns w _ p h E.fO (fun k hk=>hk.2) G A B).mono fun z w' D=>⟨D.1,D.2.1.mono fun k _ hk=>hk.imp (fun a=>a.1) id,D.2.2.mono fun k hk=>hk.1⟩
end
def Dv(A:List Int)(fr n:Nat):List zz:=A.map (zd zj)++ [zd zj fr,zd zj n]
structure Lx(w:zu)(l:Nat)(rg:List Int)(fr n:Nat):Prop where
 RO:w.heap[l]?=zo (zn (Dv rg fr n).toArray 219 (0,0))
 len:rg.length=64
 fr:fr<64
 n:n<=64
theorem Lx.lt{l:Nat}{A:List Int}{fr n:Nat}(h:Lx w l A fr n):l<w.heap.size:=(yx h.RO).1
theorem Lx.OH{l:Nat}{A:List Int}{fr n:Nat}(h:Lx w l A fr n):∀j,w.frozen? ⟨l,j,zp⟩=zt:=by intro j;simp[zY,h.RO]
theorem Lx.c2{l:Nat}{A:List Int}{fr n:Nat}(h:Lx w l A fr n):w.cell? ⟨l,64,zp⟩=zo (zd zj fr)/\w.cell? ⟨l,65,zp⟩=zo (zd zj n):=by have B:=h.len;constructor<;>simp[zN,h.RO,Dv,B]
theorem Lx.rg{l:Nat}{B:List Int}{fr n:Nat}(h:Lx w l B fr n){i:Nat}{x:Int}(A:B[i]?=zo x):w.cell? ⟨l,i,zp⟩=zo (zd zj x):=by have D:=(yy A).1;simp only[zN,h.RO,Dv];simp only[List.getElem?_toArray];rw[List.getElem?_append_left (by simpa using D)];simp[A]
theorem Lx.of{w':zu}{l:Nat}{A:List Int}{fr n:Nat}(h:Lx w l A fr n)(hb:w'.heap[l]?=w.heap[l]?):Lx w' l A fr n:=⟨hb.trans h.RO,h.len,h.fr,h.n⟩
theorem Lx.AS{l:Nat}{A:List Int}{fr n:Nat}(h:Lx w l A fr n){i:Nat}(D:i<64)(x:Int):Lx (w.setCell ⟨l,i,zp⟩ (zd zj x)) l (A.set i x) fr n:=by refine⟨?_,by simp[h.len],h.fr,h.n⟩;rw[yD h.RO];have B:=h.len;simp[Dv,List.set_append_left,B,D]
theorem Lx.setF{l:Nat}{A:List Int}{fr n:Nat}(h:Lx w l A fr n)(f:Nat)(B:f<64):Lx (w.setCell ⟨l,64,zp⟩ (zd zj f)) l A f n:=by refine⟨?_,h.len,B,h.n⟩;rw[yD h.RO];have D:=h.len;simp[Dv,List.set_append_right,D]
theorem Lx.setN{l:Nat}{A:List Int}{fr n:Nat}(h:Lx w l A fr n)(m:Nat)(B:m<=64):Lx (w.setCell ⟨l,65,zp⟩ (zd zj m)) l A fr m:=by refine⟨?_,h.len,h.fr,B⟩;rw[yD h.RO];have D:=h.len;simp[Dv,List.set_append_right,D]
structure Lq(rg:List Int)(fr:Nat)(q:List Nat):Prop where
 at_:∀i,(h:i<q.length)->rg[(fr+i) %64]?=zo ((q[i]:Nat):Int)
def xa(w:zu)(l:Nat)(q:List Nat):Prop:=∃rg fr,Lx w l rg fr q.length/\Lq rg fr q
theorem xa.lt{l:Nat}{q:List Nat}(h:xa w l q):l<w.heap.size:=by obtain⟨rg,fr,h,_⟩:=h;exact h.lt
theorem xa.of{w':zu}{l:Nat}{q:List Nat}(h:xa w l q)(hb:w'.heap[l]?=w.heap[l]?):xa w' l q:=by obtain⟨A,fr,h,B⟩:=h;exact⟨A,fr,h.of hb,B⟩
def z66:Array zz:=(ye 66 (zd zj 0)).toArray
theorem IQ(w:zu):(zeroValue 219).run prog w=.ok (.agg z66) w:=by kernel_rfl
theorem EQ(w:zu):zw prog 73 #[] w fun z w'=>∃l,z=zm (ze (zo ⟨l,0,zp⟩))/\w.heap.size<=l/\xa w' l []/\Below w.heap.size w w':=by have hz:=IQ w;go_enter func73,ntmps73;go_wp2;go_ret;refine⟨_,rfl,yA _,⟨ye 64 0,0,⟨?_,by simp,by omega,by simp⟩,⟨fun i A=>by simp at A⟩⟩,(zU _ w).alloc (yA _) _⟩;rw[heap_alloc_new];rfl
theorem Gv(w:zu)(l:Nat)(q:List Nat)(h:xa w l q):zw prog 132 #[ze (zo ⟨l,0,zp⟩)] w fun z w'=>z=zm (zd zj q.length)/\w'=w:=by
 obtain⟨rg,fr,h,B⟩:=h;obtain⟨n,A⟩:=yB q.length
 rw[<-A]at h ⊢;obtain⟨c1,c2⟩:=h.c2;clear h B A;go_enter func132,ntmps132;go_wp2;go_ret;exact⟨rfl,rfl⟩
theorem Gw:(prog.info? 3).map (fun i=>(i.zero,i.size,i.bytes))=zo (zo (zd zj 0),1,8):=by kernel_rfl
theorem JJ(a b m:Nat)(ha:a<64)(hb:b<=64)(hm:m=(a+b) %64):IntKind.i64.wrap ((a:Int)+(b:Int))=(a:Int)+(b:Int)/\wrap64 ((a:Int)+(b:Int))=(a:Int)+(b:Int)/\Int.tmod ((a:Int)+(b:Int)) 64=(m:Int)/\((a:Int)+(b:Int)) %64=(m:Int):=by
 refine⟨?_,?_,?_,?_⟩
 .simp only[IntKind.wrap,yq,IntKind.bits];simp;omega
 .unfold wrap64;omega
 .rw[Int.tmod_eq_emod_of_nonneg (by omega)];omega
 .omega
def pv(l:List Nat):List zz:=l.map fun n:Nat=>zd zj (n:Int)
theorem IS(l:List Nat)(k:Nat)(h:k<l.length):pv (l.take (k+1))=pv (l.take k)++ [zd zj (l[k]:Nat)]:=by unfold pv;rw[List.take_succ_eq_append_getElem h,List.map_append];rfl
theorem Lw(w:zu)(l:Nat)(q:List Nat)(h:xa w l q):zw prog 167 #[ze (zo ⟨l,0,zp⟩)] w fun z w'=>∃v,z=zm v/\w'.ownsRow w.heap.size 3 1 v q.length (pv q)/\Below w.heap.size w w':=by
 have T:=yw (Gv w l q h);obtain⟨i0,hi,r,C,u⟩:=info_parts Gw;obtain⟨rg,fr,h,Q⟩:=h;have HL:=yw h;have S:=yw Q;obtain⟨n,L⟩:=yB q.length
 rw[<-L]at T h ⊢;have P:=yw L;have hl:=h.lt;have h1:=h.n;have F:=h.fr;clear h Q L;go_enter func167,ntmps167;go_wp2_with fail;refine T.out.mono ?_;rintro z w2 ⟨rfl,hw⟩;obtain rfl:=hw.symm;go_wp2_with fail;go_loopw [3,7] (fun v i wr=>∃(k:Nat) (O:Option Addr) (N:Nat),k<=n/\i=zd zj k/\v=zf O k N/\wr.ownsRow w.heap.size 3 1 (zf O k N) k (pv (q.take k))/\Below w.heap.size w wr) (fun _ i _=>n-(intOf i).toNat)
 case atStart=>exact⟨0,zp,0,by omega,rfl,rfl,by simpa[pv]using World.ownsRow_nil _ _ _ _,zU _ _⟩
 case round=>
  obtain⟨k,O,N,hk,rfl,rfl,H,hb⟩:=hrel;have a:=yw H;have c:=yw hb;clear H hb;have h2:=c.out.size;by_cases d:k<n
  .have G:=HL.out.of (w':=wr) (c.out.block l hl);have Y:k<q.length:=by rw[<-P.out];exact d
   have D:=G.rg (S.out.at_ k Y);obtain⟨m,b⟩:=yB ((fr+k) %64)
   obtain⟨x,g⟩:∃x:Nat,x=q[k]:=⟨_,rfl⟩
   rw[<-b,<-g]at D;have HX:=yw g;have HM:=yw b;have h0:m<64:=by omega
   obtain⟨W,c2⟩:=G.c2;have j:=G.lt;have h3:(0:Int)<=(m:Int):=by omega
   have h4:(m:Int) <64:=by omega
   obtain⟨R,I,X,J⟩:=JJ fr k m F (by omega) b;clear g b G;go_upto_region 5 with(fail)
   have V:wr.drew.ownsRow w.heap.size 3 1 (zf O k N) k (pv (q.take k)):=a.out;have y:=yw V;clear V;go_region_held3 (fun w'=>w'.cell? ⟨l,64,zp⟩=zo (zd zj fr)/\w'.cell? ⟨l,m,zp⟩=zo (zd zj x)) (go_keep)
    ((
     clear R I X J;refine step_append_lies _ (by rfl) _ _ _ (by rfl) w.heap.size 3 i0 _ 1 8 underlying43 hi r C u rfl (by omega) (zf O k N) k (pv (q.take k)) (by rfl) (y.out.alloc _)
      ⟨wr.heap.size,0,zp⟩ 1 1 [zd zj x] (by rfl) (by rfl) (World.news_of_block (cs:=#[zd zj x]) (t:=3) (fr:=(0,0)) (heap_alloc_new wr.drew _)) (by simp[Value.oneCell'])
      (by omega) (by unfold maxLen;omega) (by omega) (by first|omega|(simp;omega)) (wr.heap.size+1) (by first|rfl|simp) ?_
     intro g2 cap2 Z B A K o;have f:=yw B;have U:Below w.heap.size w Z:=by refine(yI (c.out.alloc (by omega) (zn #[zd zj x] 3))).grown A (by simp;omega) ?_;intro k hk;exact(a.out.lt k hk).1
     have p:=yw U;have M:Z.heap[l]?=(wr.drew.alloc (zn #[zd zj x] 3)).heap[l]?:=A.block l (by simp;omega) (fun e'=>by have:=a.out.lt l e'.symm;omega);have E:(wr.drew.alloc (zn #[zd zj x] 3)).heap[l]?=wr.heap[l]?:=zZ _ _ _ j;have s0:Z.cell? ⟨l,64,zp⟩=zo (zd zj fr):=by rw[<-W];simp[zN,M.trans E]
     have s1:Z.cell? ⟨l,m,zp⟩=zo (zd zj x):=by rw[<-D];simp[zN,M.trans E]
     clear B A K o U M E))
   go_wp2_with fail;go_roundw
   case rel=>
    refine⟨k+1,_,_,by omega,by go_num,rfl,?_,p.out⟩;rw[IS q k Y,<-HX.out];exact f.out
   case measure=>simp[intOf];omega
  .have s:k=n:=by omega
   subst s;go_wp2;go_ret;refine⟨_,rfl,?_,c.out⟩;have:=a.out;rw[List.take_of_length_le (by rw[<-P.out];exact yA _)]at this;exact this
theorem Xq(g k:Nat):(⟨g,0,zp⟩:Addr).add k=⟨g,k,zp⟩:=by unfold Addr.add;split<;>simp_all
theorem NC{l:List Nat}{x:Nat}(h:l[k]?=zo x):(pv l)[k]?=zo (zd zj x):=by simp[pv,h]
theorem US(q:List Nat)(p:Nat)(hp:p<=64)(v:zz)(base:Nat)(w:zu)(V:w.ownsRow base 3 1 v q.length (pv q))(j:q.length<=64):
 zw prog 213 #[v,zd zj p] w fun z w'=>(∃n:Int,z=zm (zd zj n)/\(p∈q->0<=n)/\(p∉q->n= -1))/\w'=w:=by
 obtain⟨a,c,X⟩:∃a c,v=zf a q.length c:=by
  rcases V.2 with⟨rfl,d⟩|⟨g,h5,cur,X,_⟩
  .exact⟨zp,0,by rw[d]⟩
  .exact⟨_,_,X⟩
 subst X;have f:=yw V;obtain⟨n,Y⟩:=yB q.length
 rw[<-Y]at j ⊢;have b:=yw Y;clear V Y;go_enter func213,ntmps213;go_wp2;go_loop [8] (fun i=>∃k:Nat,k<=n/\i=zd zj k/\p∉q.take k) (fun i=>n-(intOf i).toNat)
 case atStart=>exact⟨0,by omega,rfl,by simp⟩
 case round=>
  obtain⟨k,hk,rfl,G⟩:=hrel;have H:=yw G;clear G;by_cases N:k<n
  .have J:k<q.length:=by rw[<-b.out];exact N
   have B:=f.out;obtain⟨Z,ca,T⟩:=Xe B (by intro h;injection h with h1 h2;omega);injection T with e1 e2 e3
   subst e1;have M:q[k]?=zo q[k]:=zy J;obtain⟨x,E⟩:=yB (q[k])
   rw[<-E]at M;have A:=B.cells (g:=Z) rfl _ _ (NC M);have h3:w.cell? ⟨Z,k,zp⟩=zo (zd zj x):=by rw[<-A,Xq]
   have l:=yw M;have R:=yw E;clear B e2 e3 A M E;by_cases D:p=x
   .subst D;go_wp2;go_ret;exact⟨⟨_,rfl,fun _=>by omega,fun h=>absurd (zW l.out) h⟩,rfl⟩
   .have h4:((p:Int) == (x:Int))=zt:=beq_eq_false_iff_ne.2 (by omega);have O:=yw D;clear D;go_wp2;go_round
    case rel=>
     refine⟨k+1,by omega,by go_num,?_⟩;rw[List.take_succ_eq_append_getElem J,<-R.out];simp only[List.mem_append,List.mem_singleton];rintro(h|h)
     .exact H.out h
     .exact O.out h
    case measure=>simp[intOf];omega
  .have U:k=n:=by omega
   subst U;have I:Hid (p∉q):=yw (by have:=H.out;rwa[List.take_of_length_le (by rw[<-b.out];exact yA _)]at this);go_wp2;go_ret;exact⟨⟨_,rfl,fun h=>absurd h I.out,fun _=>rfl⟩,rfl⟩
theorem Bl(q:List Nat)(p:Nat)(J:p<=64)(v:zz)(base:Nat)(w:zu)(H:w.ownsRow base 3 1 v q.length (pv q))(M:q.length<=64):
 zw prog 166 #[v,zd zj p] w fun z w'=>z=zm (zh (decide (p∈q)))/\w'=w:=by
 have I:=yw (US q p J v base w H M);clear H;by_cases A:p∈q
 .have D:=yw A;rw[show decide (p∈q)=true by simp[A]];clear A;go_enter func166,ntmps166;go_wp2_with fail;refine I.out.mono ?_;rintro z N ⟨⟨n,rfl,B,_⟩,E⟩;obtain rfl:=E.symm;have G:=B D.out;clear B;go_wp2;go_ret;exact⟨by simp,rfl⟩
 .have D:=yw A;rw[show decide (p∈q)=zt by simp[A]];clear A;go_enter func166,ntmps166;go_wp2_with fail;refine I.out.mono ?_;rintro z N ⟨⟨n,rfl,_,B⟩,E⟩;obtain rfl:=E.symm;have G:=B D.out;subst G;clear B;go_wp2;go_ret;exact⟨rfl,rfl⟩
theorem Ka(w:zu)(l:Nat)(h:xa w l []):zw prog 81 #[ze (zo ⟨l,0,zp⟩)] w fun z w'=>z=zm (zi #[zd zj 0,zh zt])/\w'=w:=by have A:=yw (Gv w l [] h);clear h;go_enter func81,ntmps81;go_wp2_with fail;refine A.out.mono ?_;rintro z w2 ⟨rfl,B⟩;obtain rfl:=B.symm;go_wp2;go_ret2;exact⟨rfl,rfl⟩
theorem Dw(w:zu)(l p:Nat)(r:List Nat)(h:xa w l (p::r)):zw prog 81 #[ze (zo ⟨l,0,zp⟩)] w fun z w'=>z=zm (zi #[zd zj p,zh true])/\xa w' l r/\OA (fun k=>k=l) w w':=by
 have B:=yw (Gv w l _ h);rw[List.length_cons]at B;obtain⟨U,fr,h,I⟩:=h;have h0:=h.fr;have D:=h.n;have X:=yw h;have O:=yw I;have A:=h.rg (I.at_ 0 (by simp));rw[show(fr+0) %64=fr by omega]at A;simp only[List.getElem_cons_zero]at A;obtain⟨c1,J⟩:=h.c2;rw[List.length_cons]at J;have h4:=h.OH;obtain⟨m,N⟩:=yB ((fr+1) %64)
 have H:=yw N;obtain⟨n,G⟩:=yB r.length
 have V:=yw G;rw[<-G]at B J;rw[List.length_cons,<-G]at D;have h6:(fr:Int) <64:=by omega
 have h5:(0:Int)<=fr:=by omega
 clear h I G N;go_enter func81,ntmps81;go_wp2_with fail;refine B.out.mono ?_;rintro z w2 ⟨rfl,T⟩;obtain rfl:=T.symm;go_wp2_with fail;go_quiet (fail);go_wp2;go_ret2;have Y:((fr:Int)+1) %64=(m:Int):=by rw[H.out];omega
 rw[Y];have R:=X.out.setF m (by rw[H.out];omega);have E:=R.setN n (by omega);refine⟨rfl,⟨U,m,?_,?_⟩,?_⟩
 .rw[<-V.out];exact⟨E.RO,E.len,E.fr,E.n⟩
 .refine⟨fun i hi=>?_⟩;have M:=O.out.at_ (i+1) (by simp;omega);rw[List.getElem_cons_succ,show(fr+(i+1)) %64=(m+i) %64 by rw[H.out];omega]at M;exact M
 .exact(((OA.refl (fun k=>k=l) w).drewN nq).one).one
theorem Gy{q:List Nat}(h:p∈q∨q.length=64):xe q p=q:=by unfold xe;rw[if_pos h]
theorem Sv{q:List Nat}(h:¬(p∈q∨q.length=64)):xe q p=q++ [p]:=by unfold xe;rw[if_neg h]
theorem Iu(w:zu)(l p:Nat)(q:List Nat)(h:xa w l q)(A:q.length=64):zw prog 108 #[ze (zo ⟨l,0,zp⟩),zd zj p] w fun z w'=>z=zm (zh zt)/\xa w' l (xe q p)/\OA (fun k=>k=l) w w':=by
 rw[Gy (.inr A)];have E:=yw h;obtain⟨rg,fr,h,D⟩:=h;obtain⟨c1,B⟩:=h.c2;rw[A]at B;have h0:decide ((p:Int) <0)=zt:=by simp
 clear h D A;go_enter func108,ntmps108;go_wp2_with fail;go_ret;exact⟨rfl,E.out,OA.refl _ _⟩
theorem Sw(w:zu)(l p:Nat)(q:List Nat)(h:xa w l q)(R:q.length<64)(T:p<=64)(D:p∈q):zw prog 108 #[ze (zo ⟨l,0,zp⟩),zd zj p] w fun z w'=>z=zm (zh zt)/\xa w' l (xe q p)/\OA (fun k=>k=l) w w':=by
 rw[Gy (.inl D)];have V:=yw h;have B:=yw (Lw w l q h);obtain⟨rg,fr,h,M⟩:=h;obtain⟨c1,N⟩:=h.c2;have A:=yw h.n;obtain⟨n,I⟩:=yB q.length
 rw[<-I]at N R;have hz:((n:Int) == 64)=zt:=beq_eq_false_iff_ne.2 (by omega);have U:=h.lt;have h0:decide ((p:Int) <0)=zt:=by simp
 have J:=yw D;clear h M D I;go_enter func108,ntmps108;go_wp2_with fail;refine B.out.mono ?_;rintro z X ⟨v,rfl,H,hb⟩;have E:=yw hb;have G:=yw (Bl q p T v w.heap.size X H A.out);rw[show decide (p∈q)=true by simp[J.out]]at G;clear H hb;go_wp2_with fail;refine G.out.mono ?_;rintro z w3 ⟨rfl,O⟩;obtain rfl:=O.symm;go_wp2;go_ret;exact⟨rfl,V.out.of (E.out.block l U),OA.NZ E.out⟩
theorem Ou(w:zu)(l p:Nat)(q:List Nat)(h:xa w l q)(hf:q.length<64)(hp:p<=64)(M:p∉q):zw prog 108 #[ze (zo ⟨l,0,zp⟩),zd zj p] w fun z w'=>z=zm (zh true)/\xa w' l (xe q p)/\OA (fun k=>k=l) w w':=by
 rw[Sv (by rintro(h|h);exact M h;omega)];have d:=yw (Lw w l q h);obtain⟨o,fr,h,C⟩:=h;have r:=yw h;have S:=yw C;obtain⟨j,X⟩:=h.c2;have c:=h.fr;have H:=yw h.n;obtain⟨n,s⟩:=yB q.length
 have N:=yw s;rw[<-s]at X hf;have hz:((n:Int) == 64)=zt:=beq_eq_false_iff_ne.2 (by omega);have hl:=h.lt;have h1:decide ((p:Int) <0)=zt:=by simp
 have Q:=yw M;clear h C M s;go_enter func108,ntmps108;go_wp2_with fail;refine d.out.mono ?_;rintro z u ⟨v,rfl,L,hb⟩;have F:=yw hb;have K:=yw (Bl q p hp v w.heap.size u L H.out);rw[show decide (p∈q)=zt by simp[Q.out]]at K;clear L hb j X;go_wp2_with fail;refine K.out.mono ?_;rintro z w3 ⟨rfl,hw⟩;obtain rfl:=hw.symm;have B:=r.out.of (F.out.block l hl);have E:=yw B;obtain⟨j,X⟩:=B.c2;rw[<-N.out]at X;have g:=B.OH;obtain⟨m,M⟩:=yB ((fr+n) %64)
 have h2:(0:Int)<=(m:Int):=by omega
 have h3:(m:Int) <64:=by omega
 have A:m<64:=by omega
 have Y:=yw M;have G:∃x,o[m]?=zo x:=⟨_,zy (by rw[r.out.len];exact A)⟩
 obtain⟨x,G⟩:=G;have R:=B.rg G;obtain⟨O,I,U,J⟩:=JJ fr n m c (by omega) M;clear M B G;go_wp2_with fail;go_region
 all_goals
  clear O I U J;obtain⟨a,D⟩:=yB ((u.setCell ⟨l,m,zp⟩ (zd zj p)).drew)
  rw[<-D];have b:Lx a l (o.set m p) fr q.length:=by rw[D];exact⟨(E.out.AS A p).RO,(E.out.AS A p).len,(E.out.AS A p).fr,(E.out.AS A p).n⟩
  have y:OA (fun k=>k=l) w a:=by rw[D];exact((OA.NZ F.out:OA (fun k=>k=l) w u).one).drew
  have W:=yw b;have T4:=yw y;obtain⟨d1,P⟩:=b.c2;rw[<-N.out]at P;have h0:=b.OH;clear D b y j X R g;go_wp2;go_ret;have T:=W.out.setN (n+1) (by omega);refine⟨rfl,⟨o.set m p,fr,?_,⟨fun i hi=>?_⟩⟩,T4.out.one⟩
  .rw[zE,List.length_singleton,<-N.out];have e:((n+1:Nat):Int)=(n:Int)+1:=by omega
   rw[e]at T;exact⟨T.RO,T.len,T.fr,T.n⟩
  .rw[zE,List.length_singleton]at hi;have V:=r.out.len;by_cases Z:i<q.length
   .have f:m≠(fr+i) %64:=by rw[Y.out,N.out];have:=H.out;have:=N.out;omega
    rw[List.getElem?_set_ne f,List.getElem_append_left Z];exact S.out.at_ i Z
   .have t:i=q.length:=by omega
    subst t;have e:(fr+q.length) %64=m:=by rw[Y.out,N.out]
    rw[e,List.getElem?_set_self (by rw[V];exact A),List.getElem_append_right (yA _)];simp
theorem Sy(w:zu)(l p:Nat)(q:List Nat)(h:xa w l q)(B:p<=64):zw prog 108 #[ze (zo ⟨l,0,zp⟩),zd zj p] w fun z w'=>(∃b,z=zm (zh b))/\xa w' l (xe q p)/\OA (fun k=>k=l) w w':=by
 have hn:q.length<=64:=by obtain⟨rg,fr,G,_⟩:=h;exact G.n
 by_cases E:q.length=64
 .exact(Iu w l p q h E).mono fun z w' A=>⟨⟨_,A.1⟩,A.2⟩
 .by_cases D:p∈q
  .exact(Sw w l p q h (by omega) B D).mono fun z w' A=>⟨⟨_,A.1⟩,A.2⟩
  .exact(Ou w l p q h (by omega) B D).mono fun z w' A=>⟨⟨_,A.1⟩,A.2⟩
def xO(w:zu)(b:Nat)(c:Ck):Prop:=w.heap[b]?=zo (zn #[zd zk c.lat,zd zj c.task,zd zk c.ran,zd zk c.busy,zd zk c.idle] 149 (0,0))
theorem xO.lt{b:Nat}{c:Ck}(h:xO w b c):b<w.heap.size:=(yx h).1
theorem xO.of{w':zu}{b:Nat}{c:Ck}(h:xO w b c)(hb:w'.heap[b]?=w.heap[b]?):xO w' b c:=hb.trans h
theorem xO.OH{b:Nat}{c:Ck}(h:xO w b c):∀j,w.frozen? ⟨b,j,zp⟩=zt:=by intro j;unfold xO at h;simp[zY,h]
theorem xO.c5{b:Nat}{c:Ck}(h:xO w b c):w.cell? ⟨b,0,zp⟩=zo (zd zk c.lat)/\w.cell? ⟨b,1,zp⟩=zo (zd zj c.task)/\w.cell? ⟨b,2,zp⟩=zo (zd zk c.ran)/\w.cell? ⟨b,3,zp⟩=zo (zd zk c.busy)/\w.cell? ⟨b,4,zp⟩=zo (zd zk c.idle):=by unfold xO at h;refine⟨?_,?_,?_,?_,?_⟩<;>simp[zN,h]
theorem xO.OY{b:Nat}{c:Ck}(h:xO w b c)(v:Int):xO (w.setCell ⟨b,1,zp⟩ (zd zj v)) b { c with task:=v }:=yD h
theorem xO.AS{b:Nat}{c:Ck}(h:xO w b c)(v:Int):xO (w.setCell ⟨b,2,zp⟩ (zd zk v)) b { c with ran:=v }:=yD h
theorem xO.ON{b:Nat}{c:Ck}(h:xO w b c)(v:Int):xO (w.setCell ⟨b,3,zp⟩ (zd zk v)) b { c with busy:=v }:=yD h
theorem xO.setI{b:Nat}{c:Ck}(h:xO w b c)(v:Int):xO (w.setCell ⟨b,4,zp⟩ (zd zk v)) b { c with idle:=v }:=yD h
theorem ER(lat:Int)(w:zu)(h1:1<=lat)(h2:lat<=1000000000):zw prog 36 #[zd zk lat] w fun z w'=>∃b,z=zm (zi #[ze (zo ⟨b,0,zp⟩),zd zj 0])/\b=w.heap.size/\xO w' b ⟨lat,-1,0,0,0⟩/\Below w.heap.size w w':=by go_enter func36,ntmps36;go_wp2;go_ret2;exact⟨_,rfl,rfl,heap_alloc_new w _,yE w _⟩
theorem Uq(n:Int)(w:zu)(b:Nat)(c:Ck)(h:xO w b c)(hn: -1<=n)(h3:n<=1000000):zw prog 101 #[ze (zo ⟨b,0,zp⟩),zd zj n] w fun z w'=>(∃v,z=zm v)/\xO w' b (c.begin n)/\OA (fun k=>k=b) w w':=by
 have I:=yw h;obtain⟨c0,E,c2,c3,c4⟩:=h.c5;have hf:=h.OH;have h0:max n (-1)=n:=by omega
 by_cases A:c.task=n
 .have hb:c.begin n=c:=by unfold Ck.begin;rw[if_pos A]
  rw[hb];have B:(n != c.task)=zt:=by rw[A];simp
  rw[A]at E B;clear h hb A;go_enter func101,ntmps101;go_wp2;go_end0;exact⟨⟨_,rfl⟩,I.out,OA.refl _ _⟩
 .have hb:c.begin n={ c with task:=n,ran:=0 }:=by unfold Ck.begin;rw[if_neg A]
  rw[hb];have B:(n == c.task)=zt:=beq_eq_false_iff_ne.2 (Ne.symm A);have G:(n != c.task)=true:=by rw[bne_iff_ne];exact Ne.symm A
  have H:=yw ((h.OY n).AS 0);obtain⟨t,D⟩:=yB c.task
  rw[<-D]at E B G;clear h hb A D;go_enter func101,ntmps101;go_wp2;go_end0;exact⟨⟨_,rfl⟩,H.out,((OA.refl (fun k=>k=b) w).one).one⟩
theorem Gz(a b:Int)(w:zu)(B:0<=a/\a<=1000000000000000000)(A:0<=b/\b<=1000000000):zw prog 195 #[zd zk a,zd zk b] w fun z w'=>z=zm (zd zk (a+b))/\w'=w:=by
 obtain⟨B,h3⟩:=B;obtain⟨A,h0⟩:=A;have hd:decide (a+b<a)=zt:=by simp;omega
 go_enter func195,ntmps195;go_wp2;go_ret;exact⟨rfl,rfl⟩
theorem UT(lat A load:Int)(w:zu)(I:1<=lat/\lat<=1000000000)(B:0<=A/\A<=262144)(E:0<=load/\load<=4294967296):zw prog 148 #[zd zk lat,zd zk A,zd zk load] w fun z w'=>z=zm (zd zk (Js lat A load))/\Below w.heap.size w w':=by
 obtain⟨I,h4⟩:=I;obtain⟨B,h0⟩:=B;obtain⟨E,h5⟩:=E;by_cases J:load<=A
 .have hs:Js lat A load=lat:=by unfold Js;rw[if_pos J]
  rw[hs];clear hs;go_enter func148,ntmps148;go_wp2;go_ret;exact⟨rfl,zU _ _⟩
 .have G:=yw (Vu lat A load w ⟨by omega,by omega⟩ ⟨B,by omega⟩ ⟨by omega,by omega⟩ (Wn ⟨by omega,by omega⟩ ⟨B,by omega⟩));have hs:Js lat A load=max (lat*A/load) 1:=by unfold Js;rw[if_neg J];split<;>omega
  have D:0<=lat*A/load:=Int.ediv_nonneg (Int.mul_nonneg (by omega) B) E;rw[hs];obtain⟨q,H⟩:=yB (lat*A/load)
  rw[<-H]at G D ⊢;clear hs H;go_enter func148,ntmps148;go_wp2_with fail;refine G.out.mono ?_;rintro z w2 ⟨rfl,hb⟩;have M:=yw hb;clear hb;go_wp2;go_ret;exact⟨rfl,M.out⟩
structure Ck.Small(c:Ck):Prop where
 lat:1<=c.lat/\c.lat<=1000000000
 task: -1<=c.task/\c.task<=1000000
 ran:0<=c.ran/\c.ran<=1000000000000000
 busy:0<=c.busy/\c.busy<=1000000000000000
 idle:0<=c.idle/\c.idle<=1000000000000000
theorem UU(ns:Int)(w:zu)(b:Nat)(c:Ck)(h:xO w b c)(B:c.Small)(G:0<=ns)(D:ns<=1000000000):zw prog 147 #[ze (zo ⟨b,0,zp⟩),zd zk ns] w fun z w'=>(∃v,z=zm v)/\xO w' b (c.rest ns)/\OA (fun k=>k=b) w w':=by have A:=yw (fun W=>Gz c.idle ns W ⟨B.idle.1,by have:=B.idle.2;omega⟩ ⟨G,D⟩);have E:=yw (h.setI (c.idle+ns));obtain⟨c0,c1,c2,c3,c4⟩:=h.c5;have hf:=h.OH;clear h B;go_enter func147,ntmps147;go_wp2_with fail;refine(A.out w).mono ?_;rintro z w2 ⟨rfl,H⟩;obtain rfl:=H.symm;go_wp2;go_end0;exact⟨⟨_,rfl⟩,E.out,(OA.refl (fun k=>k=b) w).one⟩
theorem KG(ns:Int)(w:zu)(b:Nat)(c:Ck)(h:xO w b c)(G:c.Small)(T:0<=ns)(M:ns<=1000000000):zw prog 146 #[ze (zo ⟨b,0,zp⟩),zd zk ns] w fun z w'=>(∃v,z=zm v)/\xO w' b (c.serve ns)/\OA (fun k=>k=b) w w':=by
 have E:=yw (fun W=>Gz c.ran ns W ⟨G.ran.1,by have:=G.ran.2;omega⟩ ⟨T,M⟩);have A:=yw (fun W=>Gz c.busy ns W ⟨G.busy.1,by have:=G.busy.2;omega⟩ ⟨T,M⟩);have O:=yw h;obtain⟨c0,c1,U,V,c4⟩:=h.c5;have hf:=h.OH;clear h G;obtain⟨N,B⟩:=yB c.ran
 obtain⟨R,D⟩:=yB c.busy
 rw[<-B]at E U;rw[<-D]at A V;have H:=yw B;have J:=yw D;clear B D;go_enter func146,ntmps146;go_region_with (first
  | (with_reducible refine(E.out _).mono ?_;rintro z w' ⟨rfl,I⟩;obtain rfl:=I.symm)
  | (with_reducible refine(A.out _).mono ?_;rintro z w' ⟨rfl,I⟩;obtain rfl:=I.symm))
 all_goals
  rw[H.out,J.out];go_end0;refine⟨⟨_,rfl⟩,?_,?_⟩
  .first
    | exact(O.out.AS (c.ran+ns)).ON (c.busy+ns)
    | exact(O.out.ON (c.busy+ns)).AS (c.ran+ns)
  .exact(((OA.refl (fun k=>k=b) w).one).one).drew
def Ck.tick(c:Ck)(ns:Int):Ck:=if c.task= -1 then c.rest ns else c.serve ns
def Ck.due(c:Ck)(A load:Int):Bool:=decide (c.task≠ -1/\Js c.lat A load<=c.ran)
theorem Ha(ns E load:Int)(w:zu)(b:Nat)(c:Ck)(h:xO w b c)(M:c.Small)(X:0<=ns)(R:ns<=1000000000)(A:c.task= -1):
 zw prog 96 #[ze (zo ⟨b,0,zp⟩),zd zk ns,zd zk E,zd zk load] w fun z w'=>z=zm (zi #[zh ((c.tick ns).due E load),zd zj 0])/\xO w' b (c.tick ns)/\OA (fun k=>k=b) w w':=by
 have J:c.tick ns=c.rest ns:=if_pos A;have H:(c.rest ns).due E load=zt:=by unfold Ck.due Ck.rest;simp[A]
 rw[J,H];have B:=yw (UU ns w b c h M X R);obtain⟨g,I,Y,a,f⟩:=h.c5;rw[A]at I;have j:=yw (show(c.rest ns).task= -1 from A);have hd:decide (1000000000<ns)=zt:=by simp;omega
 clear h M J H A;go_enter func96,ntmps96;go_wp2_with fail;refine B.out.mono ?_;rintro z w2 ⟨⟨v,rfl⟩,D,G⟩;have T:=yw D;have U:=yw G;obtain⟨Z,V,N,O,d⟩:=D.c5;rw[j.out]at V;clear D G g I Y a f Z N O d B;go_wp2_with fail;go_quiet (fail);go_wp2;go_ret2;exact⟨rfl,T.out,U.out.drewN nq⟩
theorem Hb(ns J load:Int)(w:zu)(b:Nat)(c:Ck)(h:xO w b c)(o:c.Small)(K:0<=ns)(y:ns<=1000000000)(N:c.task≠ -1)(P:0<=J/\J<=262144)(m:0<=load/\load<=4294967296):
 zw prog 96 #[ze (zo ⟨b,0,zp⟩),zd zk ns,zd zk J,zd zk load] w fun z w'=>z=zm (zi #[zh ((c.tick ns).due J load),zd zj 0])/\xO w' b (c.tick ns)/\OA (fun k=>k=b) w w':=by
 have u:c.tick ns=c.serve ns:=if_neg N;have s:(c.serve ns).due J load=decide (Js c.lat J load<=c.ran+ns):=by unfold Ck.due Ck.serve;simp[N]
 rw[u,s];have O:=yw (KG ns w b c h o K y);obtain⟨W,t,L,Q,S⟩:=h.c5;have hd:decide (1000000000<ns)=zt:=by simp;omega
 have A:=yw o.lat;have n:(c.task == -1)=zt:=beq_eq_false_iff_ne.2 N;have g:(c.task != -1)=true:=by rw[bne_iff_ne];exact N
 obtain⟨p,E,H⟩:=Qe (show(c.serve ns).task=c.task from rfl) (show(c.serve ns).ran=c.ran+ns from rfl) (show(c.serve ns).lat=c.lat from rfl);obtain⟨f,M⟩:=yB c.task
 rw[<-M]at t n g p;obtain⟨U,D⟩:=yB c.lat
 obtain⟨Z,B⟩:=yB (c.ran+ns)
 rw[<-D,<-B];rw[<-D]at A H;rw[<-B]at E;clear h o u s N M D B;go_enter func96,ntmps96;go_wp2_with fail;refine O.out.mono ?_;rintro z x ⟨⟨v,rfl⟩,X,r⟩;obtain⟨a,C,F⟩:=Qe (UT U J load x.drew A.out P m) X r;obtain⟨V,T,R,Y,j⟩:=X.c5;rw[p.out]at T;rw[E.out]at R;rw[H.out]at V;have G:=X.lt;clear X r W t L Q S Y j O;go_wp2_with fail;go_region_held3 (fun w'=>w'.cell? ⟨b,0,zp⟩=zo (zd zk U)/\w'.cell? ⟨b,1,zp⟩=zo (zd zj f)/\w'.cell? ⟨b,2,zp⟩=zo (zd zk Z)) (go_keep)
  ((
   go_at_call 148;refine a.out.mono ?_;rintro z q ⟨rfl,I⟩;have d:=yw (C.out.of (w':=q) (I.block b G));have l:=yw I;clear I V T R G;obtain⟨V,T,R,Y,j⟩:=d.out.c5;rw[p.out]at T;rw[E.out]at R;rw[H.out]at V;have G:=d.out.lt;clear Y j))
 all_goals
  go_wp2;go_ret2;exact⟨rfl,d.out,F.out.trans (OA.NZ l.out:OA (fun k=>k=b) x.drew q).TT fun k hk=>.inl hk⟩
theorem Ly(ns A load:Int)(w:zu)(b:Nat)(c:Ck)(h:xO w b c)(H:c.Small)(E:0<=ns)(D:ns<=1000000000)(I:0<=A/\A<=262144)(B:0<=load/\load<=4294967296):
 zw prog 96 #[ze (zo ⟨b,0,zp⟩),zd zk ns,zd zk A,zd zk load] w fun z w'=>z=zm (zi #[zh ((c.tick ns).due A load),zd zj 0])/\xO w' b (c.tick ns)/\OA (fun k=>k=b) w w':=by
 by_cases G:c.task= -1
 .exact Ha ns A load w b c h H E D G
 .exact Hb ns A load w b c h H E D G I B
theorem Tu:∀(l:List Int) (k:Nat) (x o:Int),l[k]?=zo o->(l.set k x).sum=l.sum-o+x
 | [],k,x,o,h=>by simp at h
 | a::l,0,x,o,h=>by simp at h;subst h;simp[List.sum_cons];omega
 | a::l,k+1,x,o,h=>by have ih:=Tu l k x o (by simpa using h);simp[List.sum_cons,ih];omega
def cZ(l:List Int):Int:=(l.map (fun x=>max x 0)).sum
theorem Oy(l:List Int)(k:Nat)(x o:Int)(h:l[k]?=zo o):cZ (l.set k x)=cZ l-max o 0+max x 0:=by unfold cZ;rw[List.map_set,Tu (l.map (fun x=>max x 0)) k (max x 0) (max o 0) (by rw[List.getElem?_map,h];rfl)]
theorem Uu:∀l:List Int,0<=cZ l
 | []=>by simp[cZ]
 | a::l=>by have:=Uu l;simp[cZ,List.sum_cons]at this ⊢;omega
theorem JL:∀(l:List Int) (k:Nat) (o:Int),l[k]?=zo o->o<=cZ l
 | [],k,o,h=>by simp at h
 | a::l,0,o,h=>by simp at h;subst h;have:=Uu l;simp[cZ,List.sum_cons]at this ⊢;omega
 | a::l,k+1,o,h=>by have ih:=JL l k o (by simpa using h);simp[cZ,List.sum_cons]at ih ⊢;omega
theorem LA(l:List Int):cZ (l.map (fun x=>min x 0))=0:=by
 induction l with
 | nil=>rfl
 | cons a l ih=>simp[cZ,List.sum_cons]at ih ⊢;omega
theorem Tv(n:Nat):cZ (ye n 0)=0:=by
 induction n with
 | zero=>rfl
 | succ n ih=>simp[cZ,List.replicate_succ,List.sum_cons]at ih ⊢
theorem Hh{l:List Int}{x y:Int}(h:y∈l.set k x):y=x∨y∈l:=by
 rcases List.mem_or_eq_of_mem_set h with h|h
 .exact .inr h
 .exact .inl h
structure vB(k:Nat)(b:TL):Prop where
 q:0<=b.q/\b.q<=1099511627776
 s:0<=b.s/\b.s<=1099511627776
 s1:b.q≠0->1<=b.s
 pool:0<=b.pool
 has:b.pool+cZ b.l<=b.q
 spent:0<=b.spent/\b.spent<=1000000000*(k:Int)
 l:∀x∈b.l,-(1000000000*(k:Int))<=x
theorem vB.small{b:TL}(h:vB k b)(hk:k<=1000):b.Small:=by obtain⟨q1,q2⟩:=h.q;obtain⟨t1,t2⟩:=h.spent;have hn:=Uu b.l;have hp:=h.pool;have hh:=h.has;refine⟨h.q,h.s,by omega,by omega,fun x A=>?_⟩;obtain⟨i,B⟩:=List.getElem?_of_mem A;have:=JL b.l i x B;have:=h.l x A;omega
theorem vB.more{b:TL}(h:vB k b):vB (k+1) b:=
 ⟨h.q,h.s,h.s1,h.pool,h.has,by have:=h.spent;omega,fun x A=>by have:=h.l x A;omega⟩
theorem vB.new(k n:Nat):vB k ⟨0,0,0,0,ye n 0⟩:=
 ⟨by simp,by simp,by simp,by simp,by rw[Tv];simp,by simp;omega,fun x A=>by rw[List.eq_of_mem_replicate A];omega⟩
theorem vB.SQ{b:TL}(h:vB k b)(D:b.l[p]?=zo o):vB k (b.SQ p o):=by
 have ho:=h.l o (zW D);have A:=h.s1;have h1:=h.pool;have hh:=h.has;unfold Qt.Bd.SQ;split
 .exact h
 .rename_i E;have hs:=A E;split
  .exact h
  .rename_i h0;unfold Qt.Bd.taken Qt.Bd.take;have hb:=Oy b.l p (o+min b.pool (b.s-o)) o D;refine⟨h.q,h.s,h.s1,?_,?_,h.spent,?_⟩
   .show 0<=b.pool-min b.pool (b.s-o);omega
   .show b.pool-min b.pool (b.s-o)+cZ (b.l.set p (o+min b.pool (b.s-o)))<=b.q;rw[hb];omega
   .intro x B;rcases Hh B with rfl|B
    .omega
    .exact h.l x B
theorem vB.back{b:TL}(h:vB k b)(B:b.l[p]?=zo o):vB k (b.back p o):=by
 have ho:=h.l o (zW B);have h0:=h.pool;have hh:=h.has;have hb:=Oy b.l p (o-max o 0) o B;unfold Qt.Bd.back;refine⟨h.q,h.s,h.s1,?_,?_,h.spent,?_⟩
 .show 0<=b.pool+max o 0;omega
 .show b.pool+max o 0+cZ (b.l.set p (o-max o 0))<=b.q;rw[hb];omega
 .intro x A;rcases Hh A with rfl|A
  .omega
  .exact h.l x A
theorem vB.OW{b:TL}(h:vB k b){ns:Int}(B:b.l[p]?=zo o)(h0:0<=ns)(h1:ns<=1000000000):vB (k+1) (b.OW p o ns):=by
 have ho:=h.l o (zW B);have hh:=h.has;obtain⟨t1,t2⟩:=h.spent;have hb:=Oy b.l p (o-ns) o B;unfold Qt.Bd.OW;split
 .exact⟨h.q,h.s,h.s1,h.pool,h.has,by show 0<=b.spent+ns/\b.spent+ns<=_;omega,h.more.l⟩
 .refine⟨h.q,h.s,h.s1,h.pool,?_,?_,?_⟩
  .show b.pool+cZ (b.l.set p (o-ns))<=b.q;rw[hb];omega
  .show 0<=b.spent+ns/\b.spent+ns<=_;omega
  .intro x A;rcases Hh A with rfl|A
   .omega
   .have:=h.l x A;omega
theorem vB.SR{b:TL}(q s:Int)(h:¬Qt.RM q s):vB k (b.SR q s):=by
 unfold Qt.RM at h;unfold Qt.Bd.SR;refine⟨by show 0<=q/\q<=_;omega,?_,?_,by show 0<=q;omega,?_,by show(0:Int)<=0/\(0:Int)<=_;omega,fun x B=>?_⟩
 .show 0<=(if q=0 then 0 else s)/\(if q=0 then 0 else s)<=1099511627776;split<;>omega
 .show q≠0->1<=(if q=0 then 0 else s)
  intro A;rw[if_neg A];omega
 .show q+cZ (ye b.l.length 0)<=q;rw[Tv];omega
 .rw[List.eq_of_mem_replicate B];omega
theorem vB.PM{b:TL}(h:vB k b):vB k b.PM:=by
 unfold Qt.Bd.PM;refine⟨h.q,h.s,h.s1,h.q.1,?_,by show(0:Int)<=0/\(0:Int)<=_;omega,fun x B=>?_⟩
 .show b.q+cZ (b.l.map fun x=>min x 0)<=b.q;rw[LA];omega
 .obtain⟨y,A,rfl⟩:=List.mem_map.1 B;have:=h.l y A;omega
theorem Wt(b:TL)(p:Nat)(o:Int):(b.SQ p o).l.length=b.l.length:=by
 unfold Qt.Bd.SQ Qt.Bd.taken;split
 .rfl
 .split
  .rfl
  .simp
theorem FE(b:TL)(p:Nat)(o:Int):(b.back p o).l.length=b.l.length:=by unfold Qt.Bd.back;simp
theorem Ct(b:TL)(p:Nat)(o ns:Int):(b.OW p o ns).l.length=b.l.length:=by
 unfold Qt.Bd.OW;split
 .rfl
 .simp
theorem Mb(b:TL)(q s:Int):(b.SR q s).l.length=b.l.length:=by unfold Qt.Bd.SR;simp
theorem KU(b:TL):b.PM.l.length=b.l.length:=by unfold Qt.Bd.PM;simp
theorem uB{b:TL}(h:p<b.l.length):b.l[p]?=zo (xA b p):=by unfold xA;rw[List.getD_eq_getElem?_getD,zy h];rfl
theorem LB{b:TL}(h:vB k b)(hp:b.l[p]?=zo o)(A:b.may o=zt):(b.SQ p o).pool=0:=by
 have D:=h.s1;unfold Qt.Bd.may at A;unfold Qt.Bd.SQ;by_cases B:b.q=0
 .rw[if_pos B]at A;cases A
 .rw[if_neg B]at A ⊢;have hs:=D B;by_cases E:0<o
  .rw[if_pos E]at A;cases A
  .rw[if_neg E]at A ⊢;unfold Qt.Bd.take at A;unfold Qt.Bd.taken Qt.Bd.take;show b.pool-min b.pool (b.s-o)=0;have:=of_decide_eq_false A;omega
structure Xj(k:Nat)(c:Ck):Prop where
 lat:1<=c.lat/\c.lat<=1000000000
 task: -1<=c.task/\c.task<=1000000
 ran:0<=c.ran/\c.ran<=1000000000*(k:Int)
 busy:0<=c.busy/\c.busy<=1000000000*(k:Int)
 idle:0<=c.idle/\c.idle<=1000000000*(k:Int)
theorem Xj.small{c:Ck}(h:Xj k c)(hk:k<=1000):c.Small:=by obtain⟨r1,r2⟩:=h.ran;obtain⟨b1,b2⟩:=h.busy;obtain⟨i1,i2⟩:=h.idle;exact⟨h.lat,h.task,by omega,by omega,by omega⟩
theorem Xj.more{c:Ck}(h:Xj k c):Xj (k+1) c:=by obtain⟨r1,r2⟩:=h.ran;obtain⟨b1,b2⟩:=h.busy;obtain⟨i1,i2⟩:=h.idle;exact⟨h.lat,h.task,by omega,by omega,by omega⟩
theorem Xj.begin{c:Ck}(h:Xj k c){n:Int}(B: -1<=n)(A:n<=1000000):Xj k (c.begin n):=by
 unfold Ck.begin;split
 .exact h
 .exact⟨h.lat,⟨B,A⟩,⟨Int.le_refl _,by show(0:Int)<=_;omega⟩,h.busy,h.idle⟩
theorem Xj.rest{c:Ck}(h:Xj k c){ns:Int}(h1:0<=ns)(h2:ns<=1000000000):Xj (k+1) (c.rest ns):=by obtain⟨i1,i2⟩:=h.idle;exact⟨h.lat,h.task,h.more.ran,h.more.busy,by show 0<=c.idle+ns/\c.idle+ns<=_;omega⟩
theorem Xj.serve{c:Ck}(h:Xj k c){ns:Int}(h1:0<=ns)(h2:ns<=1000000000):Xj (k+1) (c.serve ns):=by obtain⟨r1,r2⟩:=h.ran;obtain⟨b1,b2⟩:=h.busy;exact⟨h.lat,h.task,by show 0<=c.ran+ns/\c.ran+ns<=_;omega,by show 0<=c.busy+ns/\c.busy+ns<=_;omega,h.more.idle⟩
theorem Dy(c:Ck)(n:Int):(c.begin n).lat=c.lat:=by unfold Ck.begin;split<;>rfl
