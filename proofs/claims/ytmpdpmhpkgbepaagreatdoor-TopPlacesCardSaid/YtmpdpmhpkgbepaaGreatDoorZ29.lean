/- Parts for TopPlaces. Conditions: as stated. -/
import Derived.Test.YtmpdpmhpkgbepaaGreatDoorZ06
import Derived.Test.YtmpdpmhpkgbepaaGreatDoorZ28
set_option linter.unusedVariables false
set_option maxRecDepth 100000
set_option maxHeartbeats 4000000
open Go.Value renaming int->zd,pointer->ze,slice->zf,bool->zh,ownBlock->zX
open Go.IntKind renaming i64->zj,u64->zk,signed->yq
open Go.Ending renaming returned->zm
open Go.Obj renaming cells->zn
open Option renaming some->zo,none->zp
open Bool renaming true->zq,false->zt
open Go renaming World->zu,Calls->zw,Value->zz
open List renaming getElem?_eq_getElem->zy,getElem?_set_ne->zC,getElem?_map->zG,getD_eq_getElem?_getD->zH,getElem?_set_self->zT,mem_of_getElem?->zW,mem_map->yh,range->yi
open Int renaming toNat_natCast->zI
open Go.World renaming cell?->zN,frozen?->zY,ownsRow_nil->ym
open Go.RowKit.Below renaming heap_setCell->zR,refl->zU,heap_alloc->zZ
open Option.some renaming injEq->ya
open Go.Obj.cells renaming injEq->yo
open Go.Proofs.Tryz
namespace Go.Proofs.YtmpdpmhpkgbepaaGreatDoor
open Go Go.RowKit Go.ChangeShapes Go.WideShapes
variable {w w':zu}{n k b m1 m2 m s p c d:Nat}{v:zz}{g:Gp}{F G G':Nat->Prop}{a:Option Addr}{vs:List zz}{S:Sc}{l:List Gp}{f tg:Nat->Nat}
attribute [local go_sem ↓] Go.wp_at_zero Go.wp_at_succ
section
open Go.Shelf
attribute [local go_sem] Oper.semAt_some
theorem IW(l zs:List Int)(g n c:Nat)(RY:Int)(w:zu)(J:n=zs.length)(D:1<=n)(A:n<=12)(H:IR w g zs)(M:Ur l zs):
 zw prog 254 #[zf (zo ⟨g,0,zp⟩) n c,zd zj 0,zd zj n,zd zj RY] w fun z w'=>(∃v,z=zm v)/\∃B,IR w' g B/\Ur l B/\OA (fun k=>k=g) w w':=by
 have U:=yw (Iv l zs g n c w J D A H M);clear H M J;go_enter func254,ntmps254;go_wp2_with fail;go_loopw [1,2] (fun a b wr=>a=zd zj 0/\b=zd zj n/\wr=w) (fun _ _ _=>0)
 case atStart=>exact⟨rfl,rfl,rfl⟩
 case round=>
  obtain⟨rfl,rfl,O⟩:=hrel;subst O;go_wp2_with fail;refine U.out.mono ?_;rintro z w2 ⟨⟨v,rfl⟩,B,G,E,I⟩;obtain⟨R,T,N⟩:=Qe G E I;clear G E I;go_wp2;refine bodyPost_ret (results_none rfl _ _ _) rfl ?_;exact⟨⟨_,rfl⟩,B,R.out,T.out,N.out⟩
theorem EV(l zs:List Int)(g n c:Nat)(w:zu)(J:n=zs.length)(D:1<=n)(A:n<=12)(H:IR w g zs)(M:Ur l zs):
 zw prog 232 #[zf (zo ⟨g,0,zp⟩) n c] w fun z w'=>(∃v,z=zm v)/\∃B,IR w' g B/\Ur l B/\OA (fun k=>k=g) w w':=by
 have X:=yw (fun RY=>IW l zs g n c RY w J D A H M);have T:=yw (EU (n:Int) w (by omega) (by omega));have h0:IntKind.u64.wrap (n:Int)=(n:Int):=by simp only[IntKind.wrap,yq,IntKind.bits];simp;omega
 clear H M J;go_enter func232,ntmps232;go_wp2_with fail;refine T.out.mono ?_;rintro z V ⟨⟨k,rfl⟩,O⟩;obtain rfl:=O.symm;go_wp2_with fail;refine(X.out k).mono ?_;rintro z V ⟨⟨v,rfl⟩,B,G,E,I⟩;obtain⟨R,U,N⟩:=Qe G E I;clear G E I;go_wp2;go_end0;exact⟨⟨_,rfl⟩,B,R.out,U.out,N.out⟩
theorem KL(w:zu)(v:zz)(h1:v.oneCell'=zq):
 zw prog 198 #[v] w fun z w'=>∃A,z=zm (.func (.func 233) #[] #[ze (zo ⟨A,0,zp⟩)])/\w'.cell? ⟨A,0,zp⟩=zo v/\w.heap.size<=A/\Below w.heap.size w w':=by
 go_enter func198,ntmps198;go_wp2;go_ret;exact⟨_,rfl,yP (heap_alloc_new w _),yA _,yE w _⟩
theorem Tm(m:Nat)(J:Nat->zu->Prop)(l:List Int)(a:Option Addr)(c A L:Nat)(o:l.length<=64)
 (X:∀k W,J k W->W.cell? ⟨A,0,zp⟩=zo (zf a l.length c)/\xE W a (jv l))
 (b:∀k x W,J k W->l[k]?=zo x->YieldAt Fence.wide (m+1) prog L #[zd zj x] W fun e Z=>e=zm (zh zq)/\J (k+1) Z)
 (O:zu) (E:J 0 O):
 CallsIn Fence.wide (m+2) prog 233 #[.func (.yield L) #[] #[],ze (zo ⟨A,0,zp⟩)] O fun e Z=>(∃v,e=zm v)/\J l.length Z:=by
 obtain⟨g,_⟩:=X 0 O E;obtain⟨n,M⟩:=yB l.length
 rw[<-M]at g o;have j:=yw M;have U:=yw E;refine callsIn_of_wp func233 rfl trivial ?_ rfl;simp only[ntmps233,List.size_toArray,List.length_cons,List.length_nil,Nat.reduceAdd,Nat.reduceSub,Array.replicate_succ,Array.replicate_zero,List.push_toArray,List.append_toArray,List.nil_append,List.cons_append];rw[<-M];have f:=yw X;have h:=yw b;clear M X b
 gi_wp2
 gi_loopw [7] (fun i wr=>∃k:Nat,k<=n/\i=zd zj k/\J k wr) (fun i _=>n-(intOf i).toNat)
 case atStart=>exact⟨0,by omega,rfl,U.out⟩
 case round=>
  obtain⟨k,hk,rfl,I⟩:=hrel;have D:=yw I;by_cases N:k<n
  .obtain⟨_,d⟩:=f.out k wr I;have B:k<l.length:=by rw[<-j.out];exact N
   obtain⟨x,Y⟩:∃x,l[k]?=zo x:=⟨_,zy B⟩
   obtain⟨r,rfl,h0,h1⟩:=d k _ (ES Y);obtain⟨fn,tmps,assign,body,R,H⟩:=h.out k x wr D.out Y;clear d Y I B
   gi_wp2
   refine H.mono ?_;rintro e W3 ⟨rfl,G⟩;have T:=yw G;clear R H G
   gi_wp2
   go_roundw
   case rel=>exact⟨k+1,by omega,by go_num,T.out⟩
   case measure=>simp[intOf];omega
  .have V:k=n:=by omega
   subst V;clear I
   gi_wp2
   go_end0;exact⟨⟨_,rfl⟩,D.out⟩
theorem IX(l:List Int)(k:Nat)(x:Int)(h:l[k]?=zo x):jv (l.take (k+1))=jv (l.take k)++ [zd zj x]:=by obtain⟨hk,A⟩:=yy h;rw[List.take_succ_eq_append_getElem hk,A];simp[jv]
theorem yS{base:Nat}{e t:TypeId}{A:Nat}{E:List zz}{cs:Array zz}{z:Nat×Nat}(h:w.ownsRow base e A v n E)(hk:w.heap[k]?=zo (zn cs t z))(G:t≠e):v.ownBlock≠zo k:=by
 rcases h.2 with⟨rfl,_⟩|⟨g,h0,cur,rfl,_,B,_⟩
 .simp[zX]
 .intro D;simp[zX]at D;subst D;rw[hk]at B;simp only[ya,yo]at B;exact G B.2.1
theorem Iw(l:List Int)(a:Option Addr)(c A:Nat)(w:zu)(S:l.length<=12)(hA:w.cell? ⟨A,0,zp⟩=zo (zf a l.length c))(hR:xE w a (jv l)):
 zw prog 253 #[zf zp 0 0,.func (.func 233) #[] #[ze (zo ⟨A,0,zp⟩)]] w fun z w'=>∃v,z=zm v/\w'.ownsRow w.heap.size 3 1 v l.length (jv l)/\Below w.heap.size w w':=by
 have HR:=yw hR;have HA:=yw hA;have k5:=World.block_lt_of_cell? _ _ hA;obtain⟨i0,hi,k7,kg,ka⟩:=info_parts Gw;obtain⟨n,hN⟩:=yB l.length
 have HN:=yw hN;rw[<-hN]at S ⊢;clear hR hA hN;refine(callsIn_wide (n:=4)).1 ?_;refine callsIn_of_wp_marks func253 rfl trivial ?_ rfl;simp only[ntmps253,List.size_toArray,List.length_cons,List.length_nil,Nat.reduceAdd,Nat.reduceSub,Array.replicate_succ,Array.replicate_zero,List.push_toArray,List.append_toArray,List.nil_append,List.cons_append]
 gi_wp2_with fail
 obtain⟨w1,Z⟩:=yB (w.alloc (zn #[zf zp 0 0] 43))
 have k2:Below w.heap.size w w1:=by rw[Z];exact yE w _
 have hc:w1.heap[w.heap.size]?=zo (zn #[zf zp 0 0] 43 (0,0)):=by rw[Z];exact heap_alloc_new w _
 have Hg:w1.heap.size=w.heap.size+1:=by rw[Z];simp
 rw[<-Z];obtain⟨D,hD⟩:=yB w.heap.size
 rw[<-hD]at hc ⊢;obtain⟨HD,k9,ke,k1⟩:=Qf hD hc k2 Hg;clear Z k2 hc hD Hg;refine xq rfl (by simp) (gf:=233) (lb:=#[ze (zo ⟨A,0,zp⟩)]) rfl trivial (enters_of func233 (by kernel_rfl) rfl) ?_;intro fn W1 kn hb hl;obtain⟨L,t⟩:=yB w1.heap.size
 rw[<-t]at hl hb ⊢;have kh:D<L:=by rw[t,k1.out,HD.out];omega
 have kk:w.heap.size<L:=by rw[t,k1.out];omega
 have kf:w.heap.size<=D:=by rw[HD.out];exact yA _
 have ha:Below w.heap.size w W1:=yC ke.out hb (by omega);have h8:W1.heap[D]?=zo (zn #[zf zp 0 0] 43 (0,0)):=(hb.block D kh).trans k9.out;clear t;refine(Tm 1 (fun k W=>Below w.heap.size w W/\W1.heap.size<=W.heap.size/\(∃V U,W.heap[D]?=zo (zn #[zf V k U] 43 (0,0))/\W.ownsRow w.heap.size 3 1 (zf V k U) k (jv (l.take k)))/\qm W L .ready fn _ _ _ _) l a c A (L+1) (by have:=HN.out;omega) ?_ ?_ W1 ⟨ha,yA _,⟨zp,0,h8,by simpa[jv]using ym _ _ _ _⟩,hl⟩).mono ?_
 .rintro k W ⟨C,_,_,_⟩;exact⟨(C.cell (p:=⟨A,0,zp⟩) k5).trans HA.out,HR.out.behind C⟩
 .rintro k x W ⟨C,hz,⟨V,U,J,E⟩,I⟩ hx;have H7:=(yy hx).1;have HX:=yw (IX l k x hx);have kj:k<n:=by rw[HN.out];exact H7
  obtain⟨k0,hu,P,h9⟩:=Qf C J E I;have k8:=(yx J).1;have ki:=hl.lt;obtain⟨ys,H5⟩:=yB (jv (l.take k))
  rw[<-H5]at P HX;clear hx H7 C J E ha h8 hb hl H5;refine YieldAt.mono (vQ (a₁:=?a1) trivial I _ rfl (R:=fun W'=>Below w.heap.size w W'/\W.heap.size<=W'.heap.size/\∃V U,W'.heap[D]?=zo (zn #[zf V (k+1) U] 43 (0,0))/\W'.ownsRow w.heap.size 3 1 (zf V (k+1) U) (k+1) (jv (l.take (k+1)))) ?has ?hbo) ?hmo
  case has=>
   intro K hK
   gi_wp2
   exact hK
  case hbo=>
   generalize F:qr W L .busy _ _ _ _ _=X;have G:=h9.out.put .busy;rw[F]at G;have hf:X.heap.size=W.heap.size:=by rw[<-F];simp[qr]
   have RJ:OA (fun k=>k=L+1) W X:=by rw[<-F];exact yZ _ _ _ _ _ _ _ _
   have m:X.heap[D]?=zo (zn #[zf V k U] 43 (0,0)):=by rw[RJ.block D k8 (by omega)];exact hu.out
   have H2:X.ownsRow w.heap.size 3 1 (zf V k U) k ys:=by
    refine⟨P.out.1,?_⟩;rcases P.out.2 with S|⟨g,M,cur,Y,O,N,B⟩
    .exact .inl S
    .refine .inr ⟨g,M,cur,Y,O,?_,B⟩;rw[RJ.block g (yx N).1 ?_];exact N;rintro rfl;have:=h9.out.r;rw[N]at this;simp at this
   obtain⟨kb,H6,kl,y,k6⟩:=Qg G m RJ H2 hf;have H1:Hid (Below w.heap.size w X):=yw (k0.out.trans (RJ.below k0.out.size fun j s=>by rw[s];omega));have f:=yP m;have hm:X.frozen? ⟨D,0,zp⟩=zt:=by simp[zY,m]
   have hp:=(yx m).1;have ho:w.heap.size<=X.heap.size:=H1.out.size;clear F G m RJ H2 I h9 P hu hf
   gi_wp2_with (gi_at_builtin;go_loud (refine wpListIn_append_own _ rfl _ _ 43 rfl w.heap.size 3 i0 (zd zj 0) 1 8 underlying43 hi k7 kg ka rfl (by decide) _ _ _ rfl (y.out.alloc _) ⟨X.heap.size,0,zp⟩ 1 1 [zd zj x] rfl rfl (cell_one_new _ _ _) (by simp[Value.oneCell']) (by unfold maxLen;omega) (by omega) (by simp;omega) ?_);go_loud (intro v' q T hg _;obtain⟨g',H,rfl⟩:=ownsRow_succ T);go_loud (have H4:=hg.block D (by simp;omega) (fun e=>by have:=yS y.out H6.out (by decide);exact this e.symm));go_loud (have h:q.heap[D]?=zo (zn #[zf V k U] 43 (0,0)):=H4.trans ((zZ _ _ _ hp).trans H6.out));go_loud (obtain⟨hw,hy,h7⟩:=Qe h T hg;have hq:=yP h);go_loud (have k3:q.frozen? ⟨D,0,zp⟩=zt:=by simp[zY,h]);go_loud (have ko:=(yx h).1);go_loud (clear T hg H4 h f hm))
   have hr:∀b,b<X.heap.size->(∀cs z,X.heap[b]?≠zo (zn cs 3 z))->q.heap[b]?=X.heap[b]?:=fun b hb k4=>by
    rw[h7.out.block b (by simp;omega) (fun e=>by
     have e':(zf V k U).ownBlock=zo b:=e.symm;rcases y.out.2 with⟨h0,_⟩|⟨g,M,cur,Y,_,N,_⟩
     .rw[h0]at e';simp[zX]at e'
     .rw[Y]at e';simp[zX]at e';subst e';exact k4 _ _ N)]
    exact zZ _ _ _ hb
   have G:=kb.out;have h6:qm q L .busy fn _ _ _ _:=⟨(hr _ G.lt (fun cs z=>by rw[G.r];simp)).trans G.r,(hr _ (by have:=G.lt;omega) (fun cs z=>by rw[G.d];simp)).trans G.d⟩
   have km:X.heap.size<=q.heap.size:=by have:=h7.out.size;simp at this;omega
   have kd:(q.setCell ⟨D,0,zp⟩ (zf (zo ⟨g',0,zp⟩) (k+1) H)).heap[D]?=zo (zn #[zf (zo ⟨g',0,zp⟩) (k+1) H] 43 (0,0)):=yD hw.out;have ht:OA (fun j=>j=D) q (q.setCell ⟨D,0,zp⟩ (zf (zo ⟨g',0,zp⟩) (k+1) H)):=(OA.refl _ _).one;have he:Below w.heap.size w q:=(H1.out.alloc ho _).grown h7.out (by simp;omega) fun j s=>(y.out.lt j s).1;have H3:=Df (o:=0) (u:=zf (zo ⟨g',0,zp⟩) (k+1) H) hy.out (yS hy.out hw.out (by decide));have hf:=k6.out;refine⟨h6.RB ht (by omega) (by omega),?_,?_,zo ⟨g',0,zp⟩,H,?_,?_⟩
   .refine(he.trans (ht.below he.size fun j s=>by rw[s];exact kf)).trans (OA.below (yZ _ L _ _ _ _ _ _) ?_ ?_)
    .have:=he.size;simp;omega
    .intro j s;rw[s];omega
   .simp[qr];omega
   .rw[yY _ _ _ _ _ _ _ _ (by omega)];exact kd
   .rw[HX.out];refine⟨H3.1,?_⟩;rcases H3.2 with S|⟨g,M,cur,Y,O,N,B⟩
    .exact .inl S
    .refine .inr ⟨g,M,cur,Y,O,?_,B⟩;rw[yY _ _ _ _ _ _ _ _ ?_];exact N;rintro rfl;have h1:=h6.r;rw[<-zR q ⟨D,0,zp⟩ (zf (zo ⟨g',0,zp⟩) (k+1) H) _ (by show L+1≠D;omega),N]at h1;simp at h1
  case hmo=>
   rintro e W' ⟨h1,h2,h3,h4,h5⟩;exact⟨h1,h3,by omega,h5,h2⟩
 .rintro e X ⟨Y,C,hz,⟨V,U,J,E⟩,I⟩;refine⟨Y,I,?_⟩;intro W3 hd Q;rw[List.take_length,<-HN.out]at E;rw[<-HN.out]at J;have ki:=I.lt;have H0:W3.heap[D]?=zo (zn #[zf V n U] 43 (0,0)):=(Q.block D (yx J).1 (by omega)).trans J;have H8:W3.ownsRow w.heap.size 3 1 (zf V n U) n (jv l):=by
   refine⟨E.1,?_⟩;rcases E.2 with S|⟨g,M,cur,Y,O,N,B⟩
   .exact .inl S
   .refine .inr ⟨g,M,cur,Y,O,?_,B⟩;rw[Q.block g (yx N).1 ?_];exact N;rintro rfl;have:=I.r;rw[N]at this;simp at this
  have f:=yP H0;have kc:Hid (Below w.heap.size w W3):=yw (C.trans (Q.below C.size fun j s=>by rw[s];omega));have Hy:=yw H8;have H9:=yw hd;clear H0 H8 hd C hz J E I Q Y ha h8 hb hl
  gi_wp2
  refine⟨by simp,.inl ⟨_,_,rfl,run_takeDeferred H9.out,?_⟩⟩;refine⟨_,results_tmp rfl _ _ _,_,rfl,?_,kc.out.trans ⟨rfl,rfl,rfl,by simp,fun k hk=>World.putObj_heap_other (by omega)⟩⟩;refine⟨Hy.out.1,?_⟩;rcases Hy.out.2 with S|⟨g,M,cur,Y,O,N,B⟩
  .exact .inl S
  .refine .inr ⟨g,M,cur,Y,O,?_,B⟩;rw[World.putObj_heap_other ?_];exact N;rintro rfl;have:=H9.out;rw[N]at this;simp at this
theorem Tn(l:List Int)(a:Option Addr)(c A:Nat)(w:zu)(M:l.length<=12)(G:w.cell? ⟨A,0,zp⟩=zo (zf a l.length c))(D:xE w a (jv l)):
 zw prog 231 #[.func (.func 233) #[] #[ze (zo ⟨A,0,zp⟩)]] w fun z w'=>∃v,z=zm v/\w'.ownsRow w.heap.size 3 1 v l.length (jv l)/\Below w.heap.size w w':=by
 have J:=yw (Iw l a c A w M G D);clear G D;go_enter func231,ntmps231;go_wp2_with fail;refine J.out.mono ?_;rintro z w2 ⟨v,rfl,E,B⟩;have I:=yw E;have H:=yw B;clear E B;go_wp2;go_ret;exact⟨_,rfl,I.out,H.out⟩
theorem Ur.refl{l:List Int}(h:∀(i j:Nat) (x:Int),l[i]?=zo x->l[j]?=zo x->i=j):Ur l l:=⟨rfl,h,fun _ A=>A⟩
theorem KM(l:List Int)(a:Option Addr)(c A:Nat)(w:zu)(E:1<=l.length)(H:l.length<=12)(T:w.cell? ⟨A,0,zp⟩=zo (zf a l.length c))(d:xE w a (jv l))(Z:∀(i j:Nat) (x:Int),l[i]?=zo x->l[j]?=zo x->i=j):
 zw prog 197 #[.func (.func 233) #[] #[ze (zo ⟨A,0,zp⟩)]] w fun z w'=>∃g B G,z=zm (zf (zo ⟨g,0,zp⟩) l.length B)/\IR w' g G/\Ur l G/\w.heap.size<=g/\Below w.heap.size w w':=by
 have U:=yw (Tn l a c A w H T d);obtain⟨n,I⟩:=yB l.length
 have r:=yw I;have p:=yw (Ur.refl Z);rw[<-I]at H E U ⊢;clear T d I Z;go_enter func197,ntmps197;go_wp2_with fail;refine U.out.mono ?_;rintro z f ⟨v,rfl,O,J⟩;obtain⟨g,B,cur,rfl,M,V,X⟩:=O.2.resolve_left (by rintro⟨h,h0⟩;simp_all);have D:IR f g l:=⟨cur,V,fun k x s=>by
  have h:=ES s;rw[<-X.2.2.2,List.getElem?_take]at h;split at h
  .simpa using h
  .cases h⟩
 have HS:=yw (EV l l g n B f r.out E H D p.out);have b:=yw J;clear O J V X D;go_wp2_with fail;refine HS.out.mono ?_;rintro z w3 ⟨⟨v,rfl⟩,G,Y,N,R⟩;obtain⟨m,q,o⟩:=Qe Y N R;clear Y N R;go_wp2;go_ret;exact⟨g,B,G,rfl,m.out,q.out,M,b.out.trans (o.out.below b.out.size fun k hk=>by rw[hk];exact M)⟩
theorem To(A:List Int)(g n c:Nat)(w:zu)(N:n=A.length)(h0:n<=12)(J:IR w g A)(M:∀(i j:Nat) (x:Int),A[i]?=zo x->A[j]?=zo x->i=j):
 zw prog 199 #[zf (zo ⟨g,0,zp⟩) n c] w fun z w'=>z=zm (zf (zo ⟨g,0,zp⟩) n c)/\OA (fun _=>False) w w':=by
 obtain⟨T,V,R⟩:=Qe J N M;clear J N M;go_enter func199,ntmps199;by_cases h2:n<2
 .go_wp2;go_ret;exact⟨rfl,OA.refl _ _⟩
 .go_wp2_with fail;go_loopw [3] (fun i wr=>∃k:Nat,1<=k/\k<=n/\i=zd zj k/\IR wr g A/\OA (fun _=>False) w wr) (fun i _=>n-(intOf i).toNat)
  case atStart=>exact⟨1,yA _,by omega,rfl,T.out,OA.refl _ _⟩
  case round=>
   obtain⟨k,h1,hk,rfl,B,G⟩:=hrel;obtain⟨m,rfl⟩:∃X,k=X+1:=⟨k-1,by omega⟩
   have U:=yw B;have O:=yw G;by_cases D:m+1<n
   .have E:m+1<A.length:=by rw[<-V.out];exact D
    obtain⟨x,I⟩:∃x,A[m+1]?=zo x:=⟨_,zy (by omega)⟩
    obtain⟨y,H⟩:∃y,A[m]?=zo y:=⟨_,zy (by omega)⟩
    have c1:=B.cell I;have c2:=B.cell H;have h3:¬x=y:=fun e=>by have h:=R.out (m+1) m x I (by rw[e];exact H);omega
    have h4:((m:Nat):Int) <(n:Int):=by omega
    clear B G I H E;go_wp2_with fail;go_quiet (fail);go_wp2;go_roundw
    case rel=>exact⟨m+2,by omega,by omega,by go_num,U.out.of rfl,O.out.drewN nq⟩
    case measure=>simp[intOf];omega
   .clear B G;go_wp2;go_ret;exact⟨rfl,O.out⟩
theorem EW(l:List Int)(a:Option Addr)(c:Nat)(w:zu)(I:1<=l.length)(R:l.length<=12)(b:xE w a (jv l))(Z:∀(i j:Nat) (x:Int),l[i]?=zo x->l[j]?=zo x->i=j)(X:∀x∈l,0<=x):
 zw prog 150 #[zf a l.length c] w fun z w'=>z=zm (zh zq)/\Below w.heap.size w w':=by
 have d:=yw (KL w (zf a l.length c) rfl);obtain⟨n,U⟩:=yB l.length
 obtain⟨H,t,m,s⟩:=Qf U b Z X;rw[<-U]at R I d ⊢;clear b U Z X;go_enter func150,ntmps150;go_wp2_with fail;refine d.out.mono ?_;rintro z C ⟨A,rfl,V,h2,D⟩;have HS:=yw (KM l a c A C (by rw[<-H.out];exact I) (by rw[<-H.out];exact R) (by rw[<-H.out];exact V) (t.out.behind D) m.out);rw[<-H.out]at HS;have r:=yw D;clear V D;go_wp2_with fail;refine HS.out.mono ?_;rintro z o ⟨g,N,T,rfl,M,J,v,G⟩;have E:n=T.length:=by rw[J.len];exact H.out
 obtain⟨y,O⟩:∃y,T[0]?=zo y:=⟨_,zy (by omega)⟩
 have c0:=M.cell O;have h0:0<=y:=s.out y (J.sub y (zW O));have u:=yw (fun w' h=>To T g n N w' E R (M.of h) J.inj);have p:=yw G;clear M J v G O E;go_wp2_with fail;refine(u.out o rfl).mono ?_;rintro z f ⟨rfl,Y⟩;have B:Below w.heap.size w f:=by have D:=r.out;have G:=yC D p.out D.size;exact G.trans (Y.below G.size fun k hk=>hk.elim)
 have q:=yw B;clear Y B;go_wp2;go_ret;exact⟨by simp,q.out⟩
end
section
open Go.Shelf
def gN:zz->Option (DataW Unit×List MemPlace)
 | .int zj x=>zo (.lit (.int zj x),[])
 | _=>zp
theorem KN(x:Int):gN (zd zj x)=zo (.lit (.int zj x),[]):=rfl
theorem NE{x:Int}{ps:List MemPlace}(h:gN v=zo (.lit (.int zj x),ps)):v=zd zj x:=by
 unfold gN at h;split at h
 .simp only[ya,Prod.mk.injEq,DataW.lit.injEq,Lit.int.injEq,true_and]at h;rw[h.1]
 .cases h
structure uU(w:zu)(b:Nat)(g:Nat->Int)(n:Nat):Prop where
 ex:∃D,w.ownsMap prog 3 gN b n D/\∀k:Nat,RH k->D.atKey (.int zj k) (.lit (.int zj 0))=.lit (.int zj (g k))
theorem uU.lt{g:Nat->Int}(h:uU w b g n):b<w.heap.size:=by obtain⟨D,A,_⟩:=h.ex;exact A.lt
theorem uU.of{g:Nat->Int}(h:uU w b g n)(hb:w'.heap[b]?=w.heap[b]?):uU w' b g n:=by obtain⟨D,⟨G,A,E,B⟩,H⟩:=h.ex;exact⟨D,⟨G,A,hb.trans E,B⟩,H⟩
theorem uU.le{n':Nat}{g:Nat->Int}(h:uU w b g n)(hn:n<=n'):uU w b g n':=by obtain⟨D,⟨H,A,G,B,h3,E⟩,I⟩:=h.ex;exact⟨D,⟨H,A,G,B,by omega,E⟩,I⟩
theorem EX(w:zu):(zeroValue 2).run prog w=.ok (zd zj 0) w:=by kernel_rfl
theorem uU.look{g:Nat->Int}(h:uU w b g n)(hk:RH k):(Instr.lookup 115 (.map (zo b)) (zd zj k) zt).run prog w=.ok (zd zj (g k)) w:=by obtain⟨D,E,G⟩:=h.ex;obtain⟨v,ps,B,A⟩:=E.lookup vD underlying115 (EX w) (KN 0) (Kk hk);rw[B];rw[G k hk]at A;rw[NE A]
theorem uU.stored{w1:zu}{g:Nat->Int}{c:Int}{D:DataW Unit}(G:w.ownsMap prog 3 gN b n D)(H:∀k:Nat,RH k->D.atKey (.int zj k) (.lit (.int zj 0))=.lit (.int zj (g k)))
 (A:w1.ownsMap prog 3 gN b (n+1) (D.put (.int zj k) (.lit (.int zj c)))):uU w1 b (OV g k c) (n+1):=by
 have E:=G.tidy vD;refine⟨_,A,fun j B=>?_⟩;by_cases e:j=k
 .subst e;rw[yR,Maps.atKey_put_same E.isMap (Fc j)]
 .rw[yQ _ _ e,Maps.atKey_put_other (Ud (by omega))];exact H j B
theorem uU.new(w:zu):uU (w.alloc (.map #[] 0)) w.heap.size (fun _=>0) 0:=
 ⟨⟨_,World.ownsMap_made w prog 3 gN,fun k hk=>rfl⟩⟩
abbrev IY(m1 m2:Nat)(t:Int):Array zz:=#[.map (zo m1),.map (zo m2),zd zj t]
structure eW(w:zu)(b m1 m2:Nat)(x:Bk):Prop where
 bx:w.heap[b]?=zo (zn (IY m1 m2 x.total) 117 (0,0))
 k1:uU w m1 x.bt x.n
 k2:uU w m2 x.bg x.n
 ne:m1≠m2
theorem eW.lt{x:Bk}(h:eW w b m1 m2 x):b<w.heap.size:=(yx h.bx).1
theorem eW.OH{x:Bk}(h:eW w b m1 m2 x):∀j,w.frozen? ⟨b,j,zp⟩=zt:=by intro j;simp[zY,h.bx]
theorem eW.c3{x:Bk}(h:eW w b m1 m2 x):w.cell? ⟨b,0,zp⟩=zo (.map (zo m1))/\w.cell? ⟨b,1,zp⟩=zo (.map (zo m2))/\w.cell? ⟨b,2,zp⟩=zo (zd zj x.total):=by have:=h.bx;refine⟨?_,?_,?_⟩<;>simp[zN,this]
theorem uU.cG{g:Nat->Int}{cs:Array zz}{t:TypeId}{z:Nat×Nat}(h:uU w m g n)(hb:w.heap[b]?=zo (zn cs t z)):b≠m:=by rintro rfl;obtain⟨D,⟨es,h0,A,h2⟩,h3⟩:=h.ex;rw[hb]at A;cases A
def xj(w:zu)(F:Nat->Prop)(b:Nat)(x:Bk):Prop:=∃m1 m2,eW w b m1 m2 x/\F b/\F m1/\F m2
theorem xj.kept{x:Bk}(h:xj w F b x)(hk:xz F w w'):xj w' F b x:=by obtain⟨m1,m2,h,D,B,A⟩:=h;exact⟨m1,m2,⟨(hk b h.lt D).trans h.bx,h.k1.of (hk m1 h.k1.lt B),h.k2.of (hk m2 h.k2.lt A),h.ne⟩,D,B,A⟩
theorem xj.mono{B:Nat->Prop}{x:Bk}(h:xj w F b x)(A:∀k,k<w.heap.size->F k->B k):xj w B b x:=by obtain⟨m1,m2,h,G,E,D⟩:=h;exact⟨m1,m2,h,A b h.lt G,A m1 h.k1.lt E,A m2 h.k2.lt D⟩
def Bk.new:Bk:=⟨fun _=>0,fun _=>0,0,0⟩
theorem EY(w:zu):zw prog 34 #[] w fun z w'=>∃b,z=zm (ze (zo ⟨b,0,zp⟩))/\xj w' (fun k=>w.heap.size<=k) b Bk.new/\Below w.heap.size w w':=by
 have h0:=@run_makeMap prog;go_enter func34,ntmps34;go_wp2;go_ret;have D:(w.alloc (.map #[] 0)).heap.size=w.heap.size+1:=by simp
 have A:=heap_alloc_new ((w.alloc (.map #[] 0)).alloc (.map #[] 0)) (zn #[Value.map (zo w.heap.size),Value.map (zo (w.heap.size+1)),zd zj 0] 117);rw[show((w.alloc (.map #[] 0)).alloc (.map #[] 0)).heap.size=w.heap.size+1+1 by simp]at A;refine⟨_,rfl,⟨w.heap.size,w.heap.size+1,⟨A,?_,?_,by omega⟩,by simp;omega,by simp,by simp⟩,?_⟩
 .have B:=uU.new w;have E:=B.of (w':=(w.alloc (.map #[] 0)).alloc (.map #[] 0)) (zZ _ _ _ (by simp));exact E.of (zZ _ _ _ (by simp;omega))
 .have B:=uU.new (w.alloc (.map #[] 0));rw[D]at B;exact B.of (zZ _ _ _ (by simp))
 .exact((yE w _).alloc (by simp) _).alloc (by simp;omega) _
theorem Ma(w:zu)(F:Nat->Prop)(b n:Nat)(x:Bk)(h:xj w F b x)(hn:n<=1000000):zw prog 21 #[ze (zo ⟨b,0,zp⟩),zd zj n] w fun z w'=>z=zm (zd zj (x.bt n))/\w'=w:=by
 obtain⟨m1,m2,h,_⟩:=h;have A:RH (n:Int):=by unfold RH;omega
 have h0:=h.k1.look A;obtain⟨c0,c1,c2⟩:=h.c3;clear h;go_enter func21,ntmps21;go_wp2;go_ret;exact⟨rfl,rfl⟩
theorem KO(w:zu)(F:Nat->Prop)(b n:Nat)(x:Bk)(h:xj w F b x)(hn:n<=1000000):zw prog 26 #[ze (zo ⟨b,0,zp⟩),zd zj n] w fun z w'=>z=zm (zd zj (x.bg n))/\w'=w:=by
 obtain⟨m1,m2,h,_⟩:=h;have A:RH (n:Int):=by unfold RH;omega
 have h0:=h.k2.look A;obtain⟨c0,c1,c2⟩:=h.c3;clear h;go_enter func26,ntmps26;go_wp2;go_ret;exact⟨rfl,rfl⟩
theorem xE.RB{P:Nat->Prop}(h:xE w a vs)(B:OA P w w')(G:∀r,a=zo ⟨r,0,zp⟩->¬P r):xE w' a vs:=fun k u H=>by obtain⟨r,A,E,D⟩:=h k u H;refine⟨r,A,?_,yz D B.size⟩;rw[<-E];simp[zN,B.block r D (G r A)]
def Bk.part(b:Bk)(A:List Nat)(n:Nat)(ns:Int)(k:Nat):Bk:=b.credit (A.take k) n ns
theorem Tp(b:Bk)(A:List Nat)(hd:∀(i j:Nat) (x:Nat),A[i]?=zo x->A[j]?=zo x->i=j)(n:Nat)(ns:Int)(k p:Nat)(G:A[k]?=zo p):
 (b.part A n ns k).bg p=b.bg p/\OV (b.part A n ns k).bg p (b.bg p+ns)=(b.part A n ns (k+1)).bg:=by
 have E:A.take (k+1)=A.take k++ [p]:=by rw[List.take_add_one,G];rfl
 have B:p∉A.take k:=by
  intro I;obtain⟨i,D⟩:=List.getElem?_of_mem I;rw[List.getElem?_take]at D;split at D
  .rename_i h0;have:=hd i k p D G;omega
  .cases D
 have H:(b.part A n ns k).bg p=b.bg p:=by simp[Bk.part,Bk.credit,B]
 refine⟨H,funext fun g=>?_⟩;by_cases e:g=p
 .subst e;rw[yR];simp[Bk.part,Bk.credit,E]
 .rw[yQ _ _ e];simp[Bk.part,Bk.credit,E,e]
theorem eW.fQ{x:Bk}(h:eW w b m1 m2 x)(t:Int):eW (w.setCell ⟨b,2,zp⟩ (zd zj t)) b m1 m2 { x with total:=t }:=
 ⟨yD h.bx,h.k1.of (zR _ _ _ _ (h.k1.cG h.bx).symm),h.k2.of (zR _ _ _ _ (h.k2.cG h.bx).symm),h.ne⟩
theorem IZ(A:List Nat)(k p:Nat)(h:A[k]?=zo p):(jv (A.map Int.ofNat))[k]?=zo (zd zj p):=by simp[jv,h]
theorem Tq(A:List Nat)(a:Option Addr)(c base n:Nat)(ns:Int)(w:zu)(F:Nat->Prop)(b:Nat)(x:Bk)(h:xj w F b x)
 (J:w.ownsRow base 3 1 (zf a A.length c) A.length (jv (A.map Int.ofNat))) (W:1<=A.length) (hl:A.length<=12) (hd:∀(i j:Nat) (x:Nat),A[i]?=zo x->A[j]?=zo x->i=j)
 (K:∀g∈A,g<=1000000) (hn:n<=1000000) (k5:0<=ns) (iA:0<=x.total) (ht:x.total+ns<=9223372036854775807)
 (k7:0<=x.bt n/\x.bt n<=x.total) (h9:∀g,0<=x.bg g/\x.bg g<=x.total) (k6:x.n<=1000000000):
 zw prog 98 #[ze (zo ⟨b,0,zp⟩),zf a A.length c,zd zj n,zd zj ns] w fun z w'=>z=zm (zd zj 0)/\xj w' F b (x.credit A n ns)/\OA F w w':=by
 obtain⟨m1,m2,h,f0,f1,f2⟩:=h;have C:xE w a (jv (A.map Int.ofNat)):=by obtain⟨a',c',e,h⟩:=xE.SW J;simp only[Value.slice.injEq]at e;rw[e.1];exact h
 have hA:∀r,a=zo ⟨r,0,zp⟩->r≠b/\r≠m1/\r≠m2:=by
  rintro r rfl;have e1:=yS J h.bx (by decide);refine⟨fun e=>e1 (by rw[e];rfl),?_,?_⟩
  .rintro rfl;rcases J.2 with⟨e,_⟩|⟨g,H8,cur,hv,_,hh,_⟩
   .cases e
   .simp only[Value.slice.injEq,ya,Addr.mk.injEq,true_and,and_true]at hv;rw[<-hv.1]at hh;exact h.k1.cG hh rfl
  .rintro rfl;rcases J.2 with⟨e,_⟩|⟨g,H8,cur,hv,_,hh,_⟩
   .cases e
   .simp only[Value.slice.injEq,ya,Addr.mk.injEq,true_and,and_true]at hv;rw[<-hv.1]at hh;exact h.k2.cG hh rfl
 have HO:=yw (EW (A.map Int.ofNat) a c w (by simpa using W) (by simpa using hl) C (fun i j y h1 h2=>by
  rw[zG,Option.map_eq_some_iff]at h1 h2;obtain⟨u,h1,rfl⟩:=h1;obtain⟨v,h2,e⟩:=h2;have e':(v:Int)=(u:Int):=by simp at*;omega
  have:v=u:=by omega
  subst this;exact hd i j v h1 h2) (fun y hy=>by obtain⟨u,_,rfl⟩:=yh.1 hy;simp))
 obtain⟨HD,HP,q⟩:=Qe hd K hA;obtain⟨G,H⟩:=yB A.length
 have U:=yw H;rw[List.length_map,<-H]at HO;rw[<-H]at W hl ⊢;obtain⟨Q,H6,H4⟩:=Qe h C h9;obtain⟨c0,c1,c2⟩:=h.c3;have O:=h.lt;have s:=h.OH;obtain⟨h7,hg,hu⟩:=Qe f0 f1 f2;have H9:¬ns<0:=by omega
 have k0:¬(n:Int) <0:=by omega
 have Hy:IntKind.i64.wrap (9223372036854775807-x.total)=9223372036854775807-x.total:=by simp only[IntKind.wrap,yq,IntKind.bits];simp;omega
 have Hg:IntKind.i64.wrap (x.total+ns)=x.total+ns:=by simp only[IntKind.wrap,yq,IntKind.bits];simp;omega
 have hz:IntKind.i64.wrap (x.bt n+ns)=x.bt n+ns:=by simp only[IntKind.wrap,yq,IntKind.bits];simp;omega
 have hI:RH (n:Int):=by unfold RH;omega
 clear h C J H hd K hA h9 f0 f1 f2;go_enter func98,ntmps98;go_wp2_with fail;refine HO.out.mono ?_;rintro z w2 ⟨rfl,V⟩;have ho:=yw V;have T:eW w2 b m1 m2 x:=⟨(V.block b O).trans Q.out.bx,Q.out.k1.of (V.block _ Q.out.k1.lt),Q.out.k2.of (V.block _ Q.out.k2.lt),Q.out.ne⟩
 clear c0 c1 c2 O s V;obtain⟨c0,c1,c2⟩:=T.c3;have O:=T.lt;have s:=T.OH;have L:=T.fQ (x.total+ns);have f:=L.k1.look hI;have E:=yw L;clear T L;obtain⟨D,X,d⟩:=E.out.k1.ex;have N:=yw X;have l:=yw d;clear X d;have P:Hid (OA (fun k=>k=b) w2 (w2.setCell ⟨b,2,zp⟩ (zd zj (x.total+ns)))):=yw (OA.refl _ _).one
 go_wp2_with (at_mapUpdate;refine wpList_mapUpdate_own _ rfl _ _ _ 115 rfl 3 2 vD underlying115 gN m1 x.n D (by rfl) N.out (by unfold maxLen;omega) _ _ _ (by rfl) (by rfl) (Kk hI) (.lit (.int zj (x.bt n+ns))) [] (KN _) ?_;intro w4 R I;have h5:=yw R;have he:=yw I;clear R I c0 c1 c2 O s f);have Z:OA (fun z=>z=m1) (w2.setCell ⟨b,2,zp⟩ (zd zj (x.total+ns))) w4:=(OA.refl (fun z=>z=m1) _).grown he.out fun k hk=>.inl (by cases hk;rfl);have h8:eW w4 b m1 m2 (x.part A n ns 0):=by
  have H2:=uU.stored N.out l.out h5.out;refine⟨(Z.block b E.out.lt (E.out.k1.cG E.out.bx)).trans E.out.bx,by simpa[Bk.part,Bk.credit]using H2,?_,E.out.ne⟩;have h:=uU.le (n':=x.n+1) (E.out.k2.of (Z.block m2 E.out.k2.lt E.out.ne.symm)) (by show x.n<=x.n+1;omega);simpa[Bk.part,Bk.credit]using h
 have hi:OA F w w4:=((OA.NZ ho.out:OA F w w2).trans P.out fun k hk=>.inl (by rw[hk];exact h7.out)).trans Z fun k hk=>.inl (by rw[hk];exact hg.out);have hm:xE w4 a (jv (A.map Int.ofNat)):=((H6.out.behind ho.out).RB P.out fun r J=>(q.out r J).1).RB Z fun r J=>(q.out r J).2.1;obtain⟨hj,h6,h4⟩:=Qe h8 hi hm;clear Z h8 hi hm N l h5 he P E;go_loopw [10,53] (fun _ i wr=>∃k:Nat,k<=G/\i=zd zj k/\eW wr b m1 m2 (x.part A n ns k)/\xE wr a (jv (A.map Int.ofNat))/\OA F w wr) (fun _ i _=>G-(intOf i).toNat)
 case atStart=>exact⟨0,Nat.zero_le _,rfl,hj.out,h4.out,h6.out⟩
 case round=>
  obtain⟨k,hk,rfl,hx,J,ht⟩:=hrel;obtain⟨B,hq,h3⟩:=Qe hx J ht;clear hx J ht hj h6 h4;by_cases H0:k<G
  .obtain⟨p,K⟩:∃p,A[k]?=zo p:=⟨_,zy (by rw[<-U.out];exact H0)⟩
   obtain⟨r,ha,hc,H3⟩:=hq.out k _ (IZ A k p K);have S:RH (p:Int):=by have:=HP.out p (zW K);unfold RH;omega
   have t:=Tp x A HD.out n ns k p K;have f:=B.out.k2.look S;rw[t.1]at f;have H5:=yw t;have hw:IntKind.i64.wrap (x.bg p+ns)=x.bg p+ns:=by have:=H4.out p;simp only[IntKind.wrap,yq,IntKind.bits];simp;omega
   obtain⟨c0,c1,c2⟩:=B.out.c3;have O:=B.out.lt;obtain⟨D,X,d⟩:=B.out.k2.ex;have N:=yw X;have l:=yw d;have k3:(k:Int) <(G:Int):=by omega
   have k4:(x.part A n ns k).n<=1000000100:=by simp[Bk.part,Bk.credit];omega
   clear X d K t;subst ha;go_wp2_with (at_mapUpdate;refine wpList_mapUpdate_own _ rfl _ _ _ 115 rfl 3 2 vD underlying115 gN m2 (x.part A n ns k).n D (by rfl) N.out (by unfold maxLen;omega) _ _ _ (by rfl) (by rfl) (Kk S) (.lit (.int zj (x.bg p+ns))) [] (KN _) ?_;intro w5 Y M;have H7:=yw Y;have H1:=yw M;clear Y M c0 c1 c2 O f hc H3);have m:OA (fun z=>z=m2) wr w5:=(OA.refl (fun z=>z=m2) _).grown H1.out fun k hk=>.inl (by cases hk;rfl);have hf:(x.part A n ns (k+1)).n=(x.part A n ns k).n+1:=by have:=U.out;simp[Bk.part,Bk.credit];omega
   refine⟨⟨k+1,by omega,by go_num,⟨(m.block b B.out.lt (B.out.k2.cG B.out.bx)).trans B.out.bx,?_,?_,B.out.ne⟩,hq.out.RB m fun r J=>(q.out r J).2.2,h3.out.trans m fun k hk=>.inl (by rw[hk];exact hu.out)⟩,by simp[intOf];omega⟩
   .rw[hf];exact uU.le (B.out.k1.of (m.block m1 B.out.k1.lt B.out.ne)) (by omega)
   .rw[hf,<-H5.out.2];exact uU.stored N.out l.out H7.out
  .have e:k=G:=by omega
   subst e;have o:x.part A n ns k=x.credit A n ns:=by unfold Bk.part;rw[U.out,List.take_length]
   have h0:=yw o;clear o;go_wp2;go_ret;exact⟨rfl,⟨m1,m2,h0.out▸B.out,h7.out,hg.out,hu.out⟩,h3.out⟩
end
structure Lay where
 tb:Nat->Nat
 gb:Nat->Nat
 bb:Nat->Nat
 lb:Nat->Nat
 hb:Nat->Nat
 cb:Nat->Nat
 t:Nat
 tp:Nat
 pp:Nat
 bk:Nat
 vt:zz
 vg:zz
 vh:zz
 vc:zz
abbrev Ju(gb:Nat->Nat)(t:Tk):Array zz:=#[zd zj t.hi,zd zj t.hg,zh t.dead,zh t.on,zd zj t.p,ze (zo ⟨gb t.OG,0,zp⟩),zd zj t.nice,zd zk t.w,zd zk t.mask,zd zj t.e.id,zd zk t.e.w,zd zj t.e.v,zd zk t.e.rem,zd zj t.min]
def RR(w:zu)(b:Nat)(gb:Nat->Nat)(t:Tk):Prop:=w.heap[b]?=zo (zn (Ju gb t) 82 (0,0))
theorem RR.lt{gb:Nat->Nat}{t:Tk}(h:RR w b gb t):b<w.heap.size:=(yx h).1
theorem RR.OH{gb:Nat->Nat}{t:Tk}(h:RR w b gb t):∀j,w.frozen? ⟨b,j,zp⟩=zt:=by intro j;unfold RR at h;simp[zY,h]
theorem RR.of{gb:Nat->Nat}{t:Tk}(h:RR w b gb t)(hb:w'.heap[b]?=w.heap[b]?):RR w' b gb t:=hb.trans h
theorem RR.TY{gb:Nat->Nat}{t:Tk}(h:RR w b gb t):w.cell? ⟨b,0,zp⟩=zo (zd zj t.hi)/\w.cell? ⟨b,1,zp⟩=zo (zd zj t.hg)/\w.cell? ⟨b,2,zp⟩=zo (zh t.dead)/\w.cell? ⟨b,3,zp⟩=zo (zh t.on)/\w.cell? ⟨b,4,zp⟩=zo (zd zj t.p)/\w.cell? ⟨b,5,zp⟩=zo (ze (zo ⟨gb t.OG,0,zp⟩))/\w.cell? ⟨b,6,zp⟩=zo (zd zj t.nice)/\w.cell? ⟨b,7,zp⟩=zo (zd zk t.w)/\w.cell? ⟨b,8,zp⟩=zo (zd zk t.mask)/\w.cell? ⟨b,9,zp⟩=zo (zd zj t.e.id)/\w.cell? ⟨b,10,zp⟩=zo (zd zk t.e.w)/\w.cell? ⟨b,11,zp⟩=zo (zd zj t.e.v)/\w.cell? ⟨b,12,zp⟩=zo (zd zk t.e.rem)/\w.cell? ⟨b,13,zp⟩=zo (zd zj t.min):=by
 unfold RR at h;refine⟨?_,?_,?_,?_,?_,?_,?_,?_,?_,?_,?_,?_,?_,?_⟩<;>simp[zN,h]
abbrev Kw(n bb lb:Nat)(g:Gp):Array zz:=#[zd zj n,zd zj g.hi,zd zj g.hg,zd zk g.shares,zd zj g.quota,ze (if g.band.isSome=zq then zo ⟨bb,0,zp⟩else zp),ze (if g.band.isSome=zq then zo ⟨lb,0,zp⟩else zp)]
def bG(w:zu)(b n bb lb:Nat)(g:Gp):Prop:=w.heap[b]?=zo (zn (Kw n bb lb g) 86 (0,0))
theorem bG.lt{bb lb:Nat}(h:bG w b n bb lb g):b<w.heap.size:=(yx h).1
theorem bG.OH{bb lb:Nat}(h:bG w b n bb lb g):∀j,w.frozen? ⟨b,j,zp⟩=zt:=by intro j;unfold bG at h;simp[zY,h]
theorem bG.of{bb lb:Nat}(h:bG w b n bb lb g)(hb:w'.heap[b]?=w.heap[b]?):bG w' b n bb lb g:=hb.trans h
theorem bG.c7{bb lb:Nat}(h:bG w b n bb lb g):w.cell? ⟨b,0,zp⟩=zo (zd zj n)/\w.cell? ⟨b,1,zp⟩=zo (zd zj g.hi)/\w.cell? ⟨b,2,zp⟩=zo (zd zj g.hg)/\w.cell? ⟨b,3,zp⟩=zo (zd zk g.shares)/\w.cell? ⟨b,4,zp⟩=zo (zd zj g.quota)/\w.cell? ⟨b,5,zp⟩=zo (ze (if g.band.isSome=zq then zo ⟨bb,0,zp⟩else zp))/\w.cell? ⟨b,6,zp⟩=zo (ze (if g.band.isSome=zq then zo ⟨lb,0,zp⟩else zp)):=by unfold bG at h;refine⟨?_,?_,?_,?_,?_,?_,?_⟩<;>simp[zN,h]
def xK(l:List (Option Nat)):List zz:=l.map fun x=>ze (x.map fun b=>⟨b,0,zp⟩)
theorem Ky(l:List (Option Nat)):(xK l).length=l.length:=by simp[xK]
theorem Bm{l:List (Option Nat)}{x:Option Nat}(h:l[k]?=zo x):(xK l)[k]?=zo (ze (x.map fun b=>⟨b,0,zp⟩)):=by simp[xK,h]
structure Sx(w:zu)(G:Nat->Prop)(s:Nat)(S:Sc)(L:Lay):Prop where
 ty:∃cs,w.heap[s]?=zo (zn cs 66 (0,0))
 own:G s
 c0:w.cell? ⟨s,0,zp⟩=zo (zd zj S.ps)
 c1:w.cell? ⟨s,1,zp⟩=zo (zd zj S.tick)
 c2:w.cell? ⟨s,2,zp⟩=zo (zd zj S.gran)
 c3:w.cell? ⟨s,3,zp⟩=zo (zd zj S.credit)
 c4:w.cell? ⟨s,4,zp⟩=zo (zd zk S.lat)
 c5:w.cell? ⟨s,5,zp⟩=zo (ze (zo ⟨L.t,0,zp⟩))
 c6:w.cell? ⟨s,6,zp⟩=zo (ze (zo ⟨L.pp,0,zp⟩))
 c7:w.cell? ⟨s,7,zp⟩=zo L.vt
 c8:w.cell? ⟨s,8,zp⟩=zo L.vg
 pl:∀i,i<32->w.cell? ⟨s,9+i,zp⟩=zo (ze ((S.pl i).map fun n=>⟨L.gb n,0,zp⟩))
 at_:∀i,i<64->w.cell? ⟨s,41+i,zp⟩=zo (zd zj (S.at_ i))
 vh:w.cell? ⟨s,105,zp⟩=zo L.vh
 vc:w.cell? ⟨s,106,zp⟩=zo L.vc
 bk:w.cell? ⟨s,107,zp⟩=zo (ze (zo ⟨L.bk,0,zp⟩))
theorem Sx.lt{L:Lay}(h:Sx w G s S L):s<w.heap.size:=by obtain⟨cs,A⟩:=h.ty;exact(yx A).1
theorem Sx.OH{L:Lay}(h:Sx w G s S L):∀j,w.frozen? ⟨s,j,zp⟩=zt:=by intro j;obtain⟨cs,A⟩:=h.ty;simp[zY,A]
theorem Sx.kept{L:Lay}(h:Sx w G s S L)(hk:xz G w w'):Sx w' G s S L:=by
 have hb:=hk s h.lt h.own;obtain⟨cs,B⟩:=h.ty;have e:∀j,w'.cell? ⟨s,j,zp⟩=w.cell? ⟨s,j,zp⟩:=fun j=>by simp[zN,hb]
 exact⟨⟨cs,hb.trans B⟩,h.own,(e _).trans h.c0,(e _).trans h.c1,(e _).trans h.c2,(e _).trans h.c3,(e _).trans h.c4,(e _).trans h.c5,(e _).trans h.c6,(e _).trans h.c7,(e _).trans h.c8,fun i A=>(e _).trans (h.pl i A),fun i A=>(e _).trans (h.at_ i A),(e _).trans h.vh,(e _).trans h.vc,(e _).trans h.bk⟩
theorem Sx.mono{L:Lay}(h:Sx w G s S L)(A:∀k,k<w.heap.size->G k->G' k):Sx w G' s S L:=
 ⟨h.ty,A s h.lt h.own,h.c0,h.c1,h.c2,h.c3,h.c4,h.c5,h.c6,h.c7,h.c8,h.pl,h.at_,h.vh,h.vc,h.bk⟩
structure qW(w:zu)(G:Nat->Prop)(e:TypeId)(v:zz)(l:List (Option Nat)):Prop where
 row:w.ownsRow 0 e 1 v l.length (xK l)
 own:∀k,v.ownBlock=zo k->G k
theorem qW.kept{e:TypeId}{l:List (Option Nat)}(h:qW w G e v l)(hk:xz G w w'):qW w' G e v l:=by
 refine⟨⟨h.row.1,?_⟩,h.own⟩;rcases h.row.2 with H|⟨g,A,cur,B,hb,D,E⟩
 .exact .inl H
 .exact .inr ⟨g,A,cur,B,hb,by rw[hk g (yx D).1 (h.own g (by rw[B];rfl))];exact D,E⟩
theorem qW.mono{e:TypeId}{l:List (Option Nat)}(h:qW w G e v l)(A:∀k,k<w.heap.size->G k->G' k):qW w G' e v l:=
 ⟨h.row,fun k hk=>A k (h.row.lt k hk).2 (h.own k hk)⟩
theorem qW.at_{e:TypeId}{l:List (Option Nat)}(h:qW w G e v l){x:Option Nat}(E:l[k]?=zo x):
 ∃r A,v=zf (zo ⟨r,0,zp⟩) l.length A/\w.cell? ⟨r,k,zp⟩=zo (ze (x.map fun b=>⟨b,0,zp⟩))/\r<w.heap.size:=by
 have hk:=(yy E).1;obtain⟨r,A,B⟩:=Xe h.row (by
  rintro rfl;rcases h.row.2 with⟨_,h0⟩|⟨g,A,cur,B,_⟩
  .have:=h.row.1;rw[Ky]at this;omega
  .cases B)
 have D:=h.row;rw[B]at D;have:=D.cells (g:=r) rfl k _ (Bm E);refine⟨r,A,B,?_,(D.lt r rfl).2⟩;rw[<-this];rw[Xq]
theorem qW.len{e:TypeId}{l:List (Option Nat)}(h:qW w G e v l):∃a c,v=zf a l.length c:=by
 rcases h.row.2 with⟨rfl,B⟩|⟨g,h1,cur,A,_⟩
 .refine⟨zp,0,?_⟩;rw[B]
 .exact⟨_,_,A⟩
def qK(tb:Nat->Nat)(l:List Tk):List (Option Nat):=(yi l.length).map fun n=>zo (tb n)
def xL(gb:Nat->Nat)(l:List Gp):List (Option Nat):=(yi l.length).map fun n=>if(l.getD n gL).there=zq then zo (gb n)else zp
theorem uA(tb:Nat->Nat)(l:List Tk):(qK tb l).length=l.length:=by simp[qK]
theorem xo(tb:Nat->Nat)(l:List Gp):(xL tb l).length=l.length:=by simp[xL]
theorem KP{tb:Nat->Nat}{l:List Tk}(h:n<l.length):(qK tb l)[n]?=zo (zo (tb n)):=by simp[qK,h]
theorem Ye{gb:Nat->Nat}(h:n<l.length):(xL gb l)[n]?=zo (if(l.getD n gL).there=zq then zo (gb n)else zp):=by simp[xL,h]
def xP(f:Nat->Nat)(n:Nat):List (Option Nat):=(yi n).map fun k=>zo (f k)
theorem uf(f:Nat->Nat)(n:Nat):(xP f n).length=n:=by simp[xP]
theorem UY(h:k<n):(xP f n)[k]?=zo (zo (f k)):=by simp[xP,h]
structure AM(w:zu)(G:Nat->Prop)(tb gb:Nat->Nat)(vt:zz)(l:List Tk):Prop where
 row:qW w G 74 vt (qK tb l)
 tk:∀n t,l[n]?=zo t->G (tb n)/\RR w (tb n) gb t
 inj:∀n m,n<l.length->m<l.length->tb n=tb m->n=m
theorem AM.kept{tb gb:Nat->Nat}{vt:zz}{l:List Tk}(h:AM w G tb gb vt l)(hk:xz G w w'):AM w' G tb gb vt l:=
 ⟨h.row.kept hk,fun n t A=>⟨(h.tk n t A).1,(h.tk n t A).2.of (hk _ (h.tk n t A).2.lt (h.tk n t A).1)⟩,h.inj⟩
theorem AM.mono{tb gb:Nat->Nat}{vt:zz}{l:List Tk}(h:AM w G tb gb vt l)(B:∀k,k<w.heap.size->G k->G' k):AM w G' tb gb vt l:=
 ⟨h.row.mono B,fun n t A=>⟨B _ (h.tk n t A).2.lt (h.tk n t A).1,(h.tk n t A).2⟩,h.inj⟩
structure TU(w:zu)(G:Nat->Prop)(gb bb lb:Nat->Nat)(vg:zz)(l:List Gp):Prop where
 row:qW w G 59 vg (xL gb l)
 gp:∀n g,l[n]?=zo g->G (gb n)/\bG w (gb n) n (bb n) (lb n) g
 inj:∀n m,n<l.length->m<l.length->gb n=gb m->n=m
theorem TU.kept{gb bb lb:Nat->Nat}{vg:zz}(h:TU w G gb bb lb vg l)(hk:xz G w w'):TU w' G gb bb lb vg l:=
 ⟨h.row.kept hk,fun n g A=>⟨(h.gp n g A).1,(h.gp n g A).2.of (hk _ (h.gp n g A).2.lt (h.gp n g A).1)⟩,h.inj⟩
theorem TU.mono{gb bb lb:Nat->Nat}{vg:zz}(h:TU w G gb bb lb vg l)(B:∀k,k<w.heap.size->G k->G' k):TU w G' gb bb lb vg l:=
 ⟨h.row.mono B,fun n g A=>⟨B _ (h.gp n g A).2.lt (h.gp n g A).1,(h.gp n g A).2⟩,h.inj⟩
structure TZ(w:zu)(G:Nat->Prop)(bb:Nat->Nat)(l:List Gp):Prop where
 bd:∀n g b,l[n]?=zo g->g.band=zo b->G (bb n)/\Qt.OC w (bb n) b
 inj:∀n m,n<l.length->m<l.length->bb n=bb m->n=m
theorem TZ.kept{bb:Nat->Nat}(h:TZ w G bb l)(hk:xz G w w'):TZ w' G bb l:=
 ⟨fun n g b A hb=>⟨(h.bd n g b A hb).1,(h.bd n g b A hb).2.kept (hk _ (h.bd n g b A hb).2.lt (h.bd n g b A hb).1)⟩,h.inj⟩
theorem TZ.mono{bb:Nat->Nat}(h:TZ w G bb l)(B:∀k,k<w.heap.size->G k->G' k):TZ w G' bb l:=
 ⟨fun n g b A hb=>⟨B _ (h.bd n g b A hb).2.lt (h.bd n g b A hb).1,(h.bd n g b A hb).2⟩,h.inj⟩
structure AB(w:zu)(G:Nat->Prop)(lb:Nat->Nat)(l:List Gp):Prop where
 ln:∀n g,l[n]?=zo g->g.band.isSome=zq->G (lb n)/\xa w (lb n) g.line
 inj:∀n m,n<l.length->m<l.length->lb n=lb m->n=m
theorem AB.kept{lb:Nat->Nat}(h:AB w G lb l)(hk:xz G w w'):AB w' G lb l:=
 ⟨fun n g A hb=>⟨(h.ln n g A hb).1,(h.ln n g A hb).2.of (hk _ (h.ln n g A hb).2.lt (h.ln n g A hb).1)⟩,h.inj⟩
theorem AB.mono{lb:Nat->Nat}(h:AB w G lb l)(B:∀k,k<w.heap.size->G k->G' k):AB w G' lb l:=
 ⟨fun n g A hb=>⟨B _ (h.ln n g A hb).2.lt (h.ln n g A hb).1,(h.ln n g A hb).2⟩,h.inj⟩
structure AC(w:zu)(G:Nat->Prop)(cb:Nat->Nat)(vc:zz)(ps:Nat)(cs:Nat->Ck):Prop where
 row:qW w G 107 vc (xP cb ps)
 ck:∀p,p<ps->G (cb p)/\xO w (cb p) (cs p)
 inj:∀n m,n<ps->m<ps->cb n=cb m->n=m
theorem AC.kept{cb:Nat->Nat}{vc:zz}{ps:Nat}{cs:Nat->Ck}(h:AC w G cb vc ps cs)(hk:xz G w w'):AC w' G cb vc ps cs:=
 ⟨h.row.kept hk,fun n A=>⟨(h.ck n A).1,(h.ck n A).2.of (hk _ (h.ck n A).2.lt (h.ck n A).1)⟩,h.inj⟩
theorem AC.mono{cb:Nat->Nat}{vc:zz}{ps:Nat}{cs:Nat->Ck}(h:AC w G cb vc ps cs)(B:∀k,k<w.heap.size->G k->G' k):AC w G' cb vc ps cs:=
 ⟨h.row.mono B,fun n A=>⟨B _ (h.ck n A).2.lt (h.ck n A).1,(h.ck n A).2⟩,h.inj⟩
structure xt(w:zu)(G:Nat->Prop)(t tp:Nat)(s:Ps):Prop where
 x:PQ w 0 t tp s
 gt:G t
 gp:G tp
 row:∀z,PK w tp z->G z
theorem xt.kept{t B:Nat}{s:Ps}(h:xt w G t B s)(hk:xz G w w'):xt w' G t B s:=by obtain⟨v,A⟩:=h.x.has;have D:=hk B A.lt h.gp;refine⟨⟨(hk t h.x.lt h.gt).trans h.x.tb,⟨v,A.kept D fun g E=>hk g (A.own.lt g E).2 (h.row g ⟨v,A.cell.2.2.1,E⟩)⟩,h.x.lo⟩,h.gt,h.gp,fun z H=>h.row z (H.same D)⟩
theorem xt.mono{t D:Nat}{s:Ps}(h:xt w G t D s)(B:∀k,k<w.heap.size->G k->G' k):xt w G' t D s:=by obtain⟨v,A⟩:=h.x.has;exact⟨h.x,B t h.x.lt h.gt,B D A.lt h.gp,fun z E=>B z (A.own.lt z (A.rowIs E)).2 (h.row z E)⟩
structure xy(w:zu)(G:Nat->Prop)(p:Nat)(s:Pi.Ps):Prop where
 x:Pi.bE w 0 p 64 s
 gp:G p
 row:∀z,Pi.PK w p z->G z
theorem xy.lt{s:Pi.Ps}(h:xy w G p s):p<w.heap.size:=by obtain⟨v,A⟩:=h.x;exact A.lt
theorem xy.kept{s:Pi.Ps}(h:xy w G p s)(hk:xz G w w'):xy w' G p s:=by obtain⟨v,A⟩:=h.x;have B:=hk p A.lt h.gp;exact⟨⟨v,A.kept B fun g D=>hk g (A.own.lt g D).2 (h.row g ⟨v,A.cell.2.2.1,D⟩)⟩,h.gp,fun z E=>h.row z (E.same B)⟩
theorem xy.mono{s:Pi.Ps}(h:xy w G p s)(B:∀k,k<w.heap.size->G k->G' k):xy w G' p s:=by obtain⟨v,A⟩:=h.x;exact⟨h.x,B p A.lt h.gp,fun z D=>B z (A.own.lt z (A.rowIs D)).2 (h.row z D)⟩
abbrev Own(F:Nat->Prop)(tg:Nat->Nat)(c:Nat)(k:Nat):Prop:=F k/\tg k=c
structure SS(w:zu)(F:Nat->Prop)(s:Nat)(S:Sc)(L:Lay)(tg:Nat->Nat):Prop where
 sx:Sx w (Own F tg 0) s S L
 ts:AM w (Own F tg 1) L.tb L.gb L.vt S.ts
 gs:TU w (Own F tg 2) L.gb L.bb L.lb L.vg S.gs
 bs:TZ w (Own F tg 3) L.bb S.gs
 ls:AB w (Own F tg 4) L.lb S.gs
 cs:AC w (Own F tg 5) L.cb L.vc S.ps S.cs
 tr:xt w (Own F tg 6) L.t L.tp S.tree
 po:xy w (Own F tg 7) L.pp S.pool
 bk:xj w (Own F tg 8) L.bk S.book
 vh:qW w (Own F tg 0) 99 L.vh (xP L.hb S.ps)
 hs:∀p,p<S.ps->yT w (Own F tg (p+9)) (L.hb p) (S.hs p)
def yK(w:zu)(F:Nat->Prop)(s:Nat)(S:Sc)(L:Lay):Prop:=∃tg,SS w F s S L tg
def yV(tg:Nat->Nat)(w:zu)(c:Nat)(k:Nat):Nat:=if k<w.heap.size then tg k else c
theorem qz{X:zu->(Nat->Prop)->Prop}(hk:∀{w w':zu} {G:Nat->Prop},X w G->xz G w w'->X w' G)(E:∀{w:zu} {G G':Nat->Prop},X w G->(∀k,k<w.heap.size->G k->G' k)->X w G')
     (h:X w (Own F tg d)) (J:OA (Own F tg c) w w') (D:d≠c):X w' (Own (Ext F w w') (yV tg w c) d):=by
 have I:X w (fun k=>Own F tg d k/\k<w.heap.size):=E h fun k B A=>⟨A,B⟩
 have H:X w' (fun k=>Own F tg d k/\k<w.heap.size):=hk I fun k B A=>J.block k B fun e=>D (A.1.2.symm.trans e.2);exact E H fun k B A=>⟨.inl A.1.1,by show(if k<w.heap.size then tg k else c)=d;rw[if_pos A.2];exact A.1.2⟩
theorem ve{X:zu->(Nat->Prop)->Prop}(B:∀{w:zu} {G G':Nat->Prop},X w G->(∀k,k<w.heap.size->G k->G' k)->X w G')
     (h:X w' (Ext (Own F tg c) w w')):X w' (Own (Ext F w w') (yV tg w c) c):=
 B h fun k hl A=>by
  rcases A with A|A
  .exact⟨.inl A.1,by unfold yV;split;exact A.2;rfl⟩
  .exact⟨.inr A,by unfold yV;rw[if_neg (by omega)]⟩
theorem yK.kept{L:Lay}(h:yK w F s S L)(hk:xz F w w'):yK w' F s S L:=by obtain⟨tg,h⟩:=h;have A:∀c,xz (Own F tg c) w w':=fun c k E D=>hk k E D.1;exact⟨tg,h.sx.kept (A _),h.ts.kept (A _),h.gs.kept (A _),h.bs.kept (A _),h.ls.kept (A _),h.cs.kept (A _),h.tr.kept (A _),h.po.kept (A _),h.bk.kept (A _),h.vh.kept (A _),fun p B=>(h.hs p B).kept (A _)⟩
theorem yK.mono{B:Nat->Prop}{L:Lay}(h:yK w F s S L)(G:∀k,k<w.heap.size->F k->B k):yK w B s S L:=by
 obtain⟨tg,h⟩:=h;have A:∀c k,k<w.heap.size->Own F tg c k->Own B tg c k:=fun c k H D=>⟨G k H D.1,D.2⟩
 exact⟨tg,h.sx.mono (A _),h.ts.mono (A _),h.gs.mono (A _),h.bs.mono (A _),h.ls.mono (A _),h.cs.mono (A _),h.tr.mono (A _),h.po.mono (A _),h.bk.mono (A _),h.vh.mono (A _),fun p E=>(h.hs p E).mono (A _)⟩
def yG(w:zu)(F:Nat->Prop)(s:Nat)(A:Sc)(L:Lay)(w':zu):Prop:=yK w' (Ext F w w') s A L/\OA F w w'
theorem yG.refl{L:Lay}(h:yK w F s S L):yG w F s S L w:=⟨h.mono fun k _ A=>.inl A,.refl F w⟩
theorem yG.then{w1 D:zu}{H A:Sc}{L B:Lay}(a:yG w F s H L w1)(b:yG w1 (Ext F w w1) s A B D):yG w F s A B D:=
 ⟨b.1.mono fun k hk E=>Ext.trans a.2.size b.2.size k E,OA.exts (G:=F) a.2 b.2⟩
theorem yG.below{w1 B:zu}{D:Sc}{L:Lay}(a:yG w F s D L w1)(b:Below w1.heap.size w1 B):yG w F s D L B:=
 ⟨(
  a.1.kept (.NZ b)).mono fun k hk A=>by
  rcases A with A|⟨E,h2⟩
  .exact .inl A
  .exact .inr ⟨E,by have:=b.size;omega⟩,a.2.trans (OA.NZ b:OA F w1 B) fun k hk=>.inl hk⟩
theorem yG.NZ{w1 E:zu}{B:Sc}{D:Lay}(a:Below w.heap.size w w1)(b:yG w1 F s B D E):yG w F s B D E:=
 ⟨b.1.mono fun k hk A=>by
  rcases A with A|⟨h1,G⟩
  .exact .inl A
  .exact .inr ⟨by have:=a.size;omega,G⟩,(OA.NZ a:OA F w w1).trans b.2 fun k hk=>.inl hk⟩
theorem Sx.part{L:Lay}(h:Sx w (Own F tg d) s S L)(B:OA (Own F tg c) w w')(A:d≠c):Sx w' (Own (Ext F w w') (yV tg w c) d) s S L:=qz (X:=fun w G=>Sx w G s S L) Sx.kept Sx.mono h B A
theorem Sx.RD{L:Lay}(h:Sx w' (Ext (Own F tg c) w w') s S L):Sx w' (Own (Ext F w w') (yV tg w c) c) s S L:=ve (X:=fun w G=>Sx w G s S L) Sx.mono h
theorem AM.part{tb gb:Nat->Nat}{vt:zz}{l:List Tk}(h:AM w (Own F tg d) tb gb vt l)(B:OA (Own F tg c) w w')(A:d≠c):AM w' (Own (Ext F w w') (yV tg w c) d) tb gb vt l:=qz (X:=fun w G=>AM w G tb gb vt l) AM.kept AM.mono h B A
theorem AM.RD{tb gb:Nat->Nat}{vt:zz}{l:List Tk}(h:AM w' (Ext (Own F tg c) w w') tb gb vt l):AM w' (Own (Ext F w w') (yV tg w c) c) tb gb vt l:=ve (X:=fun w G=>AM w G tb gb vt l) AM.mono h
theorem TU.part{gb bb lb:Nat->Nat}{vg:zz}(h:TU w (Own F tg d) gb bb lb vg l)(B:OA (Own F tg c) w w')(A:d≠c):TU w' (Own (Ext F w w') (yV tg w c) d) gb bb lb vg l:=qz (X:=fun w G=>TU w G gb bb lb vg l) TU.kept TU.mono h B A
theorem TU.RD{gb bb lb:Nat->Nat}{vg:zz}(h:TU w' (Ext (Own F tg c) w w') gb bb lb vg l):TU w' (Own (Ext F w w') (yV tg w c) c) gb bb lb vg l:=ve (X:=fun w G=>TU w G gb bb lb vg l) TU.mono h
theorem TZ.part{bb:Nat->Nat}(h:TZ w (Own F tg d) bb l)(B:OA (Own F tg c) w w')(A:d≠c):TZ w' (Own (Ext F w w') (yV tg w c) d) bb l:=qz (X:=fun w G=>TZ w G bb l) TZ.kept TZ.mono h B A
theorem TZ.RD{bb:Nat->Nat}(h:TZ w' (Ext (Own F tg c) w w') bb l):TZ w' (Own (Ext F w w') (yV tg w c) c) bb l:=ve (X:=fun w G=>TZ w G bb l) TZ.mono h
theorem AB.part{lb:Nat->Nat}(h:AB w (Own F tg d) lb l)(B:OA (Own F tg c) w w')(A:d≠c):AB w' (Own (Ext F w w') (yV tg w c) d) lb l:=qz (X:=fun w G=>AB w G lb l) AB.kept AB.mono h B A
theorem AB.RD{lb:Nat->Nat}(h:AB w' (Ext (Own F tg c) w w') lb l):AB w' (Own (Ext F w w') (yV tg w c) c) lb l:=ve (X:=fun w G=>AB w G lb l) AB.mono h
theorem AC.part{cb:Nat->Nat}{vc:zz}{ps:Nat}{cs:Nat->Ck}(h:AC w (Own F tg d) cb vc ps cs)(B:OA (Own F tg c) w w')(A:d≠c):AC w' (Own (Ext F w w') (yV tg w c) d) cb vc ps cs:=qz (X:=fun w G=>AC w G cb vc ps cs) AC.kept AC.mono h B A
theorem AC.RD{cb:Nat->Nat}{vc:zz}{ps:Nat}{cs:Nat->Ck}(h:AC w' (Ext (Own F tg c) w w') cb vc ps cs):AC w' (Own (Ext F w w') (yV tg w c) c) cb vc ps cs:=ve (X:=fun w G=>AC w G cb vc ps cs) AC.mono h
theorem xt.part{t B:Nat}{x:Ps}(h:xt w (Own F tg d) t B x)(D:OA (Own F tg c) w w')(A:d≠c):xt w' (Own (Ext F w w') (yV tg w c) d) t B x:=qz (X:=fun w G=>xt w G t B x) xt.kept xt.mono h D A
theorem xt.RD{t A:Nat}{x:Ps}(h:xt w' (Ext (Own F tg c) w w') t A x):xt w' (Own (Ext F w w') (yV tg w c) c) t A x:=ve (X:=fun w G=>xt w G t A x) xt.mono h
theorem xy.part{x:Pi.Ps}(h:xy w (Own F tg d) p x)(B:OA (Own F tg c) w w')(A:d≠c):xy w' (Own (Ext F w w') (yV tg w c) d) p x:=qz (X:=fun w G=>xy w G p x) xy.kept xy.mono h B A
theorem xy.RD{x:Pi.Ps}(h:xy w' (Ext (Own F tg c) w w') p x):xy w' (Own (Ext F w w') (yV tg w c) c) p x:=ve (X:=fun w G=>xy w G p x) xy.mono h
theorem xj.part{x:Bk}(h:xj w (Own F tg d) p x)(B:OA (Own F tg c) w w')(A:d≠c):xj w' (Own (Ext F w w') (yV tg w c) d) p x:=qz (X:=fun w G=>xj w G p x) xj.kept xj.mono h B A
theorem xj.RD{x:Bk}(h:xj w' (Ext (Own F tg c) w w') p x):xj w' (Own (Ext F w w') (yV tg w c) c) p x:=ve (X:=fun w G=>xj w G p x) xj.mono h
theorem qW.part{e:TypeId}{l:List (Option Nat)}(h:qW w (Own F tg d) e v l)(B:OA (Own F tg c) w w')(A:d≠c):qW w' (Own (Ext F w w') (yV tg w c) d) e v l:=qz (X:=fun w G=>qW w G e v l) qW.kept qW.mono h B A
theorem qW.RD{e:TypeId}{l:List (Option Nat)}(h:qW w' (Ext (Own F tg c) w w') e v l):qW w' (Own (Ext F w w') (yV tg w c) c) e v l:=ve (X:=fun w G=>qW w G e v l) qW.mono h
theorem yT.part{x:Hm}(h:yT w (Own F tg d) p x)(B:OA (Own F tg c) w w')(A:d≠c):yT w' (Own (Ext F w w') (yV tg w c) d) p x:=qz (X:=fun w G=>yT w G p x) yT.kept yT.mono h B A
theorem yT.RD{x:Hm}(h:yT w' (Ext (Own F tg c) w w') p x):yT w' (Own (Ext F w w') (yV tg w c) c) p x:=ve (X:=fun w G=>yT w G p x) yT.mono h
theorem Sx.of{A:Sc}{L:Lay}(h:Sx w G s S L)(e:A.ps=S.ps/\A.tick=S.tick/\A.gran=S.gran/\A.credit=S.credit/\A.lat=S.lat/\A.pl=S.pl/\A.at_=S.at_):Sx w G s A L:=by obtain⟨D,M,E,I,B,H,J⟩:=e;exact⟨h.ty,h.own,by rw[D];exact h.c0,by rw[M];exact h.c1,by rw[E];exact h.c2,by rw[I];exact h.c3,by rw[B];exact h.c4,h.c5,h.c6,h.c7,h.c8,by rw[H];exact h.pl,by rw[J];exact h.at_,h.vh,h.vc,h.bk⟩
theorem Yf(h:Own F tg c b)(A:OA (fun k=>k=b) w w'):OA (Own F tg c) w w':=A.mono fun k hk=>by rw[hk];exact h
theorem Ts{α:Type}(l:List α)(n m:Nat)(x d:α)(h:n<l.length):(l.set n x).getD m d=if m=n then x else l.getD m d:=by
 simp only[zH];by_cases e:m=n
 .subst e;simp[h]
 .rw[zC (Ne.symm e),if_neg e]
theorem xh{α:Type}{l:List α}{x y:α}(h:(l.set n x)[m]?=zo y):(m=n/\y=x)∨(m≠n/\l[m]?=zo y):=by
 by_cases e:m=n
 .subst e;have A:=(yy h).1;rw[zT (by simpa using A)]at h;exact .inl ⟨rfl,(Option.some.inj h).symm⟩
 .rw[zC (Ne.symm e)]at h;exact .inr ⟨e,h⟩
theorem KQ(tb:Nat->Nat)(l:List Tk)(n:Nat)(t:Tk):qK tb (l.set n t)=qK tb l:=by simp[qK]
theorem Us(gb:Nat->Nat)(l:List Gp){g':Gp}(A:l[n]?=zo g)(h:g'.there=g.there):xL gb (l.set n g')=xL gb l:=by
 have B:=(yy A).1;unfold xL;rw[List.length_set];refine List.map_congr_left fun m _=>?_;rw[Ts _ _ _ _ _ B];split
 .rename_i e;subst e;rw[zH,A,h];rfl
 .rfl
theorem SS.AU{L:Lay}(h:SS w F s S L tg){t t':Tk}(E:S.ts[n]?=zo t)(B:OA (fun k=>k=L.tb n) w w')(U:RR w' (L.tb n) L.gb t'):yG w F s (S.OY n t') L w':=by
 obtain⟨I,hk⟩:=h.ts.tk n t E;have A:=Yf I B;have M:AM w' (Ext (Own F tg 1) w w') L.tb L.gb L.vt (S.ts.set n t'):=by
  refine⟨?_,?_,fun a b X hb=>h.ts.inj a b (by simpa using X) (by simpa using hb)⟩
  .rw[KQ];refine⟨⟨h.ts.row.row.1,?_⟩,fun k hk=>.inl (h.ts.row.own k hk)⟩;rcases h.ts.row.row.2 with E|⟨g,H,cur,V,hb,J,T⟩
   .exact .inl E
   .refine .inr ⟨g,H,cur,V,hb,?_,T⟩;rw[B.block g (yx J).1 ?_];exact J;rintro rfl;unfold RR at hk;rw[J]at hk;simp only[ya,yo]at hk;exact absurd hk.2.1 (by decide)
  .intro m y D;rcases xh D with⟨rfl,rfl⟩|⟨G,D⟩
   .exact⟨.inl I,U⟩
   .obtain⟨O,N⟩:=h.ts.tk m y D;exact⟨.inl O,N.of (B.block _ N.lt fun e=>G (h.ts.inj m n (yy D).1 (yy E).1 e))⟩
 exact⟨⟨yV tg w 1,(h.sx.part A (by decide)).of ⟨rfl,rfl,rfl,rfl,rfl,rfl,rfl⟩,M.RD,h.gs.part A (by decide),h.bs.part A (by decide),h.ls.part A (by decide),h.cs.part A (by decide),h.tr.part A (by decide),h.po.part A (by decide),h.bk.part A (by decide),h.vh.part A (by decide),fun p R=>(h.hs p R).part A (by omega)⟩,B.mono fun k hk=>by rw[hk];exact I.1⟩
theorem SS.AG{L:Lay}(h:SS w F s S L tg){g':Gp}(H:S.gs[n]?=zo g)(hb:g'.band=g.band)(c:g'.line=g.line)(N:g'.there=g.there)(M:OA (fun k=>k=L.gb n) w w')(f:bG w' (L.gb n) n (L.bb n) (L.lb n) g'):yG w F s (S.OF n g') L w':=by
 obtain⟨R,hk⟩:=h.gs.gp n g H;have T:=(yy H).1;have D:=Yf R M;have V:TU w' (Ext (Own F tg 2) w w') L.gb L.bb L.lb L.vg (S.gs.set n g'):=by
  refine⟨?_,?_,fun a b J hb=>h.gs.inj a b (by simpa using J) (by simpa using hb)⟩
  .rw[Us _ _ H N];refine⟨⟨h.gs.row.row.1,?_⟩,fun k hk=>.inl (h.gs.row.own k hk)⟩;rcases h.gs.row.row.2 with H|⟨r,O,cur,j,hb,U,d⟩
   .exact .inl H
   .refine .inr ⟨r,O,cur,j,hb,?_,d⟩;rw[M.block r (yx U).1 ?_];exact U;rintro rfl;unfold bG at hk;rw[U]at hk;simp only[ya,yo]at hk;exact absurd hk.2.1 (by decide)
  .intro m y A;rcases xh A with⟨rfl,rfl⟩|⟨G,A⟩
   .exact⟨.inl R,f⟩
   .obtain⟨Y,X⟩:=h.gs.gp m y A;exact⟨.inl Y,X.of (M.block _ X.lt fun e=>G (h.gs.inj m n (yy A).1 T e))⟩
 have E:=h.bs.part D (by decide);have I:=h.ls.part D (by decide);refine⟨⟨yV tg w 2,(h.sx.part D (by decide)).of ⟨rfl,rfl,rfl,rfl,rfl,rfl,rfl⟩,h.ts.part D (by decide),V.RD,⟨?_,fun a b J hb=>E.inj a b (by simpa[Sc.OF]using J) (by simpa[Sc.OF]using hb)⟩,⟨?_,fun a b J hb=>I.inj a b (by simpa[Sc.OF]using J) (by simpa[Sc.OF]using hb)⟩,h.cs.part D (by decide),h.tr.part D (by decide),h.po.part D (by decide),h.bk.part D (by decide),h.vh.part D (by decide),fun p Z=>(h.hs p Z).part D (by omega)⟩,M.mono fun k hk=>by rw[hk];exact R.1⟩
 .intro m y b A B;rcases xh A with⟨rfl,rfl⟩|⟨G,A⟩
  .exact E.bd m g b H (hb▸B)
  .exact E.bd m y b A B
 .intro m y A B;rcases xh A with⟨rfl,rfl⟩|⟨G,A⟩
  .rw[c];exact I.ln m g H (hb▸B)
  .exact I.ln m y A B
theorem Ow{bb lb:Nat}{b A:TL}(hb:g.band=zo b):Kw n bb lb (g.ON A)=Kw n bb lb g:=by simp[Gp.ON,hb]
theorem SS.cC{L:Lay}(h:SS w F s S L tg){b I:TL}(J:S.gs[n]?=zo g)(hb:g.band=zo b)(R:OA (fun k=>k=L.bb n) w w')(Y:Qt.OC w' (L.bb n) I):yG w F s (S.OF n (g.ON I)) L w':=by
 obtain⟨U,hk⟩:=h.bs.bd n g b J hb;have V:=(yy J).1;have B:=Yf U R;have E:=h.gs.part B (by decide);have H:=h.ls.part B (by decide);have O:TZ w' (Ext (Own F tg 3) w w') L.bb (S.gs.set n (g.ON I)):=by
  refine⟨?_,fun a b N hb=>h.bs.inj a b (by simpa using N) (by simpa using hb)⟩;intro m y c A D;rcases xh A with⟨rfl,rfl⟩|⟨G,A⟩
  .obtain rfl:I=c:=Option.some.inj D;exact⟨.inl U,Y⟩
  .obtain⟨T,M⟩:=h.bs.bd m y c A D;exact⟨.inl T,M.kept (R.block _ M.lt fun e=>G (h.bs.inj m n (yy A).1 V e))⟩
 refine⟨⟨yV tg w 3,(h.sx.part B (by decide)).of ⟨rfl,rfl,rfl,rfl,rfl,rfl,rfl⟩,h.ts.part B (by decide),⟨?_,?_,fun a b N hb=>E.inj a b (by simpa[Sc.OF]using N) (by simpa[Sc.OF]using hb)⟩,O.RD,⟨?_,fun a b N hb=>H.inj a b (by simpa[Sc.OF]using N) (by simpa[Sc.OF]using hb)⟩,h.cs.part B (by decide),h.tr.part B (by decide),h.po.part B (by decide),h.bk.part B (by decide),h.vh.part B (by decide),fun p X=>(h.hs p X).part B (by omega)⟩,R.mono fun k hk=>by rw[hk];exact U.1⟩
 .show qW _ _ _ _ (xL L.gb (S.gs.set n (g.ON I)));rw[Us (g:=g) (g':=g.ON I) _ _ J rfl];exact E.row
 .intro m y A;rcases xh A with⟨rfl,rfl⟩|⟨G,A⟩
  .obtain⟨T,M⟩:=E.gp m g J;refine⟨T,?_⟩;unfold bG at M ⊢;rw[Ow hb];exact M
  .exact E.gp m y A
 .intro m y A D;rcases xh A with⟨rfl,rfl⟩|⟨G,A⟩
  .exact H.ln m g J (by rw[hb];rfl)
  .exact H.ln m y A D
theorem SS.dR{L:Lay}(h:SS w F s S L tg){M:List Nat}(I:S.gs[n]?=zo g)(hb:g.band.isSome=zq)(N:OA (fun k=>k=L.lb n) w w')(Y:xa w' (L.lb n) M):yG w F s (S.OF n (g.OP M)) L w':=by
 obtain⟨O,hk⟩:=h.ls.ln n g I hb;have R:=(yy I).1;have B:=Yf O N;have E:=h.gs.part B (by decide);have G:=h.bs.part B (by decide);have T:AB w' (Ext (Own F tg 4) w w') L.lb (S.gs.set n (g.OP M)):=by
  refine⟨?_,fun a b J hb=>h.ls.inj a b (by simpa using J) (by simpa using hb)⟩;intro m y A D;rcases xh A with⟨rfl,rfl⟩|⟨H,A⟩
  .exact⟨.inl O,Y⟩
  .obtain⟨V,U⟩:=h.ls.ln m y A D;exact⟨.inl V,U.of (N.block _ U.lt fun e=>H (h.ls.inj m n (yy A).1 R e))⟩
 refine⟨⟨yV tg w 4,(h.sx.part B (by decide)).of ⟨rfl,rfl,rfl,rfl,rfl,rfl,rfl⟩,h.ts.part B (by decide),⟨?_,?_,fun a b J hb=>E.inj a b (by simpa[Sc.OF]using J) (by simpa[Sc.OF]using hb)⟩,⟨?_,fun a b J hb=>G.inj a b (by simpa[Sc.OF]using J) (by simpa[Sc.OF]using hb)⟩,T.RD,h.cs.part B (by decide),h.tr.part B (by decide),h.po.part B (by decide),h.bk.part B (by decide),h.vh.part B (by decide),fun p X=>(h.hs p X).part B (by omega)⟩,N.mono fun k hk=>by rw[hk];exact O.1⟩
 .show qW _ _ _ _ (xL L.gb (S.gs.set n (g.OP M)));rw[Us (g:=g) (g':=g.OP M) _ _ I rfl];exact E.row
 .intro m y A;rcases xh A with⟨rfl,rfl⟩|⟨H,A⟩
  .exact E.gp m g I
  .exact E.gp m y A
 .intro m y b A D;rcases xh A with⟨rfl,rfl⟩|⟨H,A⟩
  .exact G.bd m g b I D
  .exact G.bd m y b A D
theorem SS.eC{L:Lay}(h:SS w F s S L tg){E:Ck}(D:p<S.ps)(B:OA (fun k=>k=L.cb p) w w')(U:xO w' (L.cb p) E):yG w F s (S.PZ p E) L w':=by
 obtain⟨H,hk⟩:=h.cs.ck p D;have A:=Yf H B;have J:AC w' (Ext (Own F tg 5) w w') L.cb L.vc S.ps (OV S.cs p E):=by
  refine⟨?_,?_,h.cs.inj⟩
  .refine⟨⟨h.cs.row.row.1,?_⟩,fun k hk=>.inl (h.cs.row.own k hk)⟩;rcases h.cs.row.row.2 with V|⟨r,G,cur,X,hb,I,T⟩
   .exact .inl V
   .refine .inr ⟨r,G,cur,X,hb,?_,T⟩;rw[B.block r (yx I).1 ?_];exact I;rintro rfl;unfold xO at hk;rw[I]at hk;simp only[ya,yo]at hk;exact absurd hk.2.1 (by decide)
  .intro q M;by_cases e:q=p
   .subst e;rw[yR];exact⟨.inl H,U⟩
   .rw[yQ _ _ e];obtain⟨R,N⟩:=h.cs.ck q M;exact⟨.inl R,N.of (B.block _ N.lt fun O=>e (h.cs.inj q p M D O))⟩
 exact⟨⟨yV tg w 5,(h.sx.part A (by decide)).of ⟨rfl,rfl,rfl,rfl,rfl,rfl,rfl⟩,h.ts.part A (by decide),h.gs.part A (by decide),h.bs.part A (by decide),h.ls.part A (by decide),J.RD,h.tr.part A (by decide),h.po.part A (by decide),h.bk.part A (by decide),h.vh.part A (by decide),fun p D=>(h.hs p D).part A (by omega)⟩,B.mono fun k hk=>by rw[hk];exact H.1⟩
theorem SS.updH{L:Lay}(h:SS w F s S L tg){x:Hm}(hp:p<S.ps)(B:qv w (Own F tg (p+9)) (L.hb p) x w'):yG w F s (S.OM p x) L w':=by
 have A:=B.2;refine⟨⟨yV tg w (p+9),(h.sx.part A (by omega)).of ⟨rfl,rfl,rfl,rfl,rfl,rfl,rfl⟩,h.ts.part A (by omega),h.gs.part A (by omega),h.bs.part A (by omega),h.ls.part A (by omega),h.cs.part A (by omega),h.tr.part A (by omega),h.po.part A (by omega),h.bk.part A (by omega),h.vh.part A (by omega),fun q D=>?_⟩,A.mono fun k hk=>hk.1⟩;show yT w' _ (L.hb q) (OV S.hs p x q);by_cases e:q=p
 .subst e;rw[yR];exact B.1.RD
 .rw[yQ _ _ e];exact(h.hs q D).part A (by omega)
theorem SS.updK{L:Lay}(h:SS w F s S L tg){x:Bk}(D:xj w' (Ext (Own F tg 8) w w') L.bk x)(A:OA (Own F tg 8) w w'):yG w F s { S with book:=x } L w':=
 ⟨⟨yV tg w 8,(h.sx.part A (by omega)).of ⟨rfl,rfl,rfl,rfl,rfl,rfl,rfl⟩,h.ts.part A (by omega),h.gs.part A (by omega),h.bs.part A (by omega),h.ls.part A (by omega),h.cs.part A (by omega),h.tr.part A (by omega),h.po.part A (by omega),D.RD,h.vh.part A (by omega),fun q B=>(h.hs q B).part A (by omega)⟩,A.mono fun k hk=>hk.1⟩
theorem EZ{x x':Pi.Ps}(h:xy w G p x)(hs:Pi.OB 0 p w w')(E:Pi.bE w' 0 p 64 x'):OA G w w'/\xy w' (Ext G w w') p x':=by
 refine⟨hs.RB.mono fun k hk=>?_,E,.inl h.gp,fun z H=>?_⟩
 .rcases hk with rfl|⟨_,I⟩
  .exact h.gp
  .exact h.row k I
 .obtain⟨v,D⟩:=E;have B:=(D.own.lt z (D.rowIs H)).2;by_cases A:z<w.heap.size
  .exact .inl (h.row z (hs.row h.lt z A H))
  .exact .inr ⟨by omega,B⟩
theorem FA{t:Nat}{x x':Ps}(h:xt w G t p x)(hs:OB 0 p w w')(E:PQ w' 0 t p x'):OA G w w'/\xt w' (Ext G w w') t p x':=by
 refine⟨hs.RB.mono fun k hk=>?_,E,.inl h.gt,.inl h.gp,fun z H=>?_⟩
 .rcases hk with rfl|⟨_,I⟩
  .exact h.gp
  .exact h.row k I
 .obtain⟨v,D⟩:=E.has;have B:=(D.own.lt z (D.rowIs H)).2;by_cases A:z<w.heap.size
  .exact .inl (h.row z (hs.row h.x.has.lt z A H))
  .exact .inr ⟨by omega,B⟩
theorem SS.bC{L:Lay}(h:SS w F s S L tg){x:Pi.Ps}(hs:Pi.OB 0 L.pp w w')(B:Pi.bE w' 0 L.pp 64 x):yG w F s { S with pool:=x } L w':=by obtain⟨A,B⟩:=EZ h.po hs B;exact⟨⟨yV tg w 7,(h.sx.part A (by omega)).of ⟨rfl,rfl,rfl,rfl,rfl,rfl,rfl⟩,h.ts.part A (by omega),h.gs.part A (by omega),h.bs.part A (by omega),h.ls.part A (by omega),h.cs.part A (by omega),h.tr.part A (by omega),B.RD,h.bk.part A (by omega),h.vh.part A (by omega),fun q D=>(h.hs q D).part A (by omega)⟩,A.mono fun k hk=>hk.1⟩
theorem SS.updR{L:Lay}(h:SS w F s S L tg){x:Ps}(hs:OB 0 L.tp w w')(B:PQ w' 0 L.t L.tp x):yG w F s { S with tree:=x } L w':=by obtain⟨A,B⟩:=FA h.tr hs B;exact⟨⟨yV tg w 6,(h.sx.part A (by omega)).of ⟨rfl,rfl,rfl,rfl,rfl,rfl,rfl⟩,h.ts.part A (by omega),h.gs.part A (by omega),h.bs.part A (by omega),h.ls.part A (by omega),h.cs.part A (by omega),B.RD,h.po.part A (by omega),h.bk.part A (by omega),h.vh.part A (by omega),fun q D=>(h.hs q D).part A (by omega)⟩,A.mono fun k hk=>hk.1⟩
abbrev ptr(b:Nat):zz:=ze (zo ⟨b,0,zp⟩)
abbrev Yg(f:Nat->Nat)(x:Option Nat):zz:=ze (x.map fun n=>⟨f n,0,zp⟩)
theorem xG(a:Int)(w:zu)(F:Nat->Prop)(s:Nat)(S:Sc)(L:Lay)(h:yK w F s S L)(hn:S.gs.length<=100000):
 zw prog 27 #[ptr s,zd zj a] w fun z w'=>z=zm (Yg L.gb (S.grp? a))/\w'=w:=by
 obtain⟨tg,h⟩:=h;have G:=h.sx.c8;obtain⟨va,vc,B⟩:=h.gs.row.len;rw[xo]at B;by_cases h0:a<0
 .have e:S.grp? a=zp:=by unfold Sc.grp?;rw[if_neg (by omega)]
  rw[e];rw[B]at G;clear h B e;go_enter func27,ntmps27;go_wp2;go_ret;exact⟨rfl,rfl⟩
 .by_cases h1:(S.gs.length:Int)<=a
  .have e:S.grp? a=zp:=by unfold Sc.grp?;rw[if_neg (by omega)]
   rw[e];rw[B]at G;clear h B e;go_enter func27,ntmps27;go_wp2;go_ret;exact⟨rfl,rfl⟩
  .obtain⟨k,rfl⟩:∃k:Nat,a=k:=⟨a.toNat,by omega⟩
   have hk:k<S.gs.length:=by omega
   obtain⟨r,h2,A,J,h4⟩:=h.gs.row.at_ (Ye hk);rw[xo]at A;rw[A]at G;have E:(k:Int) <(S.gs.length:Int):=by omega
   have e:S.grp? (k:Int)=if(S.gs.getD k gL).there=zq then zo k else zp:=by
    unfold Sc.grp?;by_cases D:(S.gs.getD k gL).there=zq
    .rw[if_pos D,if_pos ⟨by omega,E,D⟩];simp
    .rw[if_neg D,if_neg];rintro⟨_,_,M⟩;exact D M
   rw[e];have H:(Option.map (fun b=>(⟨b,0,zp⟩:Addr)) (if(S.gs.getD k gL).there=zq then zo (L.gb k)else zp))=Option.map (fun n=>(⟨L.gb n,0,zp⟩:Addr)) (if(S.gs.getD k gL).there=zq then zo k else zp):=by split<;>rfl
   rw[H]at J;obtain⟨x,I⟩:=yB (Option.map (fun n=>(⟨L.gb n,0,zp⟩:Addr)) (if(S.gs.getD k gL).there=zq then zo k else zp))
   unfold Yg;rw[<-I]at J ⊢;clear h B A e H I;go_enter func27,ntmps27;go_wp2;go_ret;exact⟨rfl,rfl⟩
theorem uu(p:Int)(w:zu)(F:Nat->Prop)(s:Nat)(S:Sc)(L:Lay)(h:yK w F s S L):
 zw prog 58 #[ptr s,zd zj p] w fun z w'=>z=zm (zh (decide (S.TN p)))/\w'=w:=by
 obtain⟨tg,h⟩:=h;have c0:=h.sx.c0;clear h;by_cases h0:p<0
 .have e:decide (S.TN p)=zt:=decide_eq_false (fun h=>by unfold Sc.TN at h;omega);rw[e];go_enter func58,ntmps58;go_wp2;go_ret;exact⟨rfl,rfl⟩
 .by_cases h1:p<S.ps
  .have e:decide (S.TN p)=zq:=decide_eq_true (by unfold Sc.TN;omega);rw[e];go_enter func58,ntmps58;go_wp2;go_ret;exact⟨rfl,rfl⟩
  .have e:decide (S.TN p)=zt:=decide_eq_false (fun h=>by unfold Sc.TN at h;omega);rw[e];go_enter func58,ntmps58;go_wp2;go_ret;exact⟨rfl,rfl⟩
theorem Bn{h:Hm}(hk:h.Ok)(A:h.running≠ -1):∃(i:Nat) (j:Nat),h.running=i/\i<64/\h.even j i:=by
 unfold Hm.running Ku at A ⊢;rcases Dm .id .id 9 hk 0 with B|⟨j,i,⟨h1,D,h3,E⟩|B⟩
 .rw[if_pos B]at A;exact absurd rfl A
 .rw[if_neg (by omega)];exact⟨i.toNat,j,by omega,by omega,by rw[Int.toNat_of_nonneg D];exact E⟩
 .rw[if_pos B]at A;exact absurd rfl A
theorem Kb{e:TypeId}(h:qW w G e v (xP f n))(hk:k<n):∃r A,v=zf (zo ⟨r,0,zp⟩) n A/\w.cell? ⟨r,k,zp⟩=zo (ptr (f k))/\r<w.heap.size:=by obtain⟨r,A,B,D,E⟩:=h.at_ (UY hk);rw[uf]at B;exact⟨r,A,B,D,E⟩
theorem xT(p:Int)(w:zu)(F:Nat->Prop)(s:Nat)(S:Sc)(L:Lay)(h:yK w F s S L):
 zw prog 22 #[ptr s,zd zj p] w fun z w'=>z=zm (zd zj (if S.TN p then S.running p.toNat else -1))/\Below w.heap.size w w':=by
 have I:=yw (uu p w F s S L h);by_cases A:S.TN p
 .have e:decide (S.TN p)=zq:=by simp[A]
  rw[e]at I;rw[if_pos A];obtain⟨k,rfl⟩:∃k:Nat,p=k:=⟨p.toNat,by have:=A.1;omega⟩
  have hk:k<S.ps:=by have:=A.2;omega
  rw[zI];obtain⟨tg,h⟩:=h;have O:=h.sx.vh;have R:=h.sx.lt;obtain⟨r,h1,V,Z,H⟩:=Kb h.vh hk;rw[V]at O;have h0:(k:Int) <(S.ps:Int):=by omega
  have J:=yw (ue w _ _ _ (h.hs k hk));have B:=h.sx.at_;by_cases T:(S.hs k).running= -1
  .have E:S.running k= -1:=by unfold Sc.running;rw[if_pos (by omega)]
   rw[E];rw[T]at J;clear h V B A e E;go_enter func22,ntmps22;go_wp2_with fail;refine I.out.mono ?_;rintro z X ⟨rfl,G⟩;obtain rfl:=G.symm;go_wp2_with fail;refine J.out.mono ?_;rintro z X ⟨rfl,hb⟩;have N:=yw hb;clear hb O R Z H;go_wp2;go_ret;exact⟨rfl,N.out⟩
  .obtain⟨i,j,U,D,M⟩:=Bn (h.hs k hk).2 T;have E:S.running k=S.at_ i:=by unfold Sc.running;rw[if_neg (by omega),U];rfl
   rw[E];rw[U]at J;have Y:=B i D;have h2:(i:Int) <64:=by omega
   clear h V B A e E T U M;go_enter func22,ntmps22;go_wp2_with fail;refine I.out.mono ?_;rintro z X ⟨rfl,G⟩;obtain rfl:=G.symm;go_wp2_with fail;refine J.out.mono ?_;rintro z w3 ⟨rfl,hb⟩;have N:=yw hb;have h3:=((Lb hb).1 s (41+i) R).trans Y;clear hb O R Z H Y;go_wp2;go_ret;exact⟨rfl,N.out⟩
 .have e:decide (S.TN p)=zt:=by simp[A]
  rw[e]at I;rw[if_neg A];clear h e A;go_enter func22,ntmps22;go_wp2_with fail;refine I.out.mono ?_;rintro z X ⟨rfl,G⟩;obtain rfl:=G.symm;go_wp2;go_ret;exact⟨rfl,zU _ _⟩
structure Hi(s:Sc)(n:Nat)(t:Tk):Prop where
 OG:∃g,s.gs[t.OG]?=zo g/\g.there=zq
 pool:∃q,s.pool.l[t.hi]?=zo q/\q.used=zq/\q.gen=t.hg
 hi:t.hi<64
 at_:s.at_ t.hi=n
 TC:t.p<s.ps
 wt:2<=t.w/\t.w<=262144
 mask:0<=t.mask/\t.mask<=18446744073709551615
 e:t.e.Ok/\t.e.id=t.hi
 nice: -20<=t.nice/\t.nice<=19
 min: -9223372036854775808<=t.min/\t.min<=9223372036854775807
structure NF(s:Sc)(k:Nat)(g:Gp):Prop where
 shares:2<=g.shares/\g.shares<=262144
 band:∃b,g.band=zo b/\b.l.length=s.ps/\vB k b
 line:(∀p∈g.line,p<s.ps)/\g.line.Nodup
structure FF(k:Bk)(b:Nat):Prop where
 bt:∀n,0<=k.bt n/\k.bt n<=k.total
 bg:∀n,0<=k.bg n/\k.bg n<=k.total
 total:0<=k.total/\k.total<=1000000000*(b:Int)
 many:k.n<=13*b
structure Sc.Ok(s:Sc)(b:Nat):Prop where
 RY:b<=900
 ps:1<=s.ps/\s.ps<=64
 tick:1<=s.tick/\s.tick<=1000000000
 credit:0<=s.credit/\s.credit<=1000000000
 lat:1<=s.lat/\s.lat<=1000000000
 tr:Tr s.tree.l
 tok:s.tree.Ok 32 (b+2)
 dA:s.pool.Ok 64 (b+2)
 tl:s.ts.length<=b
 gl:1<=s.gs.length/\s.gs.length<=b+1
 g0:∃g,s.gs[0]?=zo g/\g.hi=0/\g.hg=0/\g.there=zq/\g.band=zp
 gk:∀(n:Nat) (g:Gp),s.gs[n]?=zo g->g.there=zq->(∃q,s.tree.l[g.hi]?=zo q/\q.used=zq/\q.gen=g.hg)/\s.pl g.hi=zo n
 pl:∀(i n:Nat),s.pl i=zo n->∃g:Gp,s.gs[n]?=zo g/\g.there=zq/\g.hi=i
 gu:∀i q,s.tree.l[i]?=zo q->q.used=zq->∃n,s.pl i=zo n
 gx:∀(n:Nat) (g:Gp),s.gs[n]?=zo g->g.there=zq->n≠0->NF s b g
 tk:∀(n:Nat) (t:Tk),s.ts[n]?=zo t->t.dead=zt->Hi s n t
 dead:∀(n:Nat) (t:Tk),s.ts[n]?=zo t->t.on=zq->t.dead=zt
 hk:∀p,p<s.ps->∀i,((s.hs p).gs i).isSome=(s.pl i).isSome
 hu:∀p,p<s.ps->∀i x,(s.hs p).gs i=zo x->i≠0->x.up=TA s.tree.l i/\x.deep=dep s.tree.l i
 hc:∀p,p<s.ps->(s.hs p).credit=s.credit
 hf:∀p,p<s.ps->(s.hs p).PD
 ev:∀p,p<s.ps->∀i k:Nat,(s.hs p).even i k↔∃(n:Nat) (t:Tk) (g:Gp),s.ts[n]?=zo t/\t.on=zq/\t.p=p/\s.gs[t.OG]?=zo g/\g.hi=i/\t.hi=k
 ck:∀p,p<s.ps->Xj b (s.cs p)/\(s.cs p).lat=s.lat
 bk:FF s.book b
theorem Sc.RV{s:Sc}{t:Tk}(h:s.ts[n]?=zo t):s.t n=t:=by simp[Sc.t,zH,h]
theorem Sc.PE{s:Sc}(h:s.gs[n]?=zo g):s.g n=g:=by simp[Sc.g,zH,h]
theorem Sc.Ok.hi{s:Sc}(h:s.Ok b)(B:s.gs[n]?=zo g)(D:g.there=zq):g.hi<32:=by obtain⟨⟨q,A,_⟩,_⟩:=h.gk n g B D;have:=(yy A).1;have:=h.tok.room;omega
theorem Sc.Ok.find{s:Sc}(h:s.Ok b)(D:s.gs[n]?=zo g)(G:g.there=zq):s.tree.find g.hi g.hg=zo g.hi:=by obtain⟨⟨q,B,E,A⟩,_⟩:=h.gk n g D G;unfold Ps.find;rw[zI,B];simp[E,A]
theorem Sc.Ok.on{s:Sc}(h:s.Ok b){t:Tk}(A:s.ts[n]?=zo t)(B:t.on=zq):Hi s n t:=h.tk n t A (h.dead n t A B)
theorem Sc.Ok.runs{s:Sc}(h:s.Ok b)(J:p<s.ps)(hk:(s.hs p).Ok)(A:s.running p≠ -1):∃(n:Nat) (t:Tk),s.running p=(n:Nat)/\s.ts[n]?=zo t/\t.on=zq/\t.p=p/\(s.hs p).running≠ -1:=by
 unfold Sc.running at A ⊢;by_cases G:(s.hs p).running<0
 .rw[if_pos G]at A;exact absurd rfl A
 .rw[if_neg G];obtain⟨i,j,I,h2,M⟩:=Bn hk (by omega);obtain⟨n,t,g,E,H,D,hg,h4,B⟩:=(h.ev p J j i).1 M;refine⟨n,t,?_,E,H,D,by omega⟩;have:=(h.on E H).at_;rw[B]at this;rw[I,zI,this]
theorem Hj{s:Sc}{g p:Nat}:∀(l:List Tk),(∀t∈l,t.on=zq->2<=t.w/\t.w<=262144)->0<=s.RC g p l/\s.RC g p l<=262144*(l.length:Int)
 | [],_=>⟨by simp[Sc.RC],by simp[Sc.RC]⟩
 | t::r,h=>by
  have ih:=Hj (s:=s) (g:=g) (p:=p) r fun t B=>h t (List.mem_cons_of_mem _ B);have A:=h t List.mem_cons_self;unfold Sc.RC;rw[List.length_cons];split
  .rename_i D;have:=A D.1;omega
  .omega
theorem Sc.Ok.load{s:Sc}(h:s.Ok b)(g p:Nat):0<=s.load g p/\s.load g p<=4294967296:=by
 have:=Hj (s:=s) (g:=g) (p:=p) s.ts fun t B A=>by obtain⟨n,D⟩:=List.getElem?_of_mem B;exact(h.on D A).wt
 have:=h.tl;have:=h.RY;unfold Sc.load;omega
theorem Sc.Ok.OZ{s:Sc}(h:s.Ok b):Ws s.OZ/\s.OZ.length=s.ps:=by refine⟨fun x A=>?_,by simp[Sc.OZ]⟩;obtain⟨p,_,rfl⟩:=yh.1 A;exact h.load 0 p
theorem yK.behind{L:Lay}(h:yK w F s S L)(hb:Below w.heap.size w w'):yK w' F s S L:=h.kept (.NZ hb)
theorem yK.tk{L:Lay}(h:yK w F s S L){t:Tk}(A:S.ts[n]?=zo t):RR w (L.tb n) L.gb t:=by obtain⟨tg,h⟩:=h;exact(h.ts.tk n t A).2
theorem yK.gp{L:Lay}(h:yK w F s S L)(A:S.gs[n]?=zo g):bG w (L.gb n) n (L.bb n) (L.lb n) g:=by obtain⟨tg,h⟩:=h;exact(h.gs.gp n g A).2
theorem yK.dW{L:Lay}(h:yK w F s S L):PQ w 0 L.t L.tp S.tree/\w.cell? ⟨s,5,zp⟩=zo (ptr L.t)/\s<w.heap.size:=by obtain⟨tg,h⟩:=h;exact⟨h.tr.x,h.sx.c5,h.sx.lt⟩
theorem yK.RN{L:Lay}(h:yK w F s S L):(∃a c,L.vt=zf a S.ts.length c)/\w.cell? ⟨s,7,zp⟩=zo L.vt/\∀n,n<S.ts.length->∃r A,L.vt=zf (zo ⟨r,0,zp⟩) S.ts.length A/\w.cell? ⟨r,n,zp⟩=zo (ptr (L.tb n))/\r<w.heap.size:=by
 obtain⟨tg,h⟩:=h;refine⟨?_,h.sx.c7,fun n H=>?_⟩
 .obtain⟨a,c,B⟩:=h.ts.row.len;rw[uA]at B;exact⟨a,c,B⟩
 .obtain⟨r,A,D,E,G⟩:=h.ts.row.at_ (KP H);rw[uA]at D;exact⟨r,A,D,E,G⟩
theorem Hk(s:Sc)(g p:Nat)(t:Tk):∀l,s.RC g p (l++ [t])=s.RC g p l+(if t.on=zq/\t.p=p/\s.sub t.OG g=zq then t.w else 0)
 | []=>by simp[Sc.RC]
 | x::r=>by show(if x.on=zq/\x.p=p/\s.sub x.OG g=zq then x.w else 0)+s.RC g p (r++ [t])=_;rw[Hk s g p t r];simp only[Sc.RC];omega
theorem KV(s:Sc)(g p k:Nat)(t:Tk)(h:s.ts[k]?=zo t):s.RC g p (s.ts.take (k+1))=s.RC g p (s.ts.take k)+(if t.on=zq/\t.p=p/\s.sub t.OG g=zq then t.w else 0):=by rw[List.take_add_one,h];exact Hk s g p t _
theorem Sc.Ok.under(B:S.Ok b){x:Gp}(D:S.gs[n]?=zo g)(G:g.there=zq)(E:S.gs[m]?=zo x)(A:x.there=zq):UE S.tree g.hi g.hg x.hi x.hg=S.sub n m:=by unfold UE Sc.sub;rw[B.find D G,B.find E A,Sc.PE D,Sc.PE E]
theorem Yh(g p:Nat)(x:Gp)(b:Nat)(w:zu)(F:Nat->Prop)(s:Nat)(S:Sc)(L:Lay)(h:yK w F s S L)(G:S.Ok b)(hg:S.gs[g]?=zo x)(Q:x.there=zq)(hp:p<=64):
 zw prog 17 #[ptr s,ptr (L.gb g),zd zj p] w fun z w'=>z=zm (zd zk (S.load g p))/\Below w.heap.size w w':=by
 obtain⟨HH,h5,HG,HT⟩:=Qf h G hg Q;obtain⟨⟨va,vc,T⟩,c7,_⟩:=h.RN;rw[T]at c7;obtain⟨n,hN⟩:=yB S.ts.length
 have j:=yw hN;have hn:n<=1000:=by have:=G.tl;have:=G.RY;omega
 rw[<-hN]at c7 T;have h8:=yw T;clear h G hg Q T hN;go_enter func17,ntmps17;go_wp2_with fail;clear c7;go_loopw [7,9,15] (fun v _ i wr=>∃k:Nat,k<=n/\i=zd zj k/\v=zd zk (S.RC g p (S.ts.take k))/\Below w.heap.size w wr) (fun _ _ i _=>n-(intOf i).toNat)
 case atStart=>exact⟨0,Nat.zero_le _,rfl,rfl,zU _ _⟩
 case round=>
  obtain⟨k,hk,rfl,rfl,hb⟩:=hrel;have C:=yw hb;have P:=HH.out.behind hb;have HS:=yw P;clear hb;by_cases a:k<n
  .obtain⟨t,J⟩:∃t,S.ts[k]?=zo t:=⟨_,zy (by rw[<-j.out];exact a)⟩
   have l:=yw J;obtain⟨r,hh,hv,hc,he⟩:=P.RN.2.2 k (by rw[<-j.out];exact a);rw[h8.out,<-j.out]at hv;have h6:va=zo ⟨r,0,zp⟩:=by simp only[Value.slice.injEq]at hv;exact hv.1
   subst h6;clear hv;obtain⟨t0,t1,t2,q,t4,t5,t6,t7,t8,t9,h4,h3,h7,h2⟩:=(P.tk J).TY;have H:=(P.tk J).lt;have ha:(k:Int) <(n:Int):=by omega
   obtain⟨B,M⟩:=yB (S.RC g p (S.ts.take k))
   have E:=yw M;rw[<-M];have Z:=yw (KV S g p k t J);clear t0 t1 t2 t6 t8 t9 h4 h3 h7 h2 M P J;by_cases D:t.on=zq
   .by_cases U:t.p=p
    .have G:=h5.out;obtain⟨y,hy,d⟩:=(G.on l.out D).OG;have hj:=(G.on l.out D).wt;obtain⟨g0,g1,g2,g3,g4,g5,g6⟩:=(HS.out.gp hy).c7;obtain⟨x0,x1,x2,x3,x4,x5,x6⟩:=(HS.out.gp HG.out).c7;have O:=(HS.out.gp hy).lt;have R:=(HS.out.gp HG.out).lt;obtain⟨-,s5,X⟩:=HS.out.dW;have HU:=yw (fun W (hW:Below wr.heap.size wr W)=>Dt y.hi y.hg x.hi x.hg (b+2) W 0 L.t L.tp S.tree (HS.out.behind hW).dW.1 G.tok (by have:=G.RY;omega) G.tr);rw[G.under hy d HG.out HT.out]at HU;have h0:0<=B/\B<=262144*1000:=by
      have h1:=Hj (s:=S) (g:=g) (p:=p) (S.ts.take k) fun t Q ho=>by obtain⟨m,hm⟩:=List.getElem?_of_mem (List.mem_of_mem_take Q);exact(G.on hm ho).wt
      rw[<-E.out,List.length_take]at h1;have:=j.out;omega
     have u:(t.p:Int)=(p:Int):=by omega
     have I:=yw (show S.RC g p (S.ts.take (k+1))=B+(if S.sub t.OG g=zq then t.w else 0)by
      rw[Z.out,E.out];by_cases e:S.sub t.OG g=zq
      .rw[if_pos ⟨D,U,e⟩,if_pos e]
      .rw[if_neg (fun h=>e h.2.2),if_neg e])
     rw[D]at q;rw[u]at t4;obtain⟨sb,f⟩:=yB (S.sub t.OG g)
     rw[<-f]at HU I;clear x0 x3 x4 x5 x6 g0 g3 g4 g5 g6 D U d hy G u f;go_wp2_with fail;go_region_held3 (fun w'=>w'.cell? ⟨L.tb k,3,zp⟩=zo (zh zq)/\w'.cell? ⟨L.tb k,4,zp⟩=zo (zd zj p)/\w'.cell? ⟨L.tb k,5,zp⟩=zo (ze (zo ⟨L.gb t.OG,0,zp⟩))/\w'.cell? ⟨s,5,zp⟩=zo (ptr L.t)/\w'.cell? ⟨L.gb t.OG,1,zp⟩=zo (zd zj y.hi)/\w'.cell? ⟨L.gb t.OG,2,zp⟩=zo (zd zj y.hg)/\w'.cell? ⟨L.gb g,1,zp⟩=zo (zd zj x.hi)/\w'.cell? ⟨L.gb g,2,zp⟩=zo (zd zj x.hg)) (go_keep)
      (first
       | (
        go_at_call 38;refine(HU.out wr.drew ⟨rfl,rfl,rfl,yA _,fun _ _=>rfl⟩).mono ?_;rintro z w4 ⟨rfl,A⟩;have N:=yw A;replace q:=(A.cell (p:=⟨L.tb k,3,zp⟩) H).trans q;replace t7:=(A.cell (p:=⟨L.tb k,7,zp⟩) H).trans t7;replace t4:=(A.cell (p:=⟨L.tb k,4,zp⟩) H).trans t4;replace t5:=(A.cell (p:=⟨L.tb k,5,zp⟩) H).trans t5;replace s5:=(A.cell (p:=⟨s,5,zp⟩) X).trans s5;replace g1:=(A.cell (p:=⟨L.gb t.OG,1,zp⟩) O).trans g1;replace g2:=(A.cell (p:=⟨L.gb t.OG,2,zp⟩) O).trans g2;replace x1:=(A.cell (p:=⟨L.gb g,1,zp⟩) R).trans x1;replace x2:=(A.cell (p:=⟨L.gb g,2,zp⟩) R).trans x2;replace H:=yz H A.size
        replace X:=yz X A.size;replace O:=yz O A.size;replace R:=yz R A.size;clear A))
     have c:Below w.heap.size w w4:=C.out.trans ((show Below wr.heap.size wr w4 from⟨N.out.os,N.out.tape,N.out.output,N.out.size,N.out.block⟩).mono C.out.size);have K:=yw c;have hf:IntKind.u64.wrap (B+t.w)=B+t.w:=by simp only[IntKind.wrap,yq,IntKind.bits];simp;omega
     clear c;cases sb with
     | true=>
      have Y:=yw (show S.RC g p (S.ts.take (k+1))=B+t.w by rw[I.out,if_pos rfl]);go_wp2;exact⟨⟨k+1,by omega,by go_num,by rw[Y.out],K.out⟩,by simp[intOf];omega⟩
     | false=>
      have Y:=yw (show S.RC g p (S.ts.take (k+1))=B by rw[I.out,if_neg (by decide)];omega);go_wp2;exact⟨⟨k+1,by omega,by go_num,by rw[Y.out],K.out⟩,by simp[intOf];omega⟩
    .have hd:decide ((t.p:Int)=(p:Int))=zt:=by simp;omega
     have Y:=yw (show S.RC g p (S.ts.take (k+1))=B by rw[Z.out,E.out,if_neg (by rintro⟨_,h,_⟩;exact U h)];omega);have h9:¬(t.p:Int)=(p:Int):=by omega
     rw[D]at q;clear t5 D U;go_wp2_with fail;go_quiet (fail);go_wp2;exact⟨⟨k+1,by omega,by go_num,by rw[Y.out],yH C.out nq⟩,by simp[intOf];omega⟩
   .have o:t.on=zt:=by simpa using D
    have Y:=yw (show S.RC g p (S.ts.take (k+1))=B by rw[Z.out,E.out,if_neg (by rintro⟨h,_⟩;exact D h)];omega);rw[o]at q;clear t4 t5 o D;go_wp2_with fail;go_quiet (fail);go_wp2;exact⟨⟨k+1,by omega,by go_num,by rw[Y.out],yH C.out nq⟩,by simp[intOf];omega⟩
  .have e:k=n:=by omega
   subst e;have V:S.RC g p (S.ts.take k)=S.load g p:=by unfold Sc.load;rw[j.out,List.take_length]
   rw[V];clear V;go_wp2;go_ret;exact⟨rfl,C.out⟩
theorem yK.bU{L:Lay}(h:yK w F s S L):(∃a c,L.vg=zf a S.gs.length c)/\w.cell? ⟨s,8,zp⟩=zo L.vg/\∀n g,S.gs[n]?=zo g->g.there=zq->∃r A,L.vg=zf (zo ⟨r,0,zp⟩) S.gs.length A/\w.cell? ⟨r,n,zp⟩=zo (ptr (L.gb n))/\r<w.heap.size:=by
 obtain⟨tg,h⟩:=h;refine⟨?_,h.sx.c8,fun n g G I=>?_⟩
 .obtain⟨a,c,B⟩:=h.gs.row.len;rw[xo]at B;exact⟨a,c,B⟩
 .have H:=(yy G).1;obtain⟨r,A,E,D,J⟩:=h.gs.row.at_ (Ye H);rw[xo]at E;have e:(S.gs.getD n gL).there=zq:=by rw[zH,G];exact I
  rw[if_pos e]at D;exact⟨r,A,E,D,J⟩
theorem yK.RZ{L:Lay}(h:yK w F s S L):w.cell? ⟨s,0,zp⟩=zo (zd zj S.ps)/\s<w.heap.size:=by obtain⟨tg,h⟩:=h;exact⟨h.sx.c0,h.sx.lt⟩
theorem Hl(f:Nat->Int)(k:Nat):uv ((yi (k+1)).map f)=uv ((yi k).map f)++ [zd zk (f k)]:=by rw[List.range_succ];simp[uv]
theorem Jv(b:Nat)(w:zu)(F:Nat->Prop)(s:Nat)(S:Sc)(L:Lay)(h:yK w F s S L)(U:S.Ok b):
 zw prog 6 #[ptr s] w fun z w'=>∃a c,z=zm (zf a S.ps c)/\w'.ownsRow w.heap.size 33 1 (zf a S.ps c) S.ps (uv S.OZ)/\Below w.heap.size w w':=by
 obtain⟨i0,hi,Y,q,o⟩:=info_parts Hd;have HH:=yw h;have I:=yw U;obtain⟨x,hx,_,_,O,_⟩:=U.g0;have HX:=yw hx;have M:=yw O;obtain⟨s0,D⟩:=h.RZ;have m:=U.ps.2;obtain⟨n,hN⟩:=yB S.ps
 have HN:=yw hN;unfold Sc.OZ;rw[<-hN]at s0 m ⊢;clear h U hN hx O;go_enter func6,ntmps6;go_wp2_with fail;clear s0 D;go_loopw [3,4,12] (fun v _ i wr=>∃(k:Nat) (p:Option Addr) (Z:Nat),k<=n/\i=zd zj k/\v=zf p k Z/\wr.ownsRow w.heap.size 33 1 (zf p k Z) k (uv ((yi k).map (S.load 0)))/\Below w.heap.size w wr) (fun _ _ i _=>n-(intOf i).toNat)
 case atStart=>exact⟨0,zp,0,by omega,rfl,rfl,by simpa[uv]using ym _ _ _ _,zU _ _⟩
 case round=>
  obtain⟨k,p,Z,hk,rfl,rfl,B,hb⟩:=hrel;obtain⟨f,C,HS⟩:=Qe B hb (HH.out.behind hb);clear B hb;by_cases h1:k<n
  .have s8:=HS.out.bU.2.1;obtain⟨r,P,V,hc,l⟩:=HS.out.bU.2.2 0 x HX.out M.out;have D:=HS.out.RZ.2;rw[V]at s8;have h2:0<S.gs.length:=by have:=I.out.gl;omega
   have Q:=yw (Yh 0 k x b wr F s S L HS.out I.out HX.out M.out (by omega));have E:=yw (Hl (S.load 0) k);obtain⟨y,hy⟩:=yB (S.load 0 k)
   obtain⟨ys,J⟩:=yB (uv ((yi k).map (S.load 0)))
   rw[<-hy]at Q E;rw[<-J]at f E;have h3:(k:Int) <(n:Int):=by omega
   clear V hy J;go_wp2_with fail;refine Q.out.mono ?_;rintro z w4 ⟨rfl,G⟩;have H:=yw (qQ f.out G);have N:=yw (yC C.out G C.out.size);clear G hc l Q s8 D;have W:=N.out.size;go_wp2_with (at_builtin;go_loud (refine wpList_append_own _ rfl _ _ 27 rfl w.heap.size 33 i0 (zd zk 0) 1 8 underlying27 hi Y q o rfl (by decide) _ k ys rfl (H.out.alloc _) ⟨w4.heap.size,0,zp⟩ 1 1 [zd zk y] rfl rfl ?c1 ?c2 ?c3 ?c4 ?c5 ?_))
   case c1=>exact World.news_of_block (cs:=#[zd zk y]) (t:=33) (fr:=(0,0)) (heap_alloc_new w4 _)
   case c2=>intro u hu;simp at hu;subst hu;rfl
   case c3=>unfold maxLen;omega
   case c4=>omega
   case c5=>simp;omega
   intro v' w5 A T _;have R:Below w.heap.size w w5:=(N.out.alloc W _).grown T (by simp;omega) fun j hj=>(H.out.lt j hj).1;have K:=yw R;have X:=yw A;rcases A.2 with⟨_,h0⟩|⟨g,P,cur,V,_⟩
   .omega
   subst V;clear R A T;go_wp2_with fail;go_roundw
   case rel=>exact⟨k+1,_,_,by omega,by go_num,rfl,by rw[E.out];exact X.out,K.out⟩
   case measure=>simp[intOf];omega
  .have d:k=n:=by omega
   subst d;go_wp2;go_ret;exact⟨_,_,rfl,f.out,C.out⟩
theorem JM:(prog.info? 59).map (fun i=>(i.zero,i.size,i.bytes))=zo (zo (ze zp),1,8):=by kernel_rfl
def bH(f:Nat->Nat)(l:List Nat):List zz:=l.map fun n=>ptr (f n)
theorem Bo{l:List Nat}(h:l[k]?=zo n):(bH f l)[k]?=zo (ptr (f n)):=by simp[bH,h]
theorem Hn(f:Nat->Nat)(l:List Nat)(n:Nat):bH f (l++ [n])=bH f l++ [ptr (f n)]:=by simp[bH]
theorem yK.pl_{L:Lay}(h:yK w F s S L){i:Nat}(A:i<32):w.cell? ⟨s,9+i,zp⟩=zo (ze ((S.pl i).map fun n=>⟨L.gb n,0,zp⟩)):=by obtain⟨tg,h⟩:=h;exact h.sx.pl i A
theorem JN{l:List Pl}(h:Tr l):∀(n k:Nat),dep l k<=n->bM l k->∀i∈AF l k,bM l i
 | n,k,hn,hu,i,A=>by
  by_cases hk:k=0
  .subst hk;rw[Jp]at A;cases A
  .rw[Jq h hu hk]at A;obtain⟨B,h2⟩:=h.up hu hk;rcases List.mem_append.1 A with A|A
   .cases n with
    | zero=>omega
    | succ n=>exact JN h n _ (by omega) B i A
   .simp at A;subst A;exact hu
theorem Sc.Ok.path(A:S.Ok b)(O:S.gs[n]?=zo g)(R:g.there=zq){i:Nat}(T:i∈AF S.tree.l g.hi):i<32/\∃m y,S.pl i=zo m/\S.gs[m]?=zo y/\y.there=zq/\y.hi=i:=by obtain⟨⟨q,J,N,_⟩,_⟩:=A.gk n g O R;obtain⟨I,B,G⟩:=JN A.tr _ _ (yA _) ⟨q,J,N⟩ i T;obtain⟨m,H⟩:=A.gu i I B G;obtain⟨y,M,E,D⟩:=A.pl i m H;refine⟨?_,m,y,H,M,E,D⟩;have:=(yy B).1;have:=A.tok.room;omega
theorem Tw{M:zz}{B:Nat}{J:TypeId}{D X:Nat}{I:List zz}(O:w.grownBy w' M.ownBlock)(T:w.ownsRow B J D M X I){base:Nat}{e:TypeId}{A:Nat}{N:List zz}(h:w.ownsRow base e A v n N)(G:e≠J):w'.ownsRow base e A v n N:=by
 refine⟨h.1,?_⟩;rcases h.2 with U|⟨g,H,cur,V,hb,R,E⟩
 .exact .inl U
 .exact .inr ⟨g,H,cur,V,hb,Qz O T R G,E⟩
theorem xE.SG{base:Nat}{e:TypeId}(A:w.ownsRow base e 1 (zf a n c) n vs):xE w a vs:=by obtain⟨a',c',e,h⟩:=xE.SW A;simp only[Value.slice.injEq]at e;rw[e.1];exact h
theorem FG(S:Sc)(l:List Nat)(k i:Nat)(h:l[k]?=zo i):(l.take (k+1)).map (fun i=>(S.pl i).getD 0)=(l.take k).map (fun i=>(S.pl i).getD 0)++ [(S.pl i).getD 0]:=by rw[List.take_add_one,h];simp
theorem Mc(g:Nat)(x:Gp)(b:Nat)(w:zu)(F:Nat->Prop)(s:Nat)(S:Sc)(L:Lay)(h:yK w F s S L)(I:S.Ok b)(M:S.gs[g]?=zo x)(U:x.there=zq):
 zw prog 97 #[ptr s,ptr (L.gb g)] w fun z w'=>∃a c,z=zm (zf a (S.SP g).length c)/\w'.ownsRow w.heap.size 59 1 (zf a (S.SP g).length c) (S.SP g).length (bH L.gb (S.SP g))/\Below w.heap.size w w':=by
 obtain⟨i0,N,h6,ha,h9⟩:=info_parts JM;obtain⟨HH,hp,HG,HT⟩:=Qf h I M U;obtain⟨-,s5,E⟩:=h.dW;obtain⟨x0,x1,x2,x3,x4,x5,x6⟩:=(h.gp M).c7;have H:=(h.gp M).lt;have R:=I.find M U;have HU:=yw (fun W (hW:Below w.heap.size w W)=>EF x.hi x.hg (b+2) W 0 L.t L.tp S.tree (h.behind hW).dW.1 I.tok (by have:=I.RY;omega) I.tr);have d:Gg S.tree x.hi x.hg=AF S.tree.l x.hi:=by unfold Gg;rw[R]
 have V:S.tree.RS x.hi x.hg=0:=by unfold Ps.RS;rw[R]
 rw[d,V]at HU;have X:S.SP g=(AF S.tree.l x.hi).map fun i=>(S.pl i).getD 0:=by unfold Sc.SP;rw[Sc.PE M]
 have J:(AF S.tree.l x.hi).length<=64:=by obtain⟨⟨q,hq,C,_⟩,_⟩:=I.gk g x M U;rw[Gf I.tr _ ⟨q,hq,C⟩];have:=I.tr.dp hq C;omega
 have h2:=yw (fun i (N:i∈AF S.tree.l x.hi)=>I.path M U N);rw[X];clear h I M U x0 x3 x4 x5 x6 d V X R;obtain⟨P,hP⟩:=yB (AF S.tree.l x.hi)
 rw[<-hP]at HU h2 J ⊢;obtain⟨n,hN⟩:=yB P.length
 have HN:=yw hN;rw[List.length_map];rw[<-hN]at HU J ⊢;clear hP hN;go_enter func97,ntmps97;go_wp2_with fail;go_region_held3 (fun w'=>w'.cell? ⟨s,5,zp⟩=zo (ptr L.t)/\w'.cell? ⟨L.gb g,1,zp⟩=zo (zd zj x.hi)/\w'.cell? ⟨L.gb g,2,zp⟩=zo (zd zj x.hg)) (go_keep)
  (first
   | (
    go_at_call 149;refine(HU.out w.drew ⟨rfl,rfl,rfl,yA _,fun _ _=>rfl⟩).mono ?_;rintro z w4 ⟨pa,pc,rfl,A,D⟩;have G:=yw D;have f:=yw A;replace s5:=(D.cell (p:=⟨s,5,zp⟩) E).trans s5;replace x1:=(D.cell (p:=⟨L.gb g,1,zp⟩) H).trans x1;replace x2:=(D.cell (p:=⟨L.gb g,2,zp⟩) H).trans x2;replace E:=yz E D.size;replace H:=yz H D.size;clear D A))
 go_wp2_with fail;have Y:Below w.heap.size w w4:=⟨G.out.os,G.out.tape,G.out.output,G.out.size,G.out.block⟩
 have hh:=yw Y;clear Y s5 x1 x2 E H G;go_loopw [7,9,24] (fun v _ i wr=>∃(k:Nat) (ar:Option Addr) (cr:Nat),k<=n/\i=zd zj k/\v=zf ar k cr/\wr.ownsRow w.heap.size 59 1 (zf ar k cr) k (bH L.gb ((P.take k).map fun i=>(S.pl i).getD 0))/\Below w.heap.size w wr/\wr.ownsRow w.heap.size 3 1 (zf pa n pc) n (iv (zs P))) (fun _ _ i _=>n-(intOf i).toNat)
 case atStart=>exact⟨0,zp,0,by omega,rfl,rfl,by simpa[bH]using ym _ _ _ _,hh.out,f.out⟩
 case round=>
  obtain⟨k,ar,cr,hk,rfl,rfl,O,hb,A⟩:=hrel;obtain⟨Z,HB,HR,HS⟩:=Qf O hb A (HH.out.behind hb);clear O hb A;by_cases h3:k<n
  .obtain⟨i,N⟩:∃i,P[k]?=zo i:=⟨_,zy (by rw[<-HN.out];exact h3)⟩
   obtain⟨r,h4,hc,h8⟩:=(xE.SG HR.out) k (zd zj i) (by simp[iv,zs,N]);subst h4;obtain⟨K,m,y,hm,_⟩:=h2.out i (zW N);have s9:=HS.out.pl_ K;rw[hm]at s9;have E:=HS.out.RZ.2;have Q:Hid (bH L.gb ((P.take (k+1)).map fun i=>(S.pl i).getD 0)=bH L.gb ((P.take k).map fun i=>(S.pl i).getD 0)++ [ptr (L.gb m)]):=yw (by rw[FG S P k i N,Hn,hm];rfl);obtain⟨ys,o⟩:=yB (bH L.gb ((P.take k).map fun i=>(S.pl i).getD 0))
   rw[<-o]at Z Q;have hn:(k:Int) <(n:Int):=by omega
   have ho:(i:Int) <32:=by omega
   have hl:=HB.out.size;clear o N hm;go_wp2_with (at_builtin;go_loud (refine wpList_append_own _ rfl _ _ 58 rfl w.heap.size 59 i0 (ze zp) 1 8 underlying58 N h6 ha h9 rfl (by decide) _ k ys rfl (Z.out.alloc _) ⟨wr.heap.size,0,zp⟩ 1 1 [ptr (L.gb m)] rfl rfl ?c1 ?c2 ?c3 ?c4 ?c5 ?_))
   case c1=>exact World.news_of_block (cs:=#[ptr (L.gb m)]) (t:=59) (fr:=(0,0)) (heap_alloc_new wr _)
   case c2=>intro u C;simp at C;subst C;rfl
   case c3=>unfold maxLen;omega
   case c4=>omega
   case c5=>simp;omega
   intro v' w5 B T _;have h1:Below w.heap.size w w5:=(HB.out.alloc hl _).grown T (by simp;omega) fun j hj=>(Z.out.lt j hj).1;obtain⟨hf,he,h5⟩:=Qe (Tw T (Z.out.alloc _) (HR.out.alloc _) (by decide)) h1 B;rcases B.2 with⟨_,h0⟩|⟨g,hr,cur,hv,_⟩
   .omega
   subst hv;clear h1 B T hc h8 s9 E;go_wp2_with fail;go_roundw
   case rel=>exact⟨k+1,_,_,by omega,by go_num,rfl,by rw[Q.out];exact h5.out,he.out,hf.out⟩
   case measure=>simp[intOf];omega
  .have h7:k=n:=by omega
   subst h7;have HX:Hid ((P.take k).map (fun i=>(S.pl i).getD 0)=P.map fun i=>(S.pl i).getD 0):=yw (by rw[HN.out,List.take_length]);go_wp2;go_ret;exact⟨_,_,rfl,by rw[<-HX.out];exact Z.out,HB.out⟩
def Oz(w:zu)(a:Option Addr)(vs:List zz):Prop:=∀k u,vs[k]?=zo u->∃r o,a=zo ⟨r,o,zp⟩/\w.cell? ⟨r,o+k,zp⟩=zo u/\r<w.heap.size
theorem Oz.behind(h:Oz w a vs)(hb:Below w.heap.size w w'):Oz w' a vs:=fun k u E=>by obtain⟨r,o,D,B,A⟩:=h k u E;exact⟨r,o,D,(hb.cell (p:=⟨r,o+k,zp⟩) A).trans B,yz A hb.size⟩
theorem Oz.of_v(h:xE w a vs):Oz w a vs:=fun k u D=>by obtain⟨r,B,A,E⟩:=h k u D;exact⟨r,0,B,by rw[Nat.zero_add];exact A,E⟩
def Sc.RQ(S:Sc)(l:List (Option Nat)):List Nat:=S.limited (l.filterMap id)
theorem VE(S:Sc)(l:List (Option Nat))(k:Nat)(h:l[k]?=zo zp):S.RQ (l.take (k+1))=S.RQ (l.take k):=by unfold Sc.RQ;rw[List.take_add_one,h];simp
theorem VF(S:Sc)(l:List (Option Nat))(k n:Nat)(h:l[k]?=zo (zo n)):S.RQ (l.take (k+1))=if(S.g n).limited=zq then S.RQ (l.take k)++ [n]else S.RQ (l.take k):=by
 unfold Sc.RQ Sc.limited;rw[List.take_add_one,h];simp only[Option.toList_some,List.filterMap_append,List.filter_append];by_cases e:(S.g n).limited=zq
 .rw[if_pos e];simp[e]
 .rw[if_neg e];simp[e]
theorem Ew(S:Sc)(l:List (Option Nat)):(S.RQ l).length<=l.length:=Nat.le_trans (List.length_filter_le _ _) (List.length_filterMap_le _ _)
theorem yK.band{L:Lay}(h:yK w F s S L){b:TL}(A:S.gs[n]?=zo g)(hb:g.band=zo b):Qt.OC w (L.bb n) b:=by obtain⟨tg,h⟩:=h;exact(h.bs.bd n g b A hb).2
theorem Ho(w:zu)(F:Nat->Prop)(s:Nat)(S:Sc)(L:Lay)(h:yK w F s S L)(n:Nat)(g:Gp)(B:S.gs[n]?=zo g):
 zw prog 83 #[ze (if g.band.isSome=zq then zo ⟨L.bb n,0,zp⟩else zp)] w fun z w'=>z=zm (zh g.limited)/\w'=w:=by
 unfold Gp.limited;cases hb:g.band with
 | none=>exact(Qt.dI w).mono fun z w' A=>⟨A.1,A.2.symm⟩
 | some b=>exact(Qt.dJ w _ b (h.band B hb)).mono fun z w' A=>⟨A.1,A.2.symm⟩
theorem Xk(l:List (Option Nat))(a:Option Addr)(n c:Nat)(w:zu)(F:Nat->Prop)(s:Nat)(S:Sc)(L:Lay)(h:yK w F s S L)(hn:n=l.length)(h4:n<=64)(hR:Oz w a (xK (l.map (Option.map L.gb))))(N:∀m,zo m∈l->∃g,S.gs[m]?=zo g/\g.there=zq):
 zw prog 55 #[zf a n c] w fun z w'=>∃a' c',z=zm (zf a' (S.RQ l).length c')/\w'.ownsRow w.heap.size 59 1 (zf a' (S.RQ l).length c') (S.RQ l).length (bH L.gb (S.RQ l))/\Below w.heap.size w w':=by
 obtain⟨i0,hi,y,h1,Q⟩:=info_parts JM;obtain⟨HH,HN,HR,HG⟩:=Qf h hn hR N;clear h hn hR N;go_enter func55,ntmps55;go_wp2_with fail;go_loopw [3,5,8] (fun v _ i wr=>∃(k m:Nat) (W:Option Addr) (C:Nat),k<=n/\i=zd zj k/\v=zf W m C/\m=(S.RQ (l.take k)).length/\wr.ownsRow w.heap.size 59 1 (zf W m C) m (bH L.gb (S.RQ (l.take k)))/\Below w.heap.size w wr) (fun _ _ i _=>n-(intOf i).toNat)
 case atStart=>exact⟨0,0,zp,0,by omega,rfl,rfl,by simp[Sc.RQ,Sc.limited],by simpa[bH,Sc.RQ,Sc.limited]using ym _ _ _ _,zU _ _⟩
 case round=>
  obtain⟨k,m,W,C,hk,rfl,rfl,P,H,hb⟩:=hrel;obtain⟨G,O,J,HS⟩:=Qf H hb P (HH.out.behind hb);have h6:m<=k:=by rw[P];exact Nat.le_trans (Ew _ _) (by simp;omega)
  clear H hb P;by_cases b:k<n
  .obtain⟨x,M⟩:∃x,l[k]?=zo x:=⟨_,zy (by rw[<-HN.out];exact b)⟩
   obtain⟨r,o,d,p,K⟩:=(HR.out.behind O.out) k _ (Bm (l:=l.map (Option.map L.gb)) (by rw[zG,M];rfl));subst d;have h5:(k:Int) <(n:Int):=by omega
   cases x with
   | none=>
    have E:=yw (VE S l k M);simp only[Option.map_none]at p;clear M;go_wp2_with fail;go_roundw
    case rel=>exact⟨k+1,m,_,_,by omega,by go_num,rfl,by rw[E.out];exact J.out,by rw[E.out];exact G.out,O.out⟩
    case measure=>simp[intOf];omega
   | some q=>
    have E:=yw (VF S l k q M);obtain⟨g,N,h7⟩:=HG.out q (zW M);have X:=yw (Ho wr F s S L HS.out q g N);obtain⟨x0,x1,x2,x3,x4,x5,x6⟩:=(HS.out.gp N).c7;simp only[Option.map_some]at p;rw[Sc.PE N]at E;obtain⟨bp,U⟩:=yB ((if g.band.isSome=zq then zo (⟨L.bb q,0,zp⟩:Addr)else zp))
    rw[<-U]at X x5;clear M x0 x1 x2 x3 x4 x6 U;by_cases A:g.limited=zq
    .rw[A]at X;have B:Hid (S.RQ (l.take (k+1))=S.RQ (l.take k)++ [q]):=yw (by rw[E.out,if_pos A]);clear A;have h3:=O.out.size;obtain⟨Z,I⟩:=yB (bH L.gb (S.RQ (l.take k)))
     have HY:Hid (bH L.gb (S.RQ (l.take (k+1)))=Z++ [ptr (L.gb q)]):=yw (by rw[B.out,Hn,I]);rw[<-I]at G;clear I;go_wp2_with fail;refine X.out.mono ?_;rintro z w4 ⟨rfl,hw⟩;obtain rfl:=hw.symm;go_wp2_with (at_builtin;go_loud (refine wpList_append_own _ rfl _ _ 58 rfl w.heap.size 59 i0 (ze zp) 1 8 underlying58 hi y h1 Q rfl (by decide) _ m Z rfl (G.out.alloc _) ⟨wr.heap.size,0,zp⟩ 1 1 [ptr (L.gb q)] rfl rfl ?c1 ?c2 ?c3 ?c4 ?c5 ?_))
     case c1=>exact World.news_of_block (cs:=#[ptr (L.gb q)]) (t:=59) (fr:=(0,0)) (heap_alloc_new wr _)
     case c2=>intro u hu;simp at hu;subst hu;rfl
     case c3=>unfold maxLen;omega
     case c4=>omega
     case c5=>simp;omega
     intro v' w5 D Y _;have V:Below w.heap.size w w5:=(O.out.alloc h3 _).grown Y (by simp;omega) fun j hj=>(G.out.lt j hj).1;have h2:=yw V;have f:=yw D;rcases D.2 with⟨_,h0⟩|⟨g',h8,cur,hv,_⟩
     .omega
     subst hv;clear V D Y p K x5;go_wp2_with fail;go_roundw
     case rel=>exact⟨k+1,m+1,_,_,by omega,by go_num,rfl,by rw[B.out,List.length_append,<-J.out];rfl,by rw[HY.out];exact f.out,h2.out⟩
     case measure=>simp[intOf];omega
    .have R:g.limited=zt:=by simpa using A
     rw[R]at X;have B:Hid (S.RQ (l.take (k+1))=S.RQ (l.take k)):=yw (by rw[E.out,if_neg A]);clear A R;go_wp2_with fail;refine X.out.mono ?_;rintro z w4 ⟨rfl,hw⟩;obtain rfl:=hw.symm;go_wp2_with fail;go_roundw
     case rel=>exact⟨k+1,m,_,_,by omega,by go_num,rfl,by rw[B.out];exact J.out,by rw[B.out];exact G.out,O.out⟩
     case measure=>simp[intOf];omega
  .have T:k=n:=by omega
   have HX:Hid (l.take k=l):=yw (by rw[T,HN.out,List.take_length]);rw[HX.out]at J G;subst T;go_wp2;go_ret;rw[J.out]at G;exact⟨_,_,by rw[J.out];rfl,G.out,O.out⟩
theorem KW(w:zu)(F:Nat->Prop)(p k:Nat)(h:Hm)(A:yT w F p h)(hk:k<32):zw prog 136 #[ze (zo ⟨p,0,zp⟩),zd zj k] w fun z w'=>z=zm (zd zj (h.minOf k))/\w'=w:=by
 unfold Hm.minOf;cases hx:h.gs k with
 | none=>exact Iq w F p k h A hk hx
 | some x=>exact CB w F p k h x A hx
theorem yK.gX{L:Lay}(h:yK w F s S L)(B:p<S.ps):∃r A,w.cell? ⟨s,105,zp⟩=zo (zf (zo ⟨r,0,zp⟩) S.ps A)/\w.cell? ⟨r,p,zp⟩=zo (ptr (L.hb p))/\r<w.heap.size/\(∃G,yT w G (L.hb p) (S.hs p)):=by obtain⟨tg,h⟩:=h;obtain⟨r,A,E,D,H⟩:=Kb h.vh B;exact⟨r,A,by rw[<-E];exact h.sx.vh,D,H,_,h.hs p B⟩
theorem Jw(tb OG p:Nat)(g:Gp)(w:zu)(F:Nat->Prop)(s:Nat)(S:Sc)(L:Lay)(h:yK w F s S L)(B:S.gs[OG]?=zo g)(A:g.hi<32)(M:p<S.ps)(c5:w.cell? ⟨tb,5,zp⟩=zo (ptr (L.gb OG))):
 zw prog 88 #[ptr s,ptr tb,zd zj p] w fun z w'=>z=zm (zd zj ((S.hs p).minOf g.hi))/\Below w.heap.size w w':=by
 obtain⟨r,h0,hv,hc,h2,G,D⟩:=h.gX M;obtain⟨E,x1,N,I,H,O,R⟩:=(h.gp B).c7;have J:=yw (fun n=>KW (w.drewN n) G (L.hb p) g.hi (S.hs p) (D.kept fun k _ _=>rfl) A);have h1:(p:Int) <(S.ps:Int):=by omega
 clear h B D E N I H O R;go_enter func88,ntmps88;go_wp2_with fail;go_quiet ((go_at_call 136;exact Calls.quiet_of_same (J.out _)));go_wp2;go_ret;exact⟨rfl,yH (zU _ _) nq⟩
theorem yK.AU{L:Lay}(h:yK w F s S L){t t':Tk}(D:S.ts[n]?=zo t)(A:OA (fun k=>k=L.tb n) w w')(B:RR w' (L.tb n) L.gb t'):yG w F s (S.OY n t') L w':=by obtain⟨tg,h⟩:=h;exact h.AU D A B
theorem yK.AG{L:Lay}(h:yK w F s S L){g':Gp}(G:S.gs[n]?=zo g)(hb:g'.band=g.band)(B:g'.line=g.line)(A:g'.there=g.there)(D:OA (fun k=>k=L.gb n) w w')(E:bG w' (L.gb n) n (L.bb n) (L.lb n) g'):yG w F s (S.OF n g') L w':=by obtain⟨tg,h⟩:=h;exact h.AG G hb B A D E
theorem yK.cC{L:Lay}(h:yK w F s S L){b A:TL}(E:S.gs[n]?=zo g)(hb:g.band=zo b)(B:OA (fun k=>k=L.bb n) w w')(D:Qt.OC w' (L.bb n) A):yG w F s (S.OF n (g.ON A)) L w':=by obtain⟨tg,h⟩:=h;exact h.cC E hb B D
theorem yK.dR{L:Lay}(h:yK w F s S L){A:List Nat}(E:S.gs[n]?=zo g)(hb:g.band.isSome=zq)(B:OA (fun k=>k=L.lb n) w w')(D:xa w' (L.lb n) A):yG w F s (S.OF n (g.OP A)) L w':=by obtain⟨tg,h⟩:=h;exact h.dR E hb B D
theorem yK.eC{L:Lay}(h:yK w F s S L){A:Ck}(B:p<S.ps)(D:OA (fun k=>k=L.cb p) w w')(E:xO w' (L.cb p) A):yG w F s (S.PZ p A) L w':=by obtain⟨tg,h⟩:=h;exact h.eC B D E
theorem yK.SX{L:Lay}(h:yK w F s S L)(A:p<S.ps):∃G,yT w G (L.hb p) (S.hs p)/\∀x w',qv w G (L.hb p) x w'->yG w F s (S.OM p x) L w':=by obtain⟨tg,h⟩:=h;exact⟨_,h.hs p A,fun x w' B=>h.updH A B⟩
theorem yK.line{L:Lay}(h:yK w F s S L)(A:S.gs[n]?=zo g)(hb:g.band.isSome=zq):xa w (L.lb n) g.line:=by obtain⟨tg,h⟩:=h;exact(h.ls.ln n g A hb).2
theorem yK.clock{L:Lay}(h:yK w F s S L)(B:p<S.ps):xO w (L.cb p) (S.cs p)/\∃r A,w.cell? ⟨s,106,zp⟩=zo (zf (zo ⟨r,0,zp⟩) S.ps A)/\w.cell? ⟨r,p,zp⟩=zo (ptr (L.cb p))/\r<w.heap.size:=by obtain⟨tg,h⟩:=h;obtain⟨r,A,E,D,G⟩:=Kb h.cs.row B;exact⟨(h.cs.ck p B).2,r,A,by rw[<-E];exact h.sx.vc,D,G⟩
theorem yK.eD{L:Lay}(h:yK w F s S L)(B:p<S.ps):∃r A,L.vh=zf (zo ⟨r,0,zp⟩) S.ps A:=by obtain⟨tg,h⟩:=h;obtain⟨r,A,D,h2,h3⟩:=Kb h.vh B;exact⟨r,A,D⟩
theorem yK.SK{L:Lay}(h:yK w F s S L){r A:Nat}(E:p<S.ps)(D:L.vh=zf (zo ⟨r,0,zp⟩) n A):w.cell? ⟨s,105,zp⟩=zo (zf (zo ⟨r,0,zp⟩) n A)/\w.cell? ⟨r,p,zp⟩=zo (ptr (L.hb p))/\r<w.heap.size:=by obtain⟨tg,h⟩:=h;obtain⟨r',h0,B,G,H⟩:=Kb h.vh E;rw[D]at B;simp only[Value.slice.injEq,ya,Addr.mk.injEq,and_true]at B;obtain⟨e,_⟩:=B;subst e;exact⟨by rw[<-D];exact h.sx.vh,G,H⟩
theorem vj{t t':Tk}(h:S.ts[n]?=zo t):(S.OY n t').ts[n]?=zo t':=by have A:=(yy h).1;show(S.ts.set n t')[n]?=zo t';rw[zT A]
theorem Sc.Ok.stands(B:S.Ok b){t:Tk}(E:S.ts[n]?=zo t)(A:t.on=zq)(I:S.gs[t.OG]?=zo g):∃x e,(S.hs t.p).gs g.hi=zo x/\x.q.get (2*(t.hi:Int))=zo e/\(S.hs t.p).gone g.hi t.hi=e.half t.hi:=by
 have G:=(B.on E A).TC;obtain⟨x,D,H⟩:=(B.ev t.p G g.hi t.hi).2 ⟨n,t,g,E,A,rfl,I,rfl,rfl⟩;cases he:x.q.get (2*(t.hi:Int))with
 | none=>exact absurd he (Vq.1 H)
 | some e=>exact⟨x,e,D,he,by unfold Hm.gone;rw[D];simp only[he]⟩
theorem yK.ne_t{L:Lay}(h:yK w F s S L){t:Tk}(H:S.ts[n]?=zo t):s≠L.tb n/\(∀m g,S.gs[m]?=zo g->L.gb m≠L.tb n)/\(∀r k c,L.vh=zf (zo ⟨r,0,zp⟩) k c->r≠L.tb n):=by
 have A:=h.tk H;refine⟨?_,fun m g E e=>?_,fun r k c D e=>?_⟩
 .obtain⟨tg,h⟩:=h;obtain⟨cs,G⟩:=h.sx.ty;intro e;unfold RR at A;rw[<-e,G]at A;simp only[ya,yo]at A;exact absurd A.2.1 (by decide)
 .have B:=h.gp E;unfold RR at A;unfold bG at B;rw[<-e,B]at A;simp only[ya,yo]at A;exact absurd A.2.1 (by decide)
 .obtain⟨tg,h⟩:=h;unfold RR at A;have:=yS h.vh.row A (by decide);rw[D]at this;exact this (by rw[e];rfl)
theorem Jx(n:Nat)(t:Tk)(b:Nat)(w:zu)(F:Nat->Prop)(s:Nat)(S:Sc)(L:Lay)(h:yK w F s S L)(d:S.Ok b)(Y:S.ts[n]?=zo t)(ho:t.on=zq):
 zw prog 92 #[ptr s,ptr (L.tb n)] w fun z w'=>(∃v,z=zm v)/\yG w F s (S.leave n) L w':=by
 have hT:=d.on Y ho;have q:=hT.TC;obtain⟨g,hg,h6⟩:=hT.OG;obtain⟨x,e,hx,he,M⟩:=d.stands Y ho hg;have HX:=yw hx;have HE:=yw he;have h1:=Sc.RV Y;have h3:=Sc.PE hg;have hl:=hT.hi;have hw:=d.hc t.p q;have H0:=d.credit;obtain⟨m,hm⟩:=yB ((S.hs t.p).minOf g.hi)
 have ha:S.leave n=(((S.OY n { t with min:=m }).OM t.p ((S.hs t.p).drop g.hi t.hi)).OY n { t with min:=m,e:=e.half t.hi,on:=zt }):=by unfold Sc.leave Sc.least;rw[h1,h3,M,<-hm];simp[Sc.OY,Sc.OM]
 have hy:=yw ha;obtain⟨c,t1,t2,j,f,a,K,C,t8,l,D,B,E,I⟩:=(h.tk Y).TY;have A:=(h.tk Y).OH;have HC:=yw (Jw (L.tb n) t.OG t.p g w F s S L h hg (d.hi hg h6) q a);rw[<-hm]at HC;obtain⟨HH,HN,HG⟩:=Qe h Y hg;have H1:(t.p:Int) <(S.ps:Int):=by omega
 clear h d Y ho hT h6 hx he M h1 h3 hm ha;go_enter func92,ntmps92;go_wp2_with fail;refine HC.out.mono ?_;rintro z w1 ⟨rfl,Z⟩;have hr:=yw Z;have N:=yw (HH.out.behind Z);have X:RR w1 (L.tb n) L.gb t:=N.out.tk HN.out;have U:RR (w1.setCell ⟨L.tb n,13,zp⟩ (zd zj m)) (L.tb n) L.gb { t with min:=m }:=yD X;have J:=yw (N.out.AU HN.out (OA.refl _ _).one U);have V:=yw U;have A:=X.OH;clear Z c t1 t2 j f a K C t8 l D B E I HC X U;obtain⟨c,t1,t2,j,f,a,K,C,t8,l,D,B,E,I⟩:=(N.out.tk HN.out).TY;go_wp2_with fail
 obtain⟨y,P⟩:=yB (w1.setCell ⟨L.tb n,13,zp⟩ (zd zj m))
 rw[<-P]at J V ⊢;clear P c t1 t2 j f a K C t8 l D B E I A;have W:=yw (vj (t':={ t with min:=m }) HN.out);obtain⟨r,hu,hv⟩:=HH.out.eD (p:=t.p) q;have HV:=yw hv;obtain⟨T,rp,h4⟩:=J.out.1.SK (p:=t.p) q hv;obtain⟨h9,h8,h7⟩:=HH.out.ne_t HN.out;replace h9:=h9.symm;replace h8:=(h8 _ g HG.out).symm;replace h7:=(h7 r _ _ hv).symm;obtain⟨c,t1,t2,j,f,a,K,C,t8,l,D,B,E,I⟩:=V.out.TY;have A:=V.out.OH;obtain⟨g0,g1,g2,g3,g4,g5,g6⟩:=(J.out.1.gp HG.out).c7;obtain⟨G,hH,hU⟩:=J.out.1.SX (p:=t.p) q;have HU:=yw hU
 have HD:=yw (WX g.hi t.hi e y.drew G (L.hb t.p) (S.hs t.p) x (hH.kept fun k _ _=>rfl) HX.out hl HE.out (by rw[hw];omega));clear t1 t2 j K C t8 l D B E I g0 g2 g3 g4 g5 g6 hv hU hH N;go_region_held3 (fun w'=>w'.cell? ⟨s,105,zp⟩=zo (zf (zo ⟨r,0,zp⟩) S.ps hu)/\w'.cell? ⟨r,t.p,zp⟩=zo (ptr (L.hb t.p))/\w'.cell? ⟨L.tb n,0,zp⟩=zo (zd zj t.hi)/\w'.cell? ⟨L.tb n,4,zp⟩=zo (zd zj t.p)/\w'.cell? ⟨L.tb n,5,zp⟩=zo (ptr (L.gb t.OG))/\w'.cell? ⟨L.gb t.OG,1,zp⟩=zo (zd zj g.hi)) (simp[*,World.cell?_setCell_far,World.cell?_setCell_other])
  (first
   | (
    go_at_call 143;refine HD.out.mono ?_;rintro z w3 ⟨rfl,h5⟩;have H:=HU.out _ _ (qv.NZ (F:=G) (⟨rfl,rfl,rfl,yA _,fun _ _=>rfl⟩:Below y.heap.size y y.drew) h5);have ht:=yw H;have O:=H.1.tk W.out;clear h5 c f a g1 T rp h4 A;obtain⟨T,rp,h4⟩:=H.1.SK (p:=t.p) q HV.out;obtain⟨c,-,-,j,f,a,-,-,-,l,D,B,E,-⟩:=O.TY;have hq:=yw O;have A:=O.OH;have hz:=A 9;have hj:=A 10;have hf:=A 11;have hh:=A 12;obtain⟨-,g1,-⟩:=(H.1.gp HG.out).c7;clear H O))
 have y1:RR (w3.setCell ⟨L.tb n,9,zp⟩ (zd zj (e.half t.hi).id)) (L.tb n) L.gb { t with min:=m,e:={ t.e with id:=(e.half t.hi).id } }:=yD hq.out;have y2:RR _ (L.tb n) L.gb { t with min:=m,e:={ t.e with id:=(e.half t.hi).id,w:=(e.half t.hi).w } }:=yD (u:=zd zk (e.half t.hi).w) (i:=10) y1;have y3:RR _ (L.tb n) L.gb { t with min:=m,e:={ t.e with id:=(e.half t.hi).id,w:=(e.half t.hi).w,v:=(e.half t.hi).v } }:=yD (u:=zd zj (e.half t.hi).v) (i:=11) y2;have y4:RR _ (L.tb n) L.gb { t with min:=m,e:=e.half t.hi }:=yD (u:=zd zk (e.half t.hi).rem) (i:=12) y3
 have y5:RR _ (L.tb n) L.gb { t with min:=m,e:=e.half t.hi,on:=zt }:=yD (u:=zh zt) (i:=3) y4;have Q:OA (fun k=>k=L.tb n) w3 _:=(((((OA.refl (fun k=>k=L.tb n) w3).one (o:=9) (u:=zd zj (e.half t.hi).id)).one (o:=10) (u:=zd zk (e.half t.hi).w)).one (o:=11) (u:=zd zj (e.half t.hi).v)).one (o:=12) (u:=zd zk (e.half t.hi).rem)).one (o:=3) (u:=zh zt);have h2:(((S.OY n { t with min:=m }).OM t.p ((S.hs t.p).drop g.hi t.hi)):Sc).ts[n]?=zo { t with min:=m }:=W.out;have R:=yw (J.out.then ht.out);have h0:=yw (R.out.1.AU h2 Q y5);clear y1 y2 y3 y4 y5 Q h2;go_wp2;go_end0;refine⟨⟨_,rfl⟩,?_⟩;rw[hy.out]
 exact yG.NZ hr.out (R.out.then h0.out)
