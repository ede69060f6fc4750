/- Parts for TopPlaces. Conditions: as stated. -/
import Derived.Test.YtmpdpmhpkgbepaaGreatDoorZ20
set_option linter.unusedVariables false
set_option maxRecDepth 100000
set_option maxHeartbeats 4000000
open Go.Value renaming int->zd,pointer->ze,slice->zf,agg->zg,bool->zh,tuple->zi
open Go.IntKind renaming i64->zj,u64->zk,signed->yq
open Go.Ending renaming returned->zm
open Go.Obj renaming cells->zn
open Option renaming some->zo,none->zp
open Bool renaming true->zq,false->zt
open Go renaming World->zu,Calls->zw
open Option.some renaming inj->zx
open Go.World renaming cell?_setCell_other->zB,cell?->zN
open Go.RowKit.Below renaming heap_setCell->zR,refl->zU
open List renaming mem_map->yh
open Go.Proofs.Tryz
namespace Go.Proofs.YtmpdpmhpkgbepaaGreatDoor
open Go Go.RowKit Go.ChangeShapes Go.WideShapes
variable {i:Int}{w a:zu}{x y:Gr}{e:En}{b q k g u n p:Nat}{F:Nat->Prop}{h:Hm}{qs tg:Nat->Nat}
section
attribute [local go_sem ↓] Go.wp_at_zero Go.wp_at_succ
def vY(i w:Int)(a:En):En:=if Xh i a then{ a with rem:=a.rem*w/a.w,w:=w }else a
theorem Dk(i w:Int)(a:En):(vY i w a).id=a.id:=by unfold vY;split<;>rfl
theorem Ft(i w:Int)(a:En):(vY i w a).key=a.key:=by unfold vY;split<;>rfl
theorem Nw{r n d:Int}(B:0<=r)(A:r<d)(h3:1<=n):0<=r*n/d/\r*n/d<n:=by refine⟨Int.ediv_nonneg (Int.mul_nonneg B (by omega)) (by omega),?_⟩;refine Int.ediv_lt_of_lt_mul (by omega) ?_;rw[Int.mul_comm n d];exact Int.mul_lt_mul_of_pos_right A (by omega)
theorem WU{w:Int}{a:En}(h:a.Ok)(B:2<=w)(A:w<=262144):(vY i w a).Ok:=by
 unfold vY;split
 .exact⟨h.id,⟨B,A⟩,h.v,Nw h.rem.1 h.rem.2 (by omega)⟩
 .exact h
theorem CC{x:Qu}{w:Int}(B:x.get i=zo e)(h1:2<=w)(h2:w<=262144):x.OT i w={ x with l:=x.l.map (vY i w) }:=by
 have A:Yw w=zq:=by simp[Yw];omega
 unfold Qu.OT;rw[B];simp only;rw[if_neg (by rw[A];simp)];rfl
theorem Qu.Ok.OT{x:Qu}(h:x.Ok){w:Int}(H:2<=w)(G:w<=262144):({ x with l:=x.l.map (vY i w) }:Qu).Ok:=by
 have D:(x.l.map (vY i w)).map En.id=x.l.map En.id:=by rw[List.map_map];exact List.map_congr_left fun a _=>Dk i w a
 have I:(x.l.map (vY i w)).map En.key=x.l.map En.key:=by rw[List.map_map];exact List.map_congr_left fun a _=>Ft i w a
 refine⟨?_,by simp only;rw[D];exact h.ids,by simp only;rw[I];exact h.ord,?_,h.min,by simp only[List.length_map];exact h.len⟩
 .intro e E;obtain⟨a,A,rfl⟩:=yh.1 E;exact WU (h.RA a A) H G
 .rcases h.cur with B|⟨a,A,B⟩
  .exact .inl B
  .exact .inr ⟨_,yh.2 ⟨a,A,rfl⟩,by rw[Dk];exact B⟩
theorem Rs{x:Qu}(h:x.Ok)(i w:Int):(x.OT i w).Ok:=by
 unfold Qu.OT;split
 .exact h
 .split
  .exact h
  .rename_i A;have:2<=w/\w<=262144:=by simpa[Yw]using A
   exact h.OT this.1 this.2
theorem Ex.inj{a:En}(h:Ex w b a)(A:Ex w b e):a=e:=by unfold Ex at h A;rw[h]at A;simp at A;obtain⟨h1,h2,h3,h4⟩:=A;cases a;cases e;simp_all
theorem QS.iL{w':zu}{m t:Nat}{g:Int->Option Nat}{y B:Int}{u G:Bool}{x:Qu}(A:QS w F q m t g y u x)(j:e∈x.l)(H:g e.id=zo b)(f:En->En)(hid:∀a,(f a).id=a.id)(E:∀a,(f a).key=a.key)
 (Z:∀a∈x.l,a.id≠e.id->f a=a) (s:Ex w' b (f e)) (o:Qx w' q m t x.cur x.min B G) (O:OA (fun k=>k=q∨k=b) w w') (X:0<=B/\B<=18446744073709551615) (Y:({ x with l:=x.l.map f }:Qu).Ok):QS w' F q m t g B G { x with l:=x.l.map f }:=by
 obtain⟨b',J,V,D⟩:=A.en e j;rw[H]at J;cases J;have p:(x.l.map f).map En.key=x.l.map En.key:=by rw[List.map_map];exact List.map_congr_left fun a _=>E a
 have U:m≠q:=fun e=>A.qx.PN A.mp e.symm;have T:m≠b:=fun e=>D.PN A.mp e.symm;refine⟨o,?_,?_,?_,?_,X,A.om,A.oq,Y⟩
 .simp only[List.length_map];exact A.mp.of (O.block m A.mp.lt (by rintro(h|h);exact U h;exact T h))
 .simp only[p];refine(A.rb.small.kept (w':=w') (xz.PS O fun k hk h=>?_)).mono fun k _ hk=>hk.1;rcases h with rfl|rfl
  .exact A.qx.OL hk.2
  .exact D.OL hk.2
 .intro a' d;obtain⟨a,I,rfl⟩:=yh.1 d;rw[hid];by_cases h:a.id=e.id
  .obtain rfl:=YW A.ok.ids I j h;exact⟨b,H,V,s⟩
  .obtain⟨c,r,n,M⟩:=A.en a I;have N:c≠b:=by rintro rfl;exact h (congrArg En.id (M.inj D))
   refine⟨c,r,n,?_⟩;rw[Z a I h];exact M.of (O.block c M.lt (by rintro(R|R);exact M.AT A.qx R;exact N R))
 .intro k c hk;obtain⟨a,I,v⟩:=A.ge k c hk;exact⟨f a,yh.2 ⟨a,I,rfl⟩,by rw[hid];exact v⟩
theorem Cp(i n:Int)(e:En)(w:zu)(F:Nat->Prop)(q:Nat)(x:Qu)(h:xZ w F q x)(s:x.get i=zo e)(d:2<=n)(K:n<=262144):
 zw prog 140 #[ze (zo ⟨q,0,zp⟩),zd zj i,zd zk n] w fun z w'=>z=zm (zd zj 0)/\xZ w' F q (x.OT i n)/\OA F w w':=by
 obtain⟨m,t,g,Z,ov,U⟩:=h;rw[CC s d K];obtain⟨D,hid⟩:=xu s;have h4:=U.ok.RA e D;obtain⟨hf,hj,hh,hi⟩:=h4;have hI:RH i:=by unfold RH;rw[<-hid];omega
 obtain⟨b,X,l,A⟩:=U.eB s;obtain⟨f,HG,V,y,h3,C,HE⟩:=Qi U s hid D X l A;have h2:(Instr.lookup 213 (.map (zo m)) (zd zj i) zt).run prog w=.ok (ze (zo ⟨b,0,zp⟩)) w:=by have:=U.mp.look hI;rw[X]at this;exact this
 have j:Yw n=zq:=by simp[Yw];omega
 have h1:=yw j;obtain⟨c0,S,P,W,c4,c5⟩:=U.qx.c6;have T:=U.qx.lt;have M:=U.qx.OH;obtain⟨L,Q,e2,e3⟩:=A.c4;have N:=A.lt;have I:=A.OH;have n1:¬b=q:=A.AT U.qx;have n2:¬q=b:=fun e=>n1 e.symm;clear U s hid D X l A j hI;go_enter func140,ntmps140;go_wp2_with fail;refine(JA _ _).mono ?_;rintro z w2 ⟨rfl,hw⟩;obtain rfl:=hw.symm;rw[h1.out];go_wp2_with fail;clear h2;go_region_with
  ((
   go_at_call 91;refine(Vu e.rem n e.w w.drew ⟨by omega,by omega⟩ ⟨by omega,by omega⟩ ⟨by omega,by omega⟩ (Wn ⟨by omega,by omega⟩ ⟨by omega,by omega⟩)).mono ?_;rintro z w3 ⟨rfl,H⟩;obtain⟨h6,J,O⟩:=Qe H ((show Qx w.drew q m t x.cur x.min Z ov from f.out.qx).behind H) ((show Ex w.drew b e from HE.out).behind H);clear H c0 S P W c4 c5 T M L Q e2 e3 N I;obtain⟨c0,S,P,W,c4,c5⟩:=J.out.c6;have T:=J.out.lt;have M:=J.out.OH;obtain⟨L,Q,e2,e3⟩:=O.out.c4;have N:=O.out.lt;have I:=O.out.OH))
 all_goals
  go_upto_region 7 with(fail)
  obtain⟨r,hr⟩:=yB (e.rem*n/e.w)
  rw[<-hr];obtain⟨c,B⟩:=yB (w3.setCell ⟨b,3,zp⟩ (zd zk r))
  have h8:Hid (Qx c q m t x.cur x.min Z ov):=yw (by rw[B];exact J.out.PR n2);have h7:Hid (Ex c b { e with rem:=r }):=yw (by rw[B];exact O.out.AS r);have hc:Hid (OA (fun k=>k=q∨k=b) w c):=yw (by rw[B];exact(OA.NZ (yC (yI (zU _ w)) h6.out (yA _)):OA _ w w3).setCell (.inl (.inr rfl)) _);have HR:=yw hr;rw[<-B];clear B hr c0 S P W c4 c5 T M L Q e2 e3 N I;obtain⟨Y,E⟩:=yB c.drew
  have G:Hid (Qx Y q m t x.cur x.min Z ov):=yw (by rw[E];exact h8.out);have R:Hid (Ex Y b { e with rem:=r }):=yw (by rw[E];exact h7.out);have v:Hid (OA (fun k=>k=q∨k=b) w Y):=yw (by rw[E];exact hc.out.drew);obtain⟨c0,S,P,W,c4,c5⟩:=G.out.c6;have T:=G.out.lt;have M:=G.out.OH;obtain⟨L,Q,e2,e3⟩:=R.out.c4;have N:=R.out.lt;have I:=R.out.OH;refine xd 13 (by kernel_rfl) (by kernel_rfl) Y E ?_;clear E;simp only[List.take_succ_cons,List.take_zero,List.drop_succ_cons,List.drop_zero]
  repeat still_step
  refine wpStill_nil ?_;go_wp2;go_ret;refine⟨rfl,?_,?_⟩
  .have h9:=(G.out.OP (IntKind.u64.wrap (Z+IntKind.u64.wrap (n-e.w)))).PR n2 (o:=1) (u:=zd zk n);have h5:=(R.out.PR n1 (o:=4) (u:=zd zk (IntKind.u64.wrap (Z+IntKind.u64.wrap (n-e.w))))).iJ n;have hT:=(v.out.setCell (.inl (.inl rfl)) (zd zk (IntKind.u64.wrap (Z+IntKind.u64.wrap (n-e.w)))):OA _ w (Y.setCell ⟨q,4,zp⟩ _)).setCell (p:=⟨b,1,zp⟩) (.inl (.inr rfl)) (zd zk n);have he:vY i n e={ e with rem:=r,w:=n }:=by unfold vY;rw[if_pos (by simp[Xh,V.out]),HR.out]
   refine⟨m,t,g,_,ov,f.out.iL y.out (by rw[V.out];exact h3.out) (vY i n) (Dk i n) (Ft i n) (fun a ha h0=>?_) (by rw[he];exact h5) h9 hT (Jg _) (f.out.ok.OT d K)⟩;unfold vY;rw[if_neg (by simp[Xh];rw[<-V.out];exact h0)]
  .exact((v.out.mono fun k hk=>by rcases hk with rfl|rfl;exact f.out.oq;exact C.out).setCell (.inl f.out.oq) _).setCell (.inl C.out) _
theorem WV(a b:Int)(ha: -9223372036854775808<=a/\a<=9223372036854775807): -9223372036854775808<=Xg a b/\Xg a b<=9223372036854775807:=by
 unfold Xg;split
 .rename_i h;unfold Xy at h;simp at h;omega
 .split<;>omega
def Wo(ns:Int)(e:En):En:={ e with v:=Xg e.v ((e.rem+ns*1024) /e.w),rem:=(e.rem+ns*1024) %e.w }
theorem QL{ns:Int}(h:e.Ok):(Wo ns e).Ok:=
 ⟨h.id,h.w,WV _ _ h.v,Int.emod_nonneg _ (by have:=h.w;omega),Int.emod_lt_of_pos _ (by have:=h.w;omega)⟩
theorem Ll{x:Qu}{ns:Int}(A:x.get x.cur=zo e):x.OK ns=({ x with l:=Kj (Wo ns e) (OJ x.cur x.l) }:Qu).raise:=by unfold Qu.OK;rw[A];rfl
theorem Qu.Ok.OK{x:Qu}(h:x.Ok){ns:Int}(G:x.get x.cur=zo e):({ x with l:=Kj (Wo ns e) (_root_.Go.Proofs.YtmpdpmhpkgbepaaGreatDoor.OJ x.cur x.l) }:Qu).Ok:=by
 obtain⟨D,B⟩:=xu G;have E:∀a∈_root_.Go.Proofs.YtmpdpmhpkgbepaaGreatDoor.OJ x.cur x.l,a.id≠(Wo ns e).id:=fun a A=>by have:=(xB.1 A).2;show a.id≠e.id;rw[B];exact this
 refine⟨fun a A=>?_,Rf (Fl h.ids) E,Rg (Fm h.ord) E,.inr ⟨Wo ns e,(qt _ _ _).2 (.inl rfl),B⟩,h.min,?_⟩
 .rcases(qt _ _ a).1 A with rfl|A
  .exact QL (h.RA e D)
  .exact h.RA a (xB.1 A).1
 .have:=Xz h.ids D;rw[B]at this;have:=h.len;simp only[Kr];omega
theorem TS{x:Qu}(h:x.Ok)(ns:Int):(x.OK ns).Ok:=by
 cases hg:x.get x.cur with
 | none=>unfold Qu.OK;rw[hg];exact h
 | some e=>rw[Ll hg];exact(h.OK hg).raise
theorem OA.one{o:Nat}{u:Value}(h:OA (fun k=>k=q) a w):OA (fun k=>k=q) a (w.setCell ⟨q,o,zp⟩ u):=h.setCell (p:=⟨q,o,zp⟩) (.inl rfl) u
theorem OA.TT{b:zu}(h:OA F a.drew b):OA F a b:=⟨h.os,h.tape,h.output,h.size,h.block⟩
theorem Ny(ns:Int)(e:En)(w:zu)(F:Nat->Prop)(q:Nat)(x:Qu)(h:xZ w F q x)(hg:x.get x.cur=zo e)(kh:0<=ns)(kv:ns<=1000000000):
 zw prog 151 #[ze (zo ⟨q,0,zp⟩),zd zk ns] w fun z w'=>z=zm (zd zj 0)/\xZ w' (Ext F w w') q (x.OK ns)/\OA F w w':=by
 obtain⟨m,t,g,ld,ov,hq⟩:=h;obtain⟨y,hy⟩:=yB (x.OK ns)
 rw[<-hy];rw[Ll hg]at hy;have HY:=yw hy;obtain⟨S,hid⟩:=xu hg;have kk:=hq.ok.RA e S;obtain⟨kx,K2,kn,kz⟩:=kk;have ky:(x.cur == -1)=zt:=beq_eq_false_iff_ne.2 (by omega);obtain⟨b,ke,k1,hj⟩:=hq.eB hg;obtain⟨N,HG,C,J,Hy,kb,HE,hc⟩:=Qj hq hg hid S ke k1 hj hq.ok.len;have ki:∀n,(Instr.lookup 213 (.map (zo m)) (zd zj x.cur) zt).run prog (w.drewN n)=.ok (ze (zo ⟨b,0,zp⟩)) (w.drewN n):=fun n=>by
  have:=N.out.PU n;rw[HG.out]at this;obtain⟨p,hp,k4,_,_⟩:=xk N.out J.out;have:p=b:=by rw[C.out,Hy.out]at k4;exact(zx k4).symm
  subst this;have h2:=N.out.PU n;rw[HG.out,hp]at h2;exact h2
 obtain⟨j,T,O,V,Z,s⟩:=hq.qx.c6;have D:=hq.qx.lt;have B:=hq.qx.OH;obtain⟨e0,e1,e2,e3⟩:=hj.c4;have n1:¬b=q:=hj.AT hq.qx;have n2:¬q=b:=fun e=>n1 e.symm;obtain⟨d,hd⟩:=yB ((e.rem+ns*1024) /e.w)
 obtain⟨r,hr⟩:=yB ((e.rem+ns*1024) %e.w)
 have K1:0<=d:=by rw[hd];exact Int.ediv_nonneg (by omega) (by omega)
 have K0:d<=e.rem+ns*1024:=by rw[hd];exact Int.ediv_le_self _ (by omega)
 obtain⟨HD,HR,HV⟩:=Qe hd hr kn;clear hq hg hid S ke k1 hj hy hd hr;go_enter_defers func151,ntmps151;go_wp2_with fail;go_quiet (fail);go_wp2_with fail;obtain⟨w2,K⟩:=yB (w.drewN nq)
 have kt:Hid (QS w2 F q m t g ld ov x):=yw (by rw[K];exact N.out.kept fun k _ _=>rfl);have ko:Hid (Below w.heap.size w w2):=yw (by rw[K];exact yH (zU _ w) nq);have kc:Hid (Ex w2 b e):=yw (by rw[K];exact HE.out);rw[<-K];clear K ki j T O V Z s D B e0 e1 e2 e3;obtain⟨e0,e1,e2,e3⟩:=kc.out.c4;go_region_held3 (fun w'=>w'.cell? ⟨b,1,zp⟩=zo (zd zk e.w)/\w'.cell? ⟨b,3,zp⟩=zo (zd zk e.rem)) (go_keep)
  ((
   go_at_call 200;refine(Vr.TS e.w e.rem ns w2.drew (by omega) (by omega) (by omega) (by omega) kh kv).mono ?_;rintro z E ⟨rfl,n3,rfl⟩;rw[<-HD.out,<-HR.out]))
 all_goals
  obtain⟨E,h5⟩:=yB (w2.drewN (1+n3))
  have A:Hid (QS E F q m t g ld ov x):=yw (by rw[h5];exact kt.out.kept fun k _ _=>rfl);have k8:Hid (Below w.heap.size w E):=yw (by rw[h5];exact yH ko.out (1+n3));have M:Hid (Ex E b e):=yw (by rw[h5];exact kc.out);rw[<-h5];clear h5 e0 e1 e2 e3;obtain⟨j,T,O,V,Z,s⟩:=A.out.qx.c6;have D:=A.out.qx.lt;have B:=A.out.qx.OH;obtain⟨e0,e1,e2,e3⟩:=M.out.c4;obtain⟨bi,H9⟩:=yB (Xy (e.v+d))
  go_wp2_with fail;refine(IE e.v d _ HV.out ⟨by omega,by omega⟩).mono ?_;rintro z w4 ⟨rfl,kg⟩;obtain rfl:=kg;rw[<-H9];clear H9;cases ov<;>cases bi
  all_goals
   go_upto_region 12 with(fail)
   first
    | (
     obtain⟨I,G⟩:=yB (E.setCell ⟨q,5,zp⟩ (zh zq))
     rw[<-G];obtain⟨o,ho⟩:=yB zq
     rw[<-ho]at G)
    | (
     obtain⟨I,G⟩:=yB (E.setCell ⟨q,5,zp⟩ (zh zt))
     rw[<-G];obtain⟨o,ho⟩:=yB zt
     rw[<-ho]at G)
   have hl:Hid (Qx I q m t x.cur x.min ld o):=yw (by rw[G];exact A.out.qx.fH o);have H4:Hid (Ex I b e):=yw (by rw[G];exact M.out.PR n1);have k3:Hid (OA (fun k=>k=q) E I):=yw (by rw[G];exact(OA.refl _ E).one);have ks:Hid (Rb I (fun k=>F k/\Tb E k) t (x.l.map En.key)):=yw (by rw[G];exact A.out.rb.small.kept fun k hk U=>zR _ _ _ _ (by show k≠q;rintro rfl;exact A.out.qx.OL U.2));clear G ho j T O V Z s D B e0 e1 e2 e3;obtain⟨j,T,O,V,Z,s⟩:=hl.out.c6;have D:=hl.out.lt;have B:=hl.out.OH;go_region_held3 (fun w'=>w'.cell? ⟨q,1,zp⟩=zo (ze (zo ⟨t,0,zp⟩))) (go_keep)
    (first
     | (
      go_at_call 204;refine(Eo b e I.drew H4.out).mono ?_;rintro z w6 ⟨rfl,H3⟩;have Q:=yw H3;have W:=yw ((show Qx I.drew q m t x.cur x.min ld o from hl.out).behind H3);clear H3 j T O V Z s D B;obtain⟨j,T,O,V,Z,s⟩:=W.out.c6;have D:=W.out.lt;have B:=W.out.OH)
     | (
      go_at_call 203;refine(Cm e.v e.id w6 _ t (x.l.map En.key) (ks.out.kept (w':=w6) (xz.NZ (w:=I.drew) Q.out)) ?_ ?_).mono ?_
      .exact yh.2 ⟨e,J.out,rfl⟩
      .have:=hc.out;simp;omega
      rintro z w7 ⟨rfl,k2,hu⟩;obtain⟨km,ka,hn,H5⟩:=Qf k2 hu (W.out.of (hu.block q W.out.lt (fun hk=>A.out.qx.OL hk.2))) (((show Ex I.drew b e from H4.out).behind Q.out).of (hu.block b ((show Ex I.drew b e from H4.out).behind Q.out).lt (fun hk=>M.out.OL hk.2)));clear k2 hu j T O V Z s D B;obtain⟨j,T,O,V,Z,s⟩:=hn.out.c6;have D:=hn.out.lt;have B:=hn.out.OH))
   obtain⟨e0,e1,e2,e3⟩:=H5.out.c4;have H1:=H5.out.OH;go_wp2_with fail;refine(No e.v d _ HV.out ⟨by omega,by omega⟩).mono ?_;rintro z w8 ⟨rfl,k5⟩;obtain⟨v,hv⟩:=yB (Xg e.v d)
   rw[<-hv];have P:Below w7.heap.size w7 w8:=by rw[k5];exact yE w7 _
   obtain⟨kp,hz,kw,k7,kj⟩:=Qg (hn.out.behind P) (H5.out.behind P) (km.out.behind P) P hv;clear k5 P hv j T O V Z s D B e0 e1 e2 e3 H1;obtain⟨e0,e1,e2,e3⟩:=hz.out.c4;have H1:=hz.out.OH;go_upto_region 14 with(fail)
   obtain⟨X,u⟩:=yB ((w8.setCell ⟨b,2,zp⟩ (zd zj v)).setCell ⟨b,3,zp⟩ (zd zk r))
   obtain⟨f,U⟩:=yB (Wo ns e)
   have Hg:f={ e with v:=v,rem:=r }:=by rw[U,kj.out,HR.out,HD.out];rfl
   have k0:Hid (Ex X b f):=yw (by rw[u,Hg];exact(hz.out.cV v).AS r);have ht:Hid (Qx X q m t x.cur x.min ld o):=yw (by rw[u];exact(kp.out.PR n2).PR n2);have kl:Hid (Rb X (fun k=>F k/\Tb E k) t ((x.l.map En.key).erase e.key)):=yw (by rw[u];have hs:∀k,F k/\Tb E k->k≠b:=fun k hk h=>M.out.OL (h▸hk.2);exact(kw.out.kept fun k hk U=>zR _ _ _ _ (hs k U)).kept fun k hk U=>zR _ _ _ _ (hs k U))
   have k9:Hid (OA (fun k=>k=b) w8 X):=yw (by rw[u];exact(OA.refl _ w8).one.one);have HF:=yw U;rw[<-u];clear u U Hg e0 e1 e2 e3 H1;obtain⟨j,T,O,V,Z,s⟩:=ht.out.c6;have D:=ht.out.lt;have B:=ht.out.OH;go_region_held3 (fun w'=>w'.cell? ⟨q,1,zp⟩=zo (ze (zo ⟨t,0,zp⟩))) (go_keep)
    (first
     | (
      go_at_call 204;refine(Eo b f X.drew k0.out).mono ?_;rintro z h6 ⟨rfl,h0⟩;have Y:=yw h0;have H:=yw ((show Qx X.drew q m t x.cur x.min ld o from ht.out).behind h0);clear h0 j T O V Z s D B;obtain⟨j,T,O,V,Z,s⟩:=H.out.c6;have D:=H.out.lt;have B:=H.out.OH)
     | (
      go_at_call 205;refine(Cl f.v f.id h6 _ t ((x.l.map En.key).erase e.key) (kl.out.kept (w':=h6) (xz.NZ (w:=X.drew) Y.out)) ?_ ?_).mono ?_
      .have hk:=uC N.out.ok.ids J.out;rw[<-hk];intro hm;obtain⟨a,ha,hk⟩:=yh.1 hm;refine(xB.1 ha).2 ?_;have:a.id=f.id:=congrArg Prod.snd hk;rw[this,HF.out];rfl
      .have h1:=hc.out;have h2:=List.length_erase_le (a:=e.key) (l:=x.l.map En.key);simp only[List.length_map]at h2;omega
      rintro z H2 ⟨rfl,h8,h4⟩;obtain⟨h7,h9,R⟩:=Qe h8 h4 (H.out.of (h4.block q H.out.lt (fun hk=>A.out.qx.OL hk.2)));clear h8 h4 j T O V Z s D B;obtain⟨j,T,O,V,Z,s⟩:=R.out.c6;have D:=R.out.lt;have B:=R.out.OH))
   go_wp2;have k6:=N.out.ok.OK (ns:=ns) HG.out;have H6:uG f.key ((x.l.map En.key).erase e.key)=(Kj f (OJ x.cur x.l)).map En.key:=by rw[uX];have:=uC N.out.ok.ids J.out;rw[C.out]at this;rw[this]
   refine leaves_cons (f:=201) (args:=#[ze (zo ⟨q,0,zp⟩)]) (by simp) (by simp[go_sem]) ?_;refine(Ep .returning _ _ q m t x.cur x.min ld o (uG f.key ((x.l.map En.key).erase e.key)) R.out (h7.out.kept fun k _ _=>rfl) ?_ N.out.ok.min).mono ?_
   .intro k hk;rw[H6]at hk;obtain⟨a,ha,rfl⟩:=yh.1 hk;rw[HF.out]at ha;exact(k6.RA a ha).v
   rintro z u' hx ⟨rfl,rfl,H7,L⟩;have hy:=HY.out;rw[<-HF.out]at hy;have H0:OA (fun k=>(k=q∨k=b)∨(F k/\Tb E k)) E hx:=by
    have t1:OA (fun k=>(k=q∨k=b)∨(F k/\Tb E k)) E I:=k3.out.mono fun k hk=>.inl (.inl hk);have t2:OA (fun k=>(k=q∨k=b)∨(F k/\Tb E k)) I w6:=(OA.NZ Q.out).TT;have t3:OA (fun k=>(k=q∨k=b)∨(F k/\Tb E k)) w6 w7:=ka.out.mono fun k hk=>.inr hk;have t4:OA (fun k=>(k=q∨k=b)∨(F k/\Tb E k)) w7 w8:=OA.NZ k7.out;have t5:OA (fun k=>(k=q∨k=b)∨(F k/\Tb E k)) w8 X:=k9.out.mono fun k hk=>.inl (.inr hk);have t6:OA (fun k=>(k=q∨k=b)∨(F k/\Tb E k)) X h6:=(OA.NZ Y.out).TT;have t7:OA (fun k=>(k=q∨k=b)∨(F k/\Tb E k)) h6 H2:=h9.out.mono fun k hk=>.inr hk;have t8:OA (fun k=>(k=q∨k=b)∨(F k/\Tb E k)) H2 hx:=L.mono fun k hk=>.inl (.inl hk)
    exact((((((t1.trans t2 fun k hk=>.inl hk).trans t3 fun k hk=>.inl hk).trans t4 fun k hk=>.inl hk).trans t5 fun k hk=>.inl hk).trans t6 fun k hk=>.inl hk).trans t7 fun k hk=>.inl hk).trans t8 fun k hk=>.inl hk
   have hT:OA F w hx:=(OA.NZ k8.out).trans (H0.mono fun k hk=>by
    rcases hk with(rfl|rfl)|hk
    .exact N.out.oq
    .exact kb.out
    .exact hk.1) fun k hk=>.inl hk
   have z1:=k8.out.size;have z2:=k3.out.size;have z3:=Q.out.size;have z4:=ka.out.size;have z5:=k7.out.size;have z6:=k9.out.size;have z7:=Y.out.size;have za:I.drew.heap.size=I.heap.size:=rfl;have zb:X.drew.heap.size=X.heap.size:=rfl;have H8:Ex hx b f:=by have a1:Ex h6 b f:=(show Ex X.drew b f from k0.out).behind Y.out;have a2:Ex H2 b f:=a1.of (h9.out.block b a1.lt fun hk=>M.out.OL hk.2);exact a2.of (L.block b a2.lt n1)
   have hw:y.l=Kj f (OJ x.cur x.l):=by rw[hy,uz]
   have ku:y.cur=x.cur:=by rw[hy,uY]
   have kq:y.min=Uj x.min (uG f.key ((x.l.map En.key).erase e.key)):=by rw[H6,hy,Wh]
   have hh:y.l.length=x.l.length:=by have:=Xz N.out.ok.ids J.out;rw[C.out]at this;rw[hw,Kr];exact this
   have he:f.id=e.id:=by rw[HF.out];rfl
   refine⟨_,results_tmp rfl _ _ _,rfl,⟨m,t,g,ld,o,⟨?_,?_,?_,?_,?_,N.out.ld,.inl N.out.om,.inl N.out.oq,by rw[hy,HF.out];exact k6.raise⟩⟩,hT⟩
   .rw[ku,kq];exact H7
   .rw[hh];refine A.out.mp.of (H0.block m A.out.mp.lt ?_);rintro((h|h)|h)
    .exact A.out.qx.PN A.out.mp h.symm
    .exact M.out.PN A.out.mp h.symm
    .exact A.out.mp.OL h.2
   .rw[hw,<-H6];refine(h7.out.kept (xz.PS L fun k hk h=>?_)).mono fun k hk U=>?_
    .subst h;rcases hk with hk|hk
     .exact A.out.qx.OL hk.2
     .have:=H.out.lt;omega
    .rcases U with U|U
     .exact .inl U.1
     .exact .inr ⟨by omega,by omega⟩
   .intro a ha;rw[hw]at ha;rcases(qt f _ a).1 ha with rfl|ha
    .exact⟨b,by rw[he,C.out];exact Hy.out,.inl kb.out,H8⟩
    .obtain⟨kf,kd⟩:=xB.1 ha;obtain⟨c,h1,h2,h3⟩:=A.out.en a kf;have kr:c≠b:=by rintro rfl;have:=h3.inj M.out;rw[this,C.out]at kd;exact kd rfl
     refine⟨c,h1,.inl h2,h3.of (H0.block c h3.lt ?_)⟩;rintro((h|h)|h)
     .exact h3.AT A.out.qx h
     .exact kr h
     .exact h3.OL h.2
   .intro k c hk;obtain⟨a,ha,hi⟩:=N.out.ge k c hk;rw[hw];by_cases h:a.id=x.cur
    .refine⟨f,(qt f _ f).2 (.inl rfl),?_⟩;rw[he,C.out,<-h,hi]
    .exact⟨a,(qt f _ a).2 (.inr (xB.2 ⟨ha,h⟩)),hi⟩
theorem CE:(prog.info? 80).map (fun i=>(i.zero,i.size,i.bytes))=zo (zo (zg #[zd zj 0,zd zk 0,zd zj 0,zd zk 0]),4,32):=by kernel_rfl
theorem MR{l:List (Int×Int)}{a:Int×Int}(h:l[k]?=zo a):(bS l)[2*k]?=zo (zd zj a.1)/\(bS l)[2*k+1]?=zo (zd zj a.2):=by
 induction l generalizing k with
 | nil=>simp at h
 | cons b l ih=>
  cases k with
  | zero=>simp at h;subst h;simp[bS]
  | succ k=>
   simp at h;have:=ih h;have e:bS (b::l)=zd zj b.1::zd zj b.2::bS l:=by simp[bS]
   rw[e,show 2*(k+1)=2*k+1+1 by omega,show 2*k+1+1+1=(2*k+1)+1+1 by omega];simpa using this
theorem un(w:zu)(F:Nat->Prop)(q:Nat)(x:Qu)(h:xZ w F q x):
 zw prog 126 #[ze (zo ⟨q,0,zp⟩)] w fun z w'=>(∃a c,z=zm (zf a x.l.length c))/\Below w.heap.size w w':=by
 obtain⟨m,t,g,ld,ov,j⟩:=h;obtain⟨i0,hi,h9,hg,hc⟩:=info_parts CE;have HQ:=yw j;have C:=yw j.ok.len;have HW:=yw (WO w F t (x.l.map En.key) j.rb (by have:=j.ok.len;simp;omega));rw[List.length_map]at HW;obtain⟨c0,c1,c2,c3,c4,c5⟩:=j.qx.c6;have f:=j.qx.lt;clear j;go_enter func126,ntmps126;go_wp2_with fail;refine HW.out.mono ?_;rintro z p ⟨a,c,rfl,T,u⟩;have K:=yw T;have H:=yw u;clear T u c0 c1 c2 c3 c4 c5 f;go_wp2_with fail
 go_loopw [3,14] (fun vl i wr=>∃(k:Nat) (ar:Option Addr) (W:Nat) (cs:List Value),k<=x.l.length/\vl=zf ar k W/\i=zd zj k/\wr.ownsRow p.heap.size 80 4 (zf ar k W) k cs/\Below p.heap.size p wr) (fun _ i _=>x.l.length-(intOf i).toNat)
 case atStart=>exact⟨0,zp,0,[],by omega,rfl,rfl,World.ownsRow_nil _ _ _ _,zU _ _⟩
 case round=>
  obtain⟨k,ar,W,cs,hk,rfl,rfl,V,hb⟩:=hrel;have HO:=yw V;have Q:=yw hb;clear V hb;by_cases h0:k<x.l.length
  .obtain⟨e,he⟩:∃e,x.l[k]?=zo e:=⟨_,List.getElem?_eq_getElem h0⟩
   have R:e∈x.l:=List.mem_of_getElem? he;have r:(x.l.map En.key)[k]?=zo e.key:=by rw[List.getElem?_map,he];rfl
   obtain⟨k1,k2⟩:=MR r;have d:=qQ K.out Q.out;obtain⟨Y,ca,hf⟩:=Xe d (by intro h;injection h with h1 h2;omega);injection hf with e1 e2 e3
   subst e1;subst e3;have Z:=d.cells (g:=Y) rfl;have q1:=Z _ _ k1;have q2:=Z _ _ k2;have h6:wr.cell? ⟨Y,k*2,zp⟩=zo (zd zj e.v):=by rw[show(⟨Y,k*2,zp⟩:Addr)=(⟨Y,0,zp⟩:Addr).add (2*k)by simp[Addr.add,Nat.mul_comm]];exact q1
   have hm:wr.cell? ⟨Y,k*2+1,zp⟩=zo (zd zj e.id):=by rw[show(⟨Y,k*2+1,zp⟩:Addr)=(⟨Y,0,zp⟩:Addr).add (2*k+1)by simp[Addr.add,Nat.mul_comm]];exact q2
   have HM:=yw R;clear Z q1 q2 k1 k2 r he d R;go_upto_region 7 with(fail)
   obtain⟨A,M⟩:=yB (wr.alloc (xI e.v e.id))
   have O:Below wr.heap.size wr A:=by rw[M];exact yE wr _
   have K5:Kx A wr.heap.size e.v e.id:=by rw[M];exact Kx.new wr e.v e.id
   obtain⟨B,hB⟩:=yB wr.heap.size
   rw[show wr.alloc (zn #[zd zj e.v,zd zj e.id] 289)=A from M.symm,<-hB];rw[<-hB]at K5;obtain⟨J,s,n,P,hl⟩:=Qg ((HQ.out.kept (.NZ (yC H.out Q.out H.out.size))).kept (.NZ O)) (qQ HO.out O) (yC Q.out O Q.out.size) K5 hB;clear M O K5 hB h6 hm;obtain⟨b,S,h5,U⟩:=(HQ.out.kept (.NZ H.out)).en e HM.out;have X:=U.behind n.out;have G:=U.lt;have y:=(HQ.out.qx.behind H.out).lt;have hI:RH e.id:=by unfold RH;have:=(J.out.ok.RA e HM.out).id;omega
   have h4:(Instr.lookup 213 (.map (zo m)) (zd zj e.id) zt).run prog A.drew=.ok (ze (zo ⟨b,0,zp⟩)) A.drew:=by have:=(J.out.mp.of (w':=A.drew) rfl).look hI;rw[S]at this;exact this
   obtain⟨c0,c1,c2,c3,c4,c5⟩:=J.out.qx.c6;have f:=J.out.qx.lt;obtain⟨e0,e1,e2,e3⟩:=X.c4;have N:=X.lt;obtain⟨k0,k1⟩:=P.out.c2;have hh:=P.out.lt;have ho:=n.out.size;have hn:=C.out;clear S h5 X hI c1 c2 c3 c4 c5;go_region_held3 (fun w'=>w'.cell? ⟨q,0,zp⟩=zo (.map (zo m))/\w'.cell? ⟨B,1,zp⟩=zo (zd zj e.id)/\w'.cell? ⟨b,0,zp⟩=zo (zd zj e.id)/\w'.cell? ⟨b,1,zp⟩=zo (zd zk e.w)/\w'.cell? ⟨b,2,zp⟩=zo (zd zj e.v)/\w'.cell? ⟨b,3,zp⟩=zo (zd zk e.rem)) (go_keep)
    ((
     refine step_append_lies _ (by rfl) _ _ _ (by rfl) p.heap.size 80 i0 _ 4 32 underlying222 hi h9 hg hc rfl (by omega) (zf ar k W) k cs (by rfl) (s.out.alloc _)
      ⟨A.heap.size,0,zp⟩ 1 1 [zd zj e.id,zd zk e.w,zd zj e.v,zd zk e.rem] (by rfl) (by rfl) (World.news_of_block (cs:=vG e) (t:=80) (fr:=(0,0)) (heap_alloc_new A _)) (by simp[Value.oneCell'])
      (by omega) (by unfold maxLen;omega) (by omega) (by first|omega|(simp;omega)) (A.heap.size+1) (by first|rfl|simp) ?_
     intro g2 cap2 w6 I E hj h7;have h3:=yw I;have L:Below p.heap.size p w6:=by refine(yI (n.out.alloc (by omega) (Rm e))).grown E (by simp;omega) ?_;intro k hk;exact(s.out.lt k hk).1
     have D:∀k o,k<A.heap.size->(k<p.heap.size∨k=B)->w6.cell? ⟨k,o,zp⟩=A.cell? ⟨k,o,zp⟩:=fun k o hk hp=>by have h1:w6.heap[k]?=(A.alloc (Rm e)).drew.heap[k]?:=E.block k (by simp;omega) (fun e'=>by have:=HO.out.lt k e'.symm;have:=hl.out;omega);have h2:(A.alloc (Rm e)).drew.heap[k]?=A.heap[k]?:=Below.heap_alloc _ _ _ hk;simp[zN,h1.trans h2]
     have s0:=(D q 0 f (.inl y)).trans c0;have s1:=(D B 1 hh (.inr rfl)).trans k1;have s2:=(D b 0 N (.inl G)).trans e0;have s3:=(D b 1 N (.inl G)).trans e1;have s4:=(D b 2 N (.inl G)).trans e2;have s5:=(D b 3 N (.inl G)).trans e3;have h8:=yw L;clear I E hj h7 L D))
   clear h4;go_wp2_with fail;go_roundw
   case rel=>exact⟨k+1,_,_,_,by omega,rfl,by go_num,h3.out,h8.out⟩
   case measure=>simp[intOf];omega
  .have ha:k=x.l.length:=by omega
   subst ha;go_wp2;go_ret;exact⟨⟨_,_,rfl⟩,yC H.out Q.out H.out.size⟩
end
theorem Vv(hk:h.Ok)(B:h.gs g=zo x)(h1:x.up=u):g≠0/\g≠u/\∃y,h.gs u=zo y/\x.deep=y.deep+1:=by
 have A:g≠0:=by rintro rfl;obtain⟨r,E,hu,_⟩:=hk.root;rw[B]at E;cases E;omega
 obtain⟨G,y,h0,D,hd⟩:=hk.up g x B A;have:G=u:=by omega
 subst this;refine⟨A,?_,y,D,hd⟩;rintro rfl;rw[B]at D;cases D;omega
theorem QM(hk:h.Ok)(I:h.gs g=zo x)(G:x.up=u)(U:h.gs u=zo y)(R:x.on=zt):
 (x.PV y.q.min h.credit).Ok/\(x.PV y.q.min h.credit).id=2*g+1/\y.q.get (x.PV y.q.min h.credit).id=zp/\y.q.l.length<128/\
  ((h.set u (y.OD (y.q.put (x.PV y.q.min h.credit)))).set g (x.SF y.q.min h.credit)).Ok:=by
 obtain⟨V,O,_⟩:=Vv hk I G;obtain⟨T,X⟩:=hk.own g x I V;obtain⟨E,J⟩:=hk.q u y U;have h0:=hk.TG g x I;have N:=Gr.dO (x:=x) T y.q.min h.credit;have A:(x.PV y.q.min h.credit).id=2*g+1:=X;have D:y.q.get (x.PV y.q.min h.credit).id=zp:=by
  rw[A];cases hgg:y.q.get (2*(g:Int)+1)with
  | none=>rfl
  | some a=>
   have:=(hk.on u y g x U I G).1 (Vq.2 (by rw[hgg];simp));rw[R]at this;cases this
 have B:=room E J (i:=2*(g:Int)+1) (by omega) (by rw[<-A];exact D);have H:=Nr E N D B;refine⟨N,A,D,B,?_⟩;refine hk.step I G U O rfl rfl rfl ⟨N,A⟩ rfl rfl rfl rfl (QK E N D B) ?_ ?_ ?_
 .intro a Z;rcases(H a.id).1 ⟨a,Z,rfl⟩with M|⟨b,hb,Y⟩
  .rw[M,A];omega
  .rw[<-Y];exact J b hb
 .intro c hc;show(y.q.put _).has _↔_;rw[H,A];constructor
  .rintro(M|M)
   .omega
   .exact M
  .exact .inr
 .show(y.q.put _).has _↔_;rw[H,A];exact⟨fun _=>rfl,fun _=>.inl rfl⟩
theorem Fu(hk:h.Ok)(G:h.gs g=zo x)(B:x.up=u)(J:h.gs u=zo y)(I:x.on=zq):
 y.q.get (2*g+1)=zo (x.RF y.q g)/\((h.set u (y.OD (y.q.drop (2*g+1)))).set g (x.go (x.RF y.q g))).Ok:=by
 obtain⟨M,H,_⟩:=Vv hk G B;obtain⟨h0,h1⟩:=hk.own g x G M;obtain⟨A,N⟩:=hk.q u y J;have D:=Fp A (2*(g:Int)+1);have O:y.q.has (2*g+1):=(hk.on u y g x J G B).2 I;have E:y.q.get (2*g+1)=zo (x.RF y.q g):=by
  unfold Gr.RF;cases hgg:y.q.get (2*(g:Int)+1)with
  | none=>exact absurd hgg (Vq.1 O)
  | some a=>rfl
 refine⟨E,?_⟩;refine hk.step G B J H rfl rfl rfl ⟨A.RA _ (xu E).1,(xu E).2⟩ rfl rfl rfl rfl (Nt A _) (Ns N fun i R=>((D i).1 R).2) ?_ ?_
 .intro c hc;show(y.q.drop _).has _↔_;rw[D];exact⟨fun h=>h.2,fun h=>⟨by omega,h⟩⟩
 .show(y.q.drop _).has _↔_;rw[D];exact⟨fun h=>absurd rfl h.1,fun h=>by cases h⟩
theorem set_set(h:Hm)(h0:g≠u)(a b c:Gr):((h.set g a).set u b).set g c=(h.set u b).set g c:=by
 unfold Hm.set
 congr 1
 funext k;simp only;by_cases e:k=g
 .simp[e]
 .by_cases A:k=u
  .simp[A]
  .simp[e,A]
theorem Rt(E:h.gs g=zo x)(B:x.up=u)(D:h.gs u=zo y)(hs:x.OQ=zq)(A:x.on=zt):
 h.settle (n+1) g=Hm.settle n ((h.set u (y.OD (y.q.put (x.PV y.q.min h.credit)))).set g (x.SF y.q.min h.credit)) u:=by
 have e:x.up.toNat=u:=by rw[B];rfl
 conv=>lhs;unfold Hm.settle
 rw[E];simp only;rw[if_neg (by omega),e,D];simp only;rw[if_neg (by rw[hs,A];simp),if_pos hs]
theorem Lm(E:h.gs g=zo x)(B:x.up=u)(D:h.gs u=zo y)(hs:x.OQ=zt)(A:x.on=zq):
 h.settle (n+1) g=Hm.settle n ((h.set u (y.OD (y.q.drop (2*g+1)))).set g (x.go (x.RF y.q g))) u:=by
 have e:x.up.toNat=u:=by rw[B];rfl
 conv=>lhs;unfold Hm.settle
 rw[E];simp only;rw[if_neg (by omega),e,D];simp only;rw[if_neg (by rw[hs,A];simp),if_neg (by rw[hs];simp)]
theorem Kt(B:h.gs g=zo x)(hs:x.up<0∨x.OQ=x.on):h.settle (n+1) g=h:=by
 conv=>lhs;unfold Hm.settle
 rw[B];simp only;split
 .rfl
 .rename_i A;split
  .rfl
  .rcases hs with hs|hs
   .exact absurd hs A
   .rw[if_pos hs]
theorem HS.AG{w':zu}{ps:Nat->Option Nat}(hs:HS w F p h ps qs tg)(d:h.gs g=zo x)(hb:ps g=zo b)
 (R:OA (fun k=>k=b) w w') (E:w'.heap.size=w.heap.size) (T:PW w' b (qs g) y) (V:y.q=x.q):HS w' F p (h.set g y) ps qs tg:=by
 obtain⟨D,G,a,tb,gb,U⟩:=hs.gx g x d;obtain rfl:D=b:=by rw[hb]at G;exact(zx G).symm
 have A:∀k,k<w.heap.size->k≠D->w'.heap[k]?=w.heap[k]?:=fun k hk B=>R.block k hk B;refine⟨?_,?_,?_,hs.inj,hs.fp,hs.tp⟩
 .exact hs.hx.of (A p hs.hx.lt (hs.hx.fN gb))
 .intro k hk;by_cases e:k=g
  .subst e;rw[yO]at hk;cases hk
  .rw[yJ h y e]at hk;exact hs.eK k hk
 .intro k z E;by_cases e:k=g
  .subst e;rw[yO]at E;cases E;refine⟨D,hb,a,tb,T,?_⟩;rw[V];refine U.kept fun j J H=>A j J ?_;rintro rfl;have I:=H.2;rw[tb]at I;omega
  .rw[yJ h y e]at E;obtain⟨c,N,O,Z,M,X⟩:=hs.gx k z E;have B:c≠D:=fun Y=>e (hs.inj k g D (Y▸N) hb);refine⟨c,N,O,Z,M.of (A c M.lt B),X.kept fun j J H=>A j J ?_⟩;rintro rfl;have I:=H.2;rw[tb]at I;omega
theorem HS.dP{w':zu}{ps:Nat->Option Nat}(hs:HS w F p h ps qs tg){q':Qu}(D:h.gs g=zo x)
 (B:OA (fun k=>F k/\tg k=g+1) w w') (E:xZ w' (Ext (fun k=>F k/\tg k=g+1) w w') (qs g) q'):HS w' (Ext F w w') p (h.set g (x.OD q')) ps qs (fun k=>if k<w.heap.size then tg k else g+1):=by
 obtain⟨G,A,fb,tb,gb,qb⟩:=hs.gx g x D;refine hs.OV D A (B.mono fun k hk=>.inr hk) ?_ E;exact gb.of (B.block G gb.lt (by rintro⟨_,e⟩;rw[tb]at e;omega))
theorem HS.RT{ps:Nat->Option Nat}(hs:HS w F p h ps qs tg)(A:h.gs g=zo x):xZ w (fun k=>F k/\tg k=g+1) (qs g) x.q:=by obtain⟨b0,h0,fb,tb,gb,B⟩:=hs.gx g x A;exact B
theorem HS.PJ{ps:Nat->Option Nat}(hs:HS w F p h ps qs tg)(E:h.gs g=zo x):∃b,ps g=zo b/\F b/\tg b=0/\PW w b (qs g) x:=by obtain⟨B,A,D,tb,gb,qb⟩:=hs.gx g x E;exact⟨B,A,D,tb,gb⟩
theorem OA.exts{G:Nat->Prop}{b c:zu}(B:OA F a b)(A:OA (Ext F a b) b c):OA F a c:=B.trans A fun k hk=>by
 rcases hk with hk|⟨hk,_⟩
 .exact .inl hk
 .exact .inr hk
section
attribute [local go_sem ↓] Go.wp_at_zero Go.wp_at_succ
def vZ(w:zu)(F:Nat->Prop)(p:Nat)(A:Hm)(z:Ending)(w':zu):Prop:=z=zm (zi #[])/\yT w' (Ext F w w') p A/\OA F w w'
theorem Ru(w:zu)(F:Nat->Prop)(p g:Nat)(h:Hm)(x:Gr)(G:yT w F p h)(B:h.gs g=zo x)(H:x.up= -1):
 zw prog 133 #[ze (zo ⟨p,0,zp⟩),zd zj g] w (vZ w F p h):=by
 have N:=yw G;obtain⟨⟨ps,qs,tg,hs⟩,A⟩:=G;have hk:=A.TG g x B;obtain⟨b,E,I,M,D⟩:=hs.PJ B;have R:=hs.hx.at hk;rw[E]at R;obtain⟨O,c1,c2,c3,c4,c5,c6,c7,c8⟩:=D.c9;rw[H]at O;clear hs A E I M D B H;go_enter func133,ntmps133;go_wp2;go_end0;exact⟨rfl,N.out.mono fun k hk J=>.inl J,OA.refl F w⟩
theorem CF(w:zu)(F:Nat->Prop)(p g u:Nat)(h:Hm)(x y:Gr)(t:yT w F p h)(H:h.gs g=zo x)(Z:x.up=u)(N:h.gs u=zo y)(E:x.st=zq)(D:x.on=zt):
 zw prog 133 #[ze (zo ⟨p,0,zp⟩),zd zj g] w (vZ w F p h):=by
 have HH:=yw t;obtain⟨⟨ps,qs,tg,hs⟩,B⟩:=t;have hk:=B.TG g x H;have X:=B.TG u y N;obtain⟨b,j,C,h3,Y⟩:=hs.PJ H;obtain⟨c,d,k2,k3,a⟩:=hs.PJ N;obtain⟨h8,h5,HX,HY,L,HC,Q,h6⟩:=Qj hs B H N Y a (hs.RT H) j;obtain⟨h0,HU,HF,m,T⟩:=Qg d Z C E D;have o:=hs.hx.at hk;have hd:=hs.hx.at X;rw[j]at o;rw[d]at hd;obtain⟨O,s,U,v,K,P,z,R,M⟩:=Y.c9;rw[Z]at O;rw[D]at R;rw[E]at M;obtain⟨d0,d1,n,d3,d4,d5,W,S,d8⟩:=a.c9;obtain⟨q,f⟩:=yB (qs g)
 obtain⟨r,l⟩:=yB (qs u)
 have h9:=yw f;have h7:=yw l;rw[<-f]at U Q L;rw[<-l]at n HC;clear hs B j C h3 Y d k2 k3 a H N Z f l E D d0 d1 d3 d4 d5 W S d8;go_enter func133,ntmps133;go_wp2_with fail;go_quiet (fail);obtain⟨G,A⟩:=yB (w.drewN nq)
 have V:xz F w G:=by rw[A];exact fun k _ _=>rfl
 have I:Hid (Below w.heap.size w G):=yw (by rw[A];exact yH (zU _ w) nq);have J:G.heap=w.heap:=by rw[A];rfl
 have G2:Hid (PW G b q x):=yw (L.out.of (by rw[J]));rw[<-A];clear A V J O s U v K P z R M o hd n;obtain⟨O,s,U,v,K,P,z,R,M⟩:=G2.out.c9;rw[HU.out]at O;rw[T.out]at R;rw[m.out]at M;go_wp2;go_end0;exact⟨rfl,HH.out.kept (.NZ I.out) |>.mono fun k hk hf=>.inl hf,OA.NZ I.out⟩
theorem CG(w:zu)(F:Nat->Prop)(p g u:Nat)(h:Hm)(x y:Gr)(hh:yT w F p h)(T:h.gs g=zo x)(s:x.up=u)(Z:h.gs u=zo y)(H:x.st=zt)(h0:x.q.l.length=0)(E:x.on=zt):
 zw prog 133 #[ze (zo ⟨p,0,zp⟩),zd zj g] w (vZ w F p h):=by
 have HH:=yw hh;obtain⟨⟨ps,qs,tg,hs⟩,B⟩:=hh;have hk:=B.TG g x T;have n:=B.TG u y Z;obtain⟨b,K,h2,h3,o⟩:=hs.PJ T;obtain⟨c,v,k2,k3,t⟩:=hs.PJ Z;obtain⟨h9,h6,HX,HY,HB,HC,Q,h7⟩:=Qj hs B T Z o t (hs.RT T) K;obtain⟨h5,HU,HF,X,O⟩:=Qg v s h2 H E;have S:=hs.hx.at hk;have hd:=hs.hx.at n;rw[K]at S;rw[v]at hd;obtain⟨M,Y,R,a,f,j,d,N,G⟩:=o.c9;rw[s]at M;rw[E]at N;rw[H]at G;obtain⟨d0,d1,P,d3,d4,d5,d6,d7,d8⟩:=t.c9;obtain⟨q,C⟩:=yB (qs g)
 obtain⟨r,L⟩:=yB (qs u)
 have ha:=yw C;have h8:=yw L;rw[<-C]at R Q HB;rw[<-L]at P HC;clear hs B K h2 h3 o v k2 k3 t T Z s C L H E d0 d1 d3 d4 d5 d6 d7 d8;go_enter func133,ntmps133;go_wp2_with fail;go_quiet (fail);obtain⟨D,A⟩:=yB (w.drewN nq)
 have m:xz F w D:=by rw[A];exact fun k _ _=>rfl
 have U:Hid (Below w.heap.size w D):=yw (by rw[A];exact yH (zU _ w) nq);have J:D.heap=w.heap:=by rw[A];rfl
 have G2:Hid (PW D b q x):=yw (HB.out.of (by rw[J]));have Q2:Hid (xZ D (fun k=>F k/\tg k=g+1) q x.q):=yw (Q.out.kept fun k hk W=>by rw[J]);rw[<-A];clear A m J M Y R a f j d N G S hd P;obtain⟨M,Y,R,a,f,j,d,N,G⟩:=G2.out.c9;rw[HU.out]at M;rw[O.out]at N;rw[X.out]at G;go_wp2_with fail;refine(un D _ q x.q Q2.out).mono ?_;rintro z w3 ⟨⟨ea,ec,rfl⟩,I⟩;have V:=yw (yC U.out I U.out.size);have G3:=yw (G2.out.behind I);clear I M Y R a f j d N G;obtain⟨M,Y,R,a,f,j,d,N,G⟩:=G3.out.c9;rw[HU.out]at M;rw[O.out]at N;rw[X.out]at G;go_wp2;go_end0
 exact⟨rfl,HH.out.kept (.NZ V.out) |>.mono fun k hk W=>.inl W,OA.NZ V.out⟩
theorem CH(w:zu)(F:Nat->Prop)(p g u:Nat)(h:Hm)(x y:Gr)(hh:yT w F p h)(T:h.gs g=zo x)(s:x.up=u)(Z:h.gs u=zo y)(H:x.st=zt)(h0:0<x.q.l.length)(E:x.on=zq):
 zw prog 133 #[ze (zo ⟨p,0,zp⟩),zd zj g] w (vZ w F p h):=by
 have HH:=yw hh;obtain⟨⟨ps,qs,tg,hs⟩,B⟩:=hh;have hk:=B.TG g x T;have n:=B.TG u y Z;obtain⟨b,K,h2,h3,o⟩:=hs.PJ T;obtain⟨c,v,k2,k3,t⟩:=hs.PJ Z;obtain⟨h9,h6,HX,HY,HB,HC,Q,h7⟩:=Qj hs B T Z o t (hs.RT T) K;obtain⟨h5,HU,HF,X,O⟩:=Qg v s h2 H E;have S:=hs.hx.at hk;have hd:=hs.hx.at n;rw[K]at S;rw[v]at hd;obtain⟨M,Y,R,a,f,j,d,N,G⟩:=o.c9;rw[s]at M;rw[E]at N;rw[H]at G;obtain⟨d0,d1,P,d3,d4,d5,d6,d7,d8⟩:=t.c9;obtain⟨q,C⟩:=yB (qs g)
 obtain⟨r,L⟩:=yB (qs u)
 have ha:=yw C;have h8:=yw L;rw[<-C]at R Q HB;rw[<-L]at P HC;clear hs B K h2 h3 o v k2 k3 t T Z s C L H E d0 d1 d3 d4 d5 d6 d7 d8;go_enter func133,ntmps133;go_wp2_with fail;go_quiet (fail);obtain⟨D,A⟩:=yB (w.drewN nq)
 have m:xz F w D:=by rw[A];exact fun k _ _=>rfl
 have U:Hid (Below w.heap.size w D):=yw (by rw[A];exact yH (zU _ w) nq);have J:D.heap=w.heap:=by rw[A];rfl
 have G2:Hid (PW D b q x):=yw (HB.out.of (by rw[J]));have Q2:Hid (xZ D (fun k=>F k/\tg k=g+1) q x.q):=yw (Q.out.kept fun k hk W=>by rw[J]);rw[<-A];clear A m J M Y R a f j d N G S hd P;obtain⟨M,Y,R,a,f,j,d,N,G⟩:=G2.out.c9;rw[HU.out]at M;rw[O.out]at N;rw[X.out]at G;go_wp2_with fail;refine(un D _ q x.q Q2.out).mono ?_;rintro z w3 ⟨⟨ea,ec,rfl⟩,I⟩;have V:=yw (yC U.out I U.out.size);have G3:=yw (G2.out.behind I);clear I M Y R a f j d N G;obtain⟨M,Y,R,a,f,j,d,N,G⟩:=G3.out.c9;rw[HU.out]at M;rw[O.out]at N;rw[X.out]at G;go_wp2;go_end0
 exact⟨rfl,HH.out.kept (.NZ V.out) |>.mono fun k hk W=>.inl W,OA.NZ V.out⟩
theorem CI(n:Nat)(w:zu)(F:Nat->Prop)(p g u:Nat)(h:Hm)(x y:Gr)(hh:yT w F p h)(L:h.gs g=zo x)(hu:x.up=u)(Q:h.gs u=zo y)(o:x.st=zt)(K:0<x.q.l.length)(Y:x.on=zt)
 (K1: -9223372036854775808<=h.credit/\h.credit<=9223372036854775807)
 (P:∀w' F',yT w' F' p ((h.set u (y.OD (y.q.put (x.PV y.q.min h.credit)))).set g (x.SF y.q.min h.credit))->zw prog 133 #[ze (zo ⟨p,0,zp⟩),zd zj u] w' (vZ w' F' p (Hm.settle n ((h.set u (y.OD (y.q.put (x.PV y.q.min h.credit)))).set g (x.SF y.q.min h.credit)) u))):
 zw prog 133 #[ze (zo ⟨p,0,zp⟩),zd zj g] w (vZ w F p (h.settle (n+1) g)):=by
 have kf:x.OQ=zq:=by
  unfold Gr.OQ;rw[o];cases hl:x.q.l with
  | nil=>rw[hl]at K;simp at K
  | cons a l=>simp
 rw[Rt L hu Q kf Y];obtain⟨f1,f2,f3,f4,f5⟩:=QM hh.2 L hu Q Y;have hj:=Vs (hh.2.q u y Q).1 f1 f3 f4;have k8:=(Vv hh.2 L hu).2.1;obtain⟨E,hE⟩:=yB (x.PV y.q.min h.credit)
 have Hg:E.v=Je x.own.v y.q.min h.credit:=by rw[hE];rfl
 have k6:E.id=x.own.id/\E.w=x.own.w/\E.rem=x.own.rem:=by rw[hE];exact⟨rfl,rfl,rfl⟩
 have ky:=(hh.2.q u y Q).1.min;rw[<-hE]at f1 f2 f3 hj;obtain⟨HE,K5,K4,ku,kl,kk,K0,kt⟩:=Qj hE Hg k6 f5 hj f1 f3 f4;have H6:=yw P;have h7:=yw k8;clear kf f1 f2 f3 f4 f5 hj k8 hE Hg k6 P;obtain⟨⟨ps,qs,tg,hs⟩,m⟩:=hh;have hk:=m.TG g x L;have km:=m.TG u y Q;obtain⟨b,U,s,h3,h4⟩:=hs.PJ L;obtain⟨c,k1,k2,k3,k4⟩:=hs.PJ Q;obtain⟨H1,K3,HX,HY,HB,HC,HQ⟩:=Qi hs m L Q h4 k4 (hs.RT L)
 obtain⟨ht,K2,HU,HF,H3,h0⟩:=Qh U k1 hu s o Y;have hc:=hs.hx.at hk;have hd:=hs.hx.at km;rw[U]at hc;rw[k1]at hd;have hl:=hs.hx.lt;have A:=h4.lt;obtain⟨B,O,H,I,M,N,J,G,D⟩:=h4.c9;rw[hu]at B;rw[Y]at G;rw[o]at D;obtain⟨d0,d1,d2,d3,d4,d5,d6,d7,d8⟩:=k4.c9;obtain⟨q,hq⟩:=yB (qs g)
 obtain⟨r,hr⟩:=yB (qs u)
 have kh:=yw hq;have hv:=yw hr;rw[<-hq]at H HQ HB;rw[<-hr]at d2 HC;clear hs m U s h3 h4 k1 k2 k3 k4 L Q hu hq hr o Y d0 d1 d3 d4 d5 d6 d7 d8;go_enter func133,ntmps133;go_wp2_with fail;go_quiet (fail);obtain⟨S,X⟩:=yB (w.drewN nq)
 have ki:xz F w S:=by rw[X];exact fun k _ _=>rfl
 have k5:Hid (Below w.heap.size w S):=yw (by rw[X];exact yH (zU _ w) nq);have hn:S.heap=w.heap:=by rw[X];rfl
 have G2:Hid (PW S b q x):=yw (HB.out.of (by rw[hn]));have Q2:Hid (xZ S (fun k=>F k/\tg k=g+1) q x.q):=yw (HQ.out.kept fun k hk hf=>by rw[hn]);rw[<-X];clear X ki hn B O H I M N J G D hc hd d2 hl A;obtain⟨B,O,H,I,M,N,J,G,D⟩:=G2.out.c9;rw[HU.out]at B;rw[h0.out]at G;rw[H3.out]at D;have A:=G2.out.lt;go_wp2_with fail;refine(un S _ q x.q Q2.out).mono ?_;rintro z w3 ⟨⟨ea,ec,rfl⟩,ha⟩;have hm:=yw (yC k5.out ha k5.out.size);have G3:=yw (G2.out.behind ha);clear ha B O H I M N J G D A;obtain⟨B,O,H,I,M,N,J,G,D⟩:=G3.out.c9;rw[HU.out]at B;rw[h0.out]at G;rw[H3.out]at D;have A:=G3.out.lt
 have k0:=yw (H1.out.kept (.NZ hm.out));have Y3:=yw (k0.out.RT HY.out);rw[<-hv.out]at Y3;have kj:=k0.out.hx.c0;obtain⟨V,hV⟩:=yB (Je x.own.v y.q.min h.credit)
 have HV:=yw hV;clear hV;go_wp2_with fail;go_region_with
  ((
   first
   | (
    go_at_call 131;refine(Wi w3.drew _ r y.q (Y3.out.kept fun k _ _=>rfl)).mono ?_;rintro z w4 ⟨rfl,hw⟩;obtain rfl:=hw.symm)
   | (
    go_at_call 137;refine(Rj x.own.v y.q.min h.credit w3.drew ky K1).mono ?_;rintro z w4 ⟨rfl,H0⟩;rw[<-HV.out];have kx:=yw H0;have G4:=yw ((show PW w3.drew b q x from G3.out).behind H0);clear H0 B O H I M N J G D A;obtain⟨B,O,H,I,M,N,J,G,D⟩:=G4.out.c9;rw[HU.out]at B;rw[h0.out]at G;rw[H3.out]at D;have A:=G4.out.lt;have h8:=G4.out.OH)))
 all_goals
  go_upto_region 8 with(fail)
  have d:Hid (Below w.heap.size w w4):=yw (yC (yI hm.out) kx.out hm.out.size);have ks:=yw (H1.out.kept (.NZ d.out));obtain⟨t,Z⟩:=yB (w4.setCell ⟨b,5,zp⟩ (zd zj V))
  have ho:OA (fun k=>k=b) w4 t:=by rw[Z];exact(OA.refl _ w4).one
  have h9:t.heap.size=w4.heap.size:=by rw[Z];simp[World.setCell]
  obtain⟨T,R⟩:∃T:Gr,T={ x with own:=E }:=⟨_,rfl⟩
  have W:PW t b q T:=by
   have U:=G4.out.cV V;have s:({ x with own:={ x.own with v:=V } }:Gr)=T:=by rw[R,HE.out,HV.out];rfl
   rw[s]at U;rw[Z];exact U
  have h6:HS t F p (h.set g T) ps qs tg:=ks.out.AG HX.out ht.out ho h9 (by rw[<-kh.out];exact W) (by rw[R]);have h5:(h.set g T).gs u=zo y:=by rw[yJ _ _ (Ne.symm h7.out)];exact HY.out
  have hz:=h6.RT h5;rw[<-hv.out]at hz;obtain⟨kq,G5,kr,kz,kn,Q5,k7⟩:=Qi h6 W ho h9 h5 hz R;rw[<-Z];clear Z ho h9 W h6 h5 hz kj B O H I M N J G D A h8;have H5:T.up=u:=by rw[R];exact HU.out
  have H4:T.own=E:=by rw[R]
  clear R;obtain⟨B,O,H,I,M,N,J,G,D⟩:=G5.out.c9;rw[H4]at I M N J;have A:=G5.out.lt;clear B O H G D;go_wp2_with fail;refine(Lk E t _ r y.q Q5.out kk.out K0.out kt.out).mono ?_;rintro z w6 ⟨rfl,H2,j⟩;rw[<-kl.out]at H2;have kb:PW w6 b q T:=G5.out.of (j.block b A (by
   rintro⟨_,e⟩;obtain⟨b',e1,_,e2,_⟩:=H1.out.PJ HX.out;have:b'=b:=by rw[ht.out]at e1;exact(zx e1).symm
   rw[this]at e2;rw[e2]at e;omega))
  have kd:=kq.out.dP kn.out j (by rw[<-hv.out];exact H2);obtain⟨kp,G6,kg⟩:=Qe kd kb j;clear kd kb j H2 A I M N J;obtain⟨B,O,H,I,M,N,J,G,D⟩:=G6.out.c9;rw[H5]at B;have A:=G6.out.lt;have h8:=G6.out.OH;clear O H I M N J D;go_upto_region 10 with(fail)
  obtain⟨C,f⟩:=yB (w6.setCell ⟨b,7,zp⟩ (zh zq))
  have he:OA (fun k=>k=b) w6 C:=by rw[f];exact(OA.refl _ w6).one
  have hg:C.heap.size=w6.heap.size:=by rw[f];simp[World.setCell]
  have hi:PW C b q (x.SF y.q.min h.credit):=by
   have U:=G6.out.fL zq;have s:({ T with on:=zq }:Gr)=x.SF y.q.min h.credit:=by rw[k7.out,HE.out];rfl
   rw[s]at U;rw[f];exact U
  have H9:((h.set g T).set u (y.OD (y.q.put E))).gs g=zo T:=by rw[yJ _ _ h7.out,yO]
  have hp:=kp.out.AG H9 ht.out he hg (by rw[<-kh.out];exact hi) (by rw[k7.out];rfl);rw[set_set h h7.out,HE.out]at hp;have ke:yT C (Ext F t w6) p _:=⟨⟨_,_,_,hp⟩,ku.out⟩
  obtain⟨H7,kv,G7,kw⟩:=Qf ke he hi hg;rw[<-f];clear f hp ke he hi hg H9 B G A h8;obtain⟨B,O,H,I,M,N,J,G,D⟩:=G7.out.c9;have ka:(x.SF y.q.min h.credit).up=u:=HU.out;rw[ka]at B;have A:=G7.out.lt;clear O H I M N J G D ka;go_wp2_with fail;refine(H6.out C _ H7.out).mono ?_;rintro z w8 ⟨rfl,k9,kc⟩;have H8:=yw k9;have ko:=yw kc;clear k9 kc;go_wp2;go_end0;have Hy:F b:=HF.out;have z1:=d.out.size;have z2:=kg.out.size;have z4:=kz.out;have z5:=kw.out;have t5:OA F w t:=(OA.NZ d.out:OA F w w4).trans kr.out fun k hk=>.inl (hk▸Hy)
  have t6:OA F w w6:=t5.trans kg.out fun k hk=>.inl hk.1;have t7:OA F w C:=t6.trans kv.out fun k hk=>.inl (hk▸Hy);refine⟨rfl,H8.out.mono fun k hk hf=>?_,t7.trans ko.out fun k hk=>?_⟩
  .rcases hf with(hf|⟨U,s⟩)|⟨U,s⟩
   .exact .inl hf
   .exact .inr ⟨by omega,by omega⟩
   .exact .inr ⟨by omega,by omega⟩
  .rcases hk with hk|⟨U,s⟩
   .exact .inl hk
   .exact .inr (by omega)
theorem CJ(n:Nat)(w:zu)(F:Nat->Prop)(p g u:Nat)(h:Hm)(x y:Gr)(hh:yT w F p h)(m:h.gs g=zo x)(hu:x.up=u)(hy:h.gs u=zo y)(Y:x.st=zq)(J:x.on=zq)
 (o:∀w' F',yT w' F' p ((h.set u (y.OD (y.q.drop (2*g+1)))).set g (x.go (x.RF y.q g)))->zw prog 133 #[ze (zo ⟨p,0,zp⟩),zd zj u] w' (vZ w' F' p (Hm.settle n ((h.set u (y.OD (y.q.drop (2*g+1)))).set g (x.go (x.RF y.q g))) u))):
 zw prog 133 #[ze (zo ⟨p,0,zp⟩),zd zj g] w (vZ w F p (h.settle (n+1) g)):=by
 have H0:x.OQ=zt:=by unfold Gr.OQ;rw[Y];rfl
 rw[Lm m hu hy H0 J];obtain⟨f1,f5⟩:=Fu hh.2 m hu hy J;have hg:=(Vv hh.2 m hu).2.1;obtain⟨E,hE⟩:=yB (x.RF y.q g)
 rw[<-hE]at f1;obtain⟨HE,k8,H6,h5,H5⟩:=Qg hE f5 f1 o hg;clear H0 f1 f5 hg hE o;obtain⟨⟨ps,qs,tg,hs⟩,X⟩:=hh;have hk:=X.TG g x m;have Hg:=X.TG u y hy;obtain⟨b,d,L,h3,h4⟩:=hs.PJ m;obtain⟨c,k1,k2,k3,k4⟩:=hs.PJ hy;obtain⟨H2,kf,HX,HY,HB,HC,HQ,hv⟩:=Qj hs X m hy h4 k4 (hs.RT m) d;obtain⟨ke,HU,HF,H3,h8⟩:=Qg k1 hu L Y J;have hc:=hs.hx.at hk;have hd:=hs.hx.at Hg;rw[d]at hc;rw[k1]at hd;have A:=h4.lt;obtain⟨B,M,H,N,T,V,R,G,D⟩:=h4.c9
 rw[hu]at B;rw[J]at G;rw[Y]at D;obtain⟨d0,d1,d2,d3,d4,d5,d6,d7,d8⟩:=k4.c9;obtain⟨q,hq⟩:=yB (qs g)
 obtain⟨r,hr⟩:=yB (qs u)
 have kd:=yw hq;have hz:=yw hr;rw[<-hq]at H HQ HB;rw[<-hr]at d2 HC;clear hs X d L h3 h4 k1 k2 k3 k4 m hy hu hq hr Y J d0 d1 d3 d4 d5 d6 d7 d8;go_enter func133,ntmps133;go_wp2_with fail;go_quiet (fail);obtain⟨W,I⟩:=yB (w.drewN nq)
 have H4:xz F w W:=by rw[I];exact fun k _ _=>rfl
 have k0:Hid (Below w.heap.size w W):=yw (by rw[I];exact yH (zU _ w) nq);have hj:W.heap=w.heap:=by rw[I];rfl
 have G2:Hid (PW W b q x):=yw (HB.out.of (by rw[hj]));rw[<-I];clear I H4 hj B M H N T V R G D hc hd d2 A;obtain⟨B,M,H,N,T,V,R,G,D⟩:=G2.out.c9;rw[HU.out]at B;rw[h8.out]at G;rw[H3.out]at D;have A:=G2.out.lt;obtain⟨s,a⟩:=yB W
 have Q:Hid (Below w.heap.size w s):=yw (by rw[a];exact k0.out);have G3:Hid (PW s b q x):=yw (by rw[a];exact G2.out);rw[<-a];clear a B M H N T V R G D A;obtain⟨B,M,H,N,T,V,R,G,D⟩:=G3.out.c9;rw[HU.out]at B;rw[h8.out]at G;rw[H3.out]at D;have A:=G3.out.lt;have he:=yw (H2.out.kept (.NZ Q.out));have Y3:=yw (he.out.RT HY.out);rw[<-hz.out]at Y3;have kb:=yw hk;go_wp2_with fail;refine(Wm s g kb.out).mono ?_;rintro z w9 ⟨rfl,hw⟩;obtain rfl:=hw.symm;go_wp2_with fail;refine(Uk (2*g+1) E s _ r y.q Y3.out H6.out).mono ?_;rintro z Z ⟨rfl,h9,j⟩;have hi:PW Z b q x:=G3.out.of (j.block b A (by
  rintro⟨_,e⟩;obtain⟨b',e1,_,e2,_⟩:=H2.out.PJ HX.out;have:b'=b:=by rw[hv.out]at e1;exact(zx e1).symm
  rw[this]at e2;rw[e2]at e;omega))
 have ho:=he.out.dP HY.out j (by rw[<-hz.out];exact h9.mono fun k hk hf=>.inl hf);obtain⟨k7,G4,H1⟩:=Qe ho hi j;clear ho hi j h9 A B M H N T V R G D;obtain⟨B,M,H,N,T,V,R,G,D⟩:=G4.out.c9;rw[HU.out]at B;have A:=G4.out.lt;have t:=G4.out.OH;clear M H D;go_upto_region 9 with(fail)
 obtain⟨w5,O⟩:=yB ((((Z.setCell ⟨b,3,zp⟩ (zd zj E.id)).setCell ⟨b,4,zp⟩ (zd zk E.w)).setCell ⟨b,5,zp⟩ (zd zj E.v)).setCell ⟨b,6,zp⟩ (zd zk E.rem))
 obtain⟨x1,f⟩:∃x1:Gr,x1={ x with own:=E }:=⟨_,rfl⟩
 have hm:OA (fun k=>k=b) Z w5:=by rw[O];exact(OA.refl _ Z).one.one.one.one
 have ha:w5.heap.size=Z.heap.size:=by rw[O];simp[World.setCell]
 have h6:PW w5 b q x1:=by rw[O,f];exact G4.out.fM E
 obtain⟨G5,k5,kc,k6⟩:=Qf h6 hm ha f;have h0:x1.up=u:=by rw[f];exact HU.out
 rw[<-O];clear O hm ha h6 f B N T V R G A t;obtain⟨B,M,H,N,T,V,R,G,D⟩:=G5.out.c9;rw[h0]at B;have A:=G5.out.lt;have t:=G5.out.OH;clear M H N T V R D;go_upto_region 10 with(fail)
 obtain⟨l,U⟩:=yB (w5.setCell ⟨b,7,zp⟩ (zh zt))
 have C:OA (fun k=>k=b) Z l:=by rw[U];exact k5.out.one
 have K:l.heap.size=Z.heap.size:=by rw[U,<-kc.out];simp[World.setCell]
 have P:PW l b q (x.go E):=by
  have d:=G5.out.fL zt;have L:({ x1 with on:=zt }:Gr)=x.go E:=by rw[k6.out];rfl
  rw[L]at d;rw[U];exact d
 have h7:(h.set u (y.OD (y.q.drop (2*g+1)))).gs g=zo x:=by rw[yJ _ _ H5.out];exact HX.out
 have S:=k7.out.AG (y:=x.go E) h7 hv.out C K (by rw[<-kd.out];exact P) rfl;rw[HE.out]at S;have ht:yT l (Ext F s Z) p _:=⟨⟨_,_,_,S⟩,k8.out⟩
 obtain⟨H7,k9,G7,ka⟩:=Qf ht C P K;rw[<-U];clear U S ht C P K h7 B G A t;obtain⟨B,M,H,N,T,V,R,G,D⟩:=G7.out.c9;have hn:(x.go E).up=u:=HU.out;rw[hn]at B;have A:=G7.out.lt;clear M H N T V R G D hn;go_wp2_with fail;refine(h5.out l _ H7.out).mono ?_;rintro z w8 ⟨rfl,hl,hp⟩;have H8:=yw hl;have Hy:=yw hp;clear hl hp;go_wp2;go_end0;have H9:F b:=HF.out;have z1:=Q.out.size;have z2:=H1.out.size;have z5:=ka.out;have t4:OA F w Z:=(OA.NZ Q.out:OA F w s).trans H1.out fun k hk=>.inl hk.1;have t7:OA F w l:=t4.trans k9.out fun k hk=>.inl (hk▸H9)
 refine⟨rfl,H8.out.mono fun k hk hf=>?_,t7.trans Hy.out fun k hk=>?_⟩
 .rcases hf with(hf|⟨d,L⟩)|⟨d,L⟩
  .exact .inl hf
  .exact .inr ⟨by omega,by omega⟩
  .exact .inr ⟨by omega,by omega⟩
 .rcases hk with hk|⟨d,L⟩
  .exact .inl hk
  .exact .inr (by omega)
theorem CK(n:Nat)(w:zu)(F:Nat->Prop)(p g u:Nat)(h:Hm)(x y:Gr)(hh:yT w F p h)(j:h.gs g=zo x)(hu:x.up=u)(hy:h.gs u=zo y)(t:x.st=zt)(h5:x.q.l.length=0)(J:x.on=zq)
 (m:∀w' F',yT w' F' p ((h.set u (y.OD (y.q.drop (2*g+1)))).set g (x.go (x.RF y.q g)))->zw prog 133 #[ze (zo ⟨p,0,zp⟩),zd zj u] w' (vZ w' F' p (Hm.settle n ((h.set u (y.OD (y.q.drop (2*g+1)))).set g (x.go (x.RF y.q g))) u))):
 zw prog 133 #[ze (zo ⟨p,0,zp⟩),zd zj g] w (vZ w F p (h.settle (n+1) g)):=by
 have H2:x.OQ=zt:=by unfold Gr.OQ;rw[List.eq_nil_of_length_eq_zero h5];simp
 rw[Lm j hu hy H2 J];obtain⟨f1,f5⟩:=Fu hh.2 j hu hy J;have hl:=(Vv hh.2 j hu).2.1;obtain⟨E,hE⟩:=yB (x.RF y.q g)
 rw[<-hE]at f1;obtain⟨HE,k9,Hg,h7,H9⟩:=Qg hE f5 f1 m hl;clear H2 f1 f5 hl hE m;obtain⟨⟨ps,qs,tg,hs⟩,X⟩:=hh;have hk:=X.TG g x j;have k0:=X.TG u y hy;obtain⟨b,Z,P,h3,h4⟩:=hs.PJ j;obtain⟨c,k1,k2,k3,k4⟩:=hs.PJ hy;obtain⟨H4,kg,HX,HY,HB,HC,HQ,H0⟩:=Qj hs X j hy h4 k4 (hs.RT j) Z;obtain⟨kf,HU,HF,H5,ha⟩:=Qg k1 hu P t J;have hc:=hs.hx.at hk;have hd:=hs.hx.at k0;rw[Z]at hc;rw[k1]at hd;have A:=h4.lt;obtain⟨B,M,H,N,T,V,R,G,D⟩:=h4.c9
 rw[hu]at B;rw[J]at G;rw[t]at D;obtain⟨d0,d1,d2,d3,d4,d5,d6,d7,d8⟩:=k4.c9;obtain⟨q,hq⟩:=yB (qs g)
 obtain⟨r,hr⟩:=yB (qs u)
 have ke:=yw hq;have H1:=yw hr;rw[<-hq]at H HQ HB;rw[<-hr]at d2 HC;clear hs X Z P h3 h4 k1 k2 k3 k4 j hy hu hq hr t J d0 d1 d3 d4 d5 d6 d7 d8;go_enter func133,ntmps133;go_wp2_with fail;go_quiet (fail);obtain⟨o,I⟩:=yB (w.drewN nq)
 have H6:xz F w o:=by rw[I];exact fun k _ _=>rfl
 have hj:Hid (Below w.heap.size w o):=yw (by rw[I];exact yH (zU _ w) nq);have W:o.heap=w.heap:=by rw[I];rfl
 have G2:Hid (PW o b q x):=yw (HB.out.of (by rw[W]));have Q2:Hid (xZ o (fun k=>F k/\tg k=g+1) q x.q):=yw (HQ.out.kept fun k hk hf=>by rw[W]);rw[<-I];clear I H6 W B M H N T V R G D hc hd d2 A;obtain⟨B,M,H,N,T,V,R,G,D⟩:=G2.out.c9;rw[HU.out]at B;rw[ha.out]at G;rw[H5.out]at D;have A:=G2.out.lt;go_wp2_with fail;refine(un o _ q x.q Q2.out).mono ?_;rintro z w3 ⟨⟨ea,ec,rfl⟩,C⟩;have S:=yw (yC hj.out C hj.out.size);have G3:=yw (G2.out.behind C);clear C B M H N T V R G D A;obtain⟨B,M,H,N,T,V,R,G,D⟩:=G3.out.c9;rw[HU.out]at B;rw[ha.out]at G;rw[H5.out]at D;have A:=G3.out.lt
 have hi:=yw (H4.out.kept (.NZ S.out));have Y3:=yw (hi.out.RT HY.out);rw[<-H1.out]at Y3;have kc:=yw hk;go_wp2_with fail;refine(Wm w3 g kc.out).mono ?_;rintro z w9 ⟨rfl,hw⟩;obtain rfl:=hw.symm;go_wp2_with fail;refine(Uk (2*g+1) E w3 _ r y.q Y3.out Hg.out).mono ?_;rintro z Y ⟨rfl,he,d⟩;have hm:PW Y b q x:=G3.out.of (d.block b A (by
  rintro⟨_,e⟩;obtain⟨b',e1,_,e2,_⟩:=H4.out.PJ HX.out;have:b'=b:=by rw[H0.out]at e1;exact(zx e1).symm
  rw[this]at e2;rw[e2]at e;omega))
 have ht:=hi.out.dP HY.out d (by rw[<-H1.out];exact he.mono fun k hk hf=>.inl hf);obtain⟨k8,G4,H3⟩:=Qe ht hm d;clear ht hm d he A B M H N T V R G D;obtain⟨B,M,H,N,T,V,R,G,D⟩:=G4.out.c9;rw[HU.out]at B;have A:=G4.out.lt;have s:=G4.out.OH;clear M H D;go_upto_region 9 with(fail)
 obtain⟨w5,O⟩:=yB ((((Y.setCell ⟨b,3,zp⟩ (zd zj E.id)).setCell ⟨b,4,zp⟩ (zd zk E.w)).setCell ⟨b,5,zp⟩ (zd zj E.v)).setCell ⟨b,6,zp⟩ (zd zk E.rem))
 obtain⟨x1,a⟩:∃x1:Gr,x1={ x with own:=E }:=⟨_,rfl⟩
 have ho:OA (fun k=>k=b) Y w5:=by rw[O];exact(OA.refl _ Y).one.one.one.one
 have hg:w5.heap.size=Y.heap.size:=by rw[O];simp[World.setCell]
 have h8:PW w5 b q x1:=by rw[O,a];exact G4.out.fM E
 obtain⟨G5,k6,kd,k7⟩:=Qf h8 ho hg a;have h6:x1.up=u:=by rw[a];exact HU.out
 rw[<-O];clear O ho hg h8 a B N T V R G A s;obtain⟨B,M,H,N,T,V,R,G,D⟩:=G5.out.c9;rw[h6]at B;have A:=G5.out.lt;have s:=G5.out.OH;clear M H N T V R D;go_upto_region 10 with(fail)
 obtain⟨f,U⟩:=yB (w5.setCell ⟨b,7,zp⟩ (zh zt))
 have K:OA (fun k=>k=b) Y f:=by rw[U];exact k6.out.one
 have L:f.heap.size=Y.heap.size:=by rw[U,<-kd.out];simp[World.setCell]
 have Q:PW f b q (x.go E):=by
  have Z:=G5.out.fL zt;have P:({ x1 with on:=zt }:Gr)=x.go E:=by rw[k7.out];rfl
  rw[P]at Z;rw[U];exact Z
 have h9:(h.set u (y.OD (y.q.drop (2*g+1)))).gs g=zo x:=by rw[yJ _ _ H9.out];exact HX.out
 have h0:=k8.out.AG (y:=x.go E) h9 H0.out K L (by rw[<-ke.out];exact Q) rfl;rw[HE.out]at h0;have hz:yT f (Ext F w3 Y) p _:=⟨⟨_,_,_,h0⟩,k9.out⟩
 obtain⟨H7,ka,G7,kb⟩:=Qf hz K Q L;rw[<-U];clear U h0 hz K Q L h9 B G A s;obtain⟨B,M,H,N,T,V,R,G,D⟩:=G7.out.c9;have hp:(x.go E).up=u:=HU.out;rw[hp]at B;have A:=G7.out.lt;clear M H N T V R G D hp;go_wp2_with fail;refine(h7.out f _ H7.out).mono ?_;rintro z w8 ⟨rfl,hn,hv⟩;have H8:=yw hn;have k5:=yw hv;clear hn hv;go_wp2;go_end0;have Hy:F b:=HF.out;have z1:=S.out.size;have z2:=H3.out.size;have z5:=kb.out;have t4:OA F w Y:=(OA.NZ S.out:OA F w w3).trans H3.out fun k hk=>.inl hk.1;have t7:OA F w f:=t4.trans ka.out fun k hk=>.inl (hk▸Hy)
 refine⟨rfl,H8.out.mono fun k hk hf=>?_,t7.trans k5.out fun k hk=>?_⟩
 .rcases hf with(hf|⟨Z,P⟩)|⟨Z,P⟩
  .exact .inl hf
  .exact .inr ⟨by omega,by omega⟩
  .exact .inr ⟨by omega,by omega⟩
 .rcases hk with hk|⟨Z,P⟩
  .exact .inl hk
  .exact .inr (by omega)
theorem vP:∀(n:Nat) (w:zu) (F:Nat->Prop) (p g:Nat) (h:Hm) (x:Gr),yT w F p h->h.gs g=zo x->x.deep<n-> -9223372036854775808<=h.credit/\h.credit<=9223372036854775807->
 zw prog 133 #[ze (zo ⟨p,0,zp⟩),zd zj g] w (vZ w F p (h.settle n g))
 | 0,w,F,p,g,h,x,hh,hx,hd,hc=>absurd (hh.2.deep g x hx).1 (by omega)
 | n+1,w,F,p,g,h,x,hh,hx,hd,hc=>by
  by_cases I:g=0
  .subst I;obtain⟨r,M,D,_⟩:=hh.2.root;rw[hx]at M;cases M;rw[Kt hx (.inl (by omega))];exact Ru w F p 0 h x hh hx D
  .obtain⟨u,y,D,G,h0⟩:=hh.2.up g x hx I;have E:=(Vv hh.2 hx D).2.1;cases hst:x.st
   .by_cases A:x.q.l.length=0
    .have hs:x.OQ=zt:=by unfold Gr.OQ;rw[List.eq_nil_of_length_eq_zero A];simp
     cases hon:x.on
     .rw[Kt hx (.inr (by rw[hs,hon]))];exact CG w F p g u h x y hh hx D G hst A hon
     .refine CK n w F p g u h x y hh hx D G hst A hon fun w' H B=>?_;refine vP n w' H p u _ (y.OD (y.q.drop (2*g+1))) B (by rw[yJ _ _ (Ne.symm E),yO]) (by show y.deep<_;omega) hc
    .have J:0<x.q.l.length:=by omega
     have hs:x.OQ=zq:=by
      unfold Gr.OQ;rw[hst];cases hl':x.q.l with
      | nil=>rw[hl']at J;simp at J
      | cons a l=>simp
     cases hon:x.on
     .refine CI n w F p g u h x y hh hx D G hst J hon hc fun w' H B=>?_;refine vP n w' H p u _ (y.OD (y.q.put (x.PV y.q.min h.credit))) B (by rw[yJ _ _ (Ne.symm E),yO]) (by show y.deep<_;omega) hc
     .rw[Kt hx (.inr (by rw[hs,hon]))];exact CH w F p g u h x y hh hx D G hst J hon
   .have hs:x.OQ=zt:=by unfold Gr.OQ;rw[hst];rfl
    cases hon:x.on
    .rw[Kt hx (.inr (by rw[hs,hon]))];exact CF w F p g u h x y hh hx D G hst hon
    .refine CJ n w F p g u h x y hh hx D G hst hon fun w' H B=>?_;refine vP n w' H p u _ (y.OD (y.q.drop (2*g+1))) B (by rw[yJ _ _ (Ne.symm E),yO]) (by show y.deep<_;omega) hc
end
def En.SI(e:En):En:={ e with id:=2*e.id }
def En.half(e:En)(k:Nat):En:={ e with id:=k }
def Hm.cW(h:Hm)(g:Nat)(x:Gr)(e:En):Hm:=h.set g (x.OD (x.q.put e.SI))
def Hm.put(h:Hm)(g:Nat)(e:En):Hm:=match h.gs g with
 | none=>h
 | some x=>Hm.settle 9 (h.cW g x e) g
def Hm.TX(h:Hm)(g:Nat)(x:Gr)(k:Nat):Hm:=h.set g (x.OD (x.q.drop (2*k)))
def Hm.drop(h:Hm)(g k:Nat):Hm:=match h.gs g with
 | none=>h
 | some x=>Hm.settle 9 (h.TX g x k) g
def Hm.gone(h:Hm)(g k:Nat):En:=match h.gs g with
 | none=>⟨0,0,0,0⟩
 | some x=>match x.q.get (2*k)with
  | none=>⟨0,0,0,0⟩
  | some e=>e.half k
def Hm.nice(h:Hm)(g k:Nat)(w:Int):Hm:=match h.gs g with
 | none=>h
 | some x=>h.set g (x.OD (x.q.OT (2*k) w))
def Gr.bA(x:Gr)(w:Int):Gr:={ x with own:={ x.own with rem:=x.own.rem*w/x.own.w,w:=w } }
def Hm.OT(h:Hm)(g:Nat)(w:Int):Hm:=match h.gs g with
 | none=>h
 | some x=>if x.on=zq then(match h.gs x.up.toNat with
  | none=>h
  | some y=>h.set x.up.toNat (y.OD (y.q.OT (2*g+1) w)))else h.set g (x.bA w)
def Gr.SV(x:Gr)(b:Bool):Gr:={ x with st:=b }
def Hm.stop(h:Hm)(g:Nat)(b:Bool):Hm:=match h.gs g with
 | none=>h
 | some x=>Hm.settle 9 (h.set g (x.SV b)) g
def Hm.link(h:Hm)(g u:Nat):Hm:=match h.gs u with
 | none=>h
 | some y=>h.set g (Jj g u y.deep)
structure ua(h h':Hm):Prop where
 ok:h'.Ok
 dQ:qM h h'
 even:∀k i,h'.even k i↔h.even k i
theorem ua.refl(hk:h.Ok):ua h h:=⟨hk,.refl h,fun _ _=>Iff.rfl⟩
theorem ua.trans{a b c:Hm}(h:ua a b)(A:ua b c):ua a c:=⟨A.ok,h.dQ.trans A.dQ,fun k i=>(A.even k i).trans (h.even k i)⟩
theorem Ya(hk:h.Ok)(n g:Nat):ua h (h.settle n g):=by obtain⟨B,A,D⟩:=Wl n hk g;exact⟨B,A,D⟩
theorem qg(hk:h.Ok){q:Qu}(A:h.gs g=zo x)(D:q.Ok)(B:∀i,q.has i↔x.q.has i):ua h (h.set g (x.OD q)):=
 ⟨hk.set A rfl rfl rfl (fun E=>hk.own g x A E) D (Ns (hk.q g x A).2 fun i=>(B i).1) fun c=>B _,qM.set (y:=x.OD q) A rfl rfl,fun k i=>Qq (y:=x.OD q) A (fun i=>B _) k i⟩
theorem Rw(hx:h.gs g=zo x)(k:Nat)(i:Int):(h.set g y).even k i↔(k=g/\y.q.has (2*i))∨(k≠g/\h.even k i):=by
 unfold Hm.even;by_cases e:k=g
 .subst e;simp[yO]
 .rw[yJ h y e];simp[e]
theorem Ry(h:e.Ok)(hk:k<64)(A:e.id=k):e.SI.Ok/\e.SI.id=2*k:=⟨⟨by show 0<=2*e.id/\2*e.id<=1000000;omega,h.w,h.v,h.rem⟩,by show 2*e.id=_;rw[A]⟩
theorem Um(hk:h.Ok)(E:h.gs g=zo x)(Z:e.Ok)(G:k<64)(Y:e.id=k)(T:x.q.get (2*k)=zp):
 x.q.l.length<128/\(h.cW g x e).Ok/\qM h (h.cW g x e)/\∀j i,(h.cW g x e).even j i↔(j=g/\i=k)∨h.even j i:=by
 obtain⟨D,J⟩:=hk.q g x E;obtain⟨U,R⟩:=Ry Z G Y;have A:=room D J (i:=2*(k:Int)) (by omega) T;have I:x.q.get e.SI.id=zp:=by rw[R];exact T
 have M:=Nr D U I A;rw[R]at M;refine⟨A,hk.set E rfl rfl rfl (fun X=>hk.own g x E X) (QK D U I A) ?_ ?_,qM.set (y:=x.OD _) E rfl rfl,?_⟩
 .intro a d;rcases(M a.id).1 ⟨a,d,rfl⟩with B|⟨b,hb,O⟩
  .rw[B];omega
  .rw[<-O];exact J b hb
 .intro c;show(x.q.put e.SI).has _↔_;rw[M];constructor
  .rintro(B|B)
   .omega
   .exact B
  .exact .inr
 .intro j i;unfold Hm.cW;rw[Rw E];show(j=g/\(x.q.put e.SI).has (2*i))∨_↔_;rw[M];constructor
  .rintro(⟨rfl,B|B⟩|⟨h1,V⟩)
   .exact .inl ⟨rfl,by omega⟩
   .exact .inr ⟨x,E,B⟩
   .exact .inr V
  .rintro(⟨rfl,rfl⟩|B)
   .exact .inl ⟨rfl,.inl rfl⟩
   .by_cases e:j=g
    .subst e;obtain⟨x',H,N⟩:=B;rw[E]at H;cases H;exact .inl ⟨rfl,.inr N⟩
    .exact .inr ⟨e,B⟩
theorem Jl(hk:h.Ok)(A:h.gs g=zo x)(k:Nat):(h.TX g x k).Ok/\qM h (h.TX g x k)/\∀j i,(h.TX g x k).even j i↔¬(j=g/\i=k)/\h.even j i:=by
 obtain⟨E,J⟩:=hk.q g x A;have I:=Fp E (2*(k:Int));refine⟨hk.set A rfl rfl rfl (fun M=>hk.own g x A M) (Nt E _) (Ns J fun i N=>((I i).1 N).2) ?_,qM.set (y:=x.OD _) A rfl rfl,?_⟩
 .intro c;show(x.q.drop _).has _↔_;rw[I];exact⟨fun h=>h.2,fun h=>⟨by omega,h⟩⟩
 .intro j i;unfold Hm.TX;rw[Rw A];show(j=g/\(x.q.drop _).has (2*i))∨_↔_;rw[I];constructor
  .rintro(⟨rfl,G,B⟩|⟨G,B⟩)
   .exact⟨fun e=>G (by rw[e.2]),x,A,B⟩
   .exact⟨fun e=>G e.1,B⟩
  .rintro⟨G,B⟩;by_cases e:j=g
   .subst e;obtain⟨x',D,H⟩:=B;rw[A]at D;cases D;exact .inl ⟨rfl,fun e=>G ⟨rfl,by omega⟩,H⟩
   .exact .inr ⟨e,B⟩
theorem Ln(hk:h.Ok)(B:h.gs g=zo x)(D:e.Ok)(A:k<64)(J:e.id=k)(H:x.q.get (2*k)=zp):
 (h.put g e).Ok/\qM h (h.put g e)/\∀j i,(h.put g e).even j i↔(j=g/\i=k)∨h.even j i:=by
 obtain⟨_,G,E,I⟩:=Um hk B D A J H;have:=Ya G 9 g;unfold Hm.put;rw[B];exact⟨this.ok,E.trans this.dQ,fun j i=>(this.even j i).trans (I j i)⟩
theorem Fv(hk:h.Ok)(A:h.gs g=zo x)(k:Nat):(h.drop g k).Ok/\qM h (h.drop g k)/\∀j i,(h.drop g k).even j i↔¬(j=g/\i=k)/\h.even j i:=by obtain⟨D,B,E⟩:=Jl hk A k;have:=Ya D 9 g;unfold Hm.drop;rw[A];exact⟨this.ok,B.trans this.dQ,fun j i=>(this.even j i).trans (E j i)⟩
theorem Fw(hk:h.Ok)(g k:Nat)(w:Int):ua h (h.nice g k w):=by
 unfold Hm.nice;cases hx:h.gs g with
 | none=>exact .refl hk
 | some x=>exact qg hk hx (Rs (hk.q g x hx).1 _ _) fun i=>Wj _ _ _ _
theorem CL(h:x.own.Ok){w:Int}(A:2<=w)(B:w<=262144):(x.bA w).own.Ok:=⟨h.id,⟨A,B⟩,h.v,Nw h.rem.1 h.rem.2 (by omega)⟩
theorem Jm(hk:h.Ok)(g:Nat){w:Int}(D:2<=w)(B:w<=262144):ua h (h.OT g w):=by
 unfold Hm.OT;cases hx:h.gs g with
 | none=>exact .refl hk
 | some x=>
  simp only;split
  .cases hy:h.gs x.up.toNat with
   | none=>exact .refl hk
   | some y=>exact qg hk hy (Rs (hk.q _ y hy).1 _ _) fun i=>Wj _ _ _ _
  .exact⟨hk.set hx rfl rfl rfl (fun A=>⟨CL (hk.own g x hx A).1 D B,(hk.own g x hx A).2⟩) (hk.q g x hx).1 (hk.q g x hx).2 fun c=>Iff.rfl,qM.set (y:=x.bA w) hx rfl rfl,fun k i=>Qq (y:=x.bA w) hx (fun i=>Iff.rfl) k i⟩
theorem uQ(hk:h.Ok)(A:h.gs g=zo x)(b:Bool):ua h (h.set g (x.SV b)):=
 ⟨hk.set A rfl rfl rfl (fun B=>hk.own g x A B) (hk.q g x A).1 (hk.q g x A).2 fun c=>Iff.rfl,qM.set (y:=x.SV b) A rfl rfl,fun k i=>Qq (y:=x.SV b) A (fun i=>Iff.rfl) k i⟩
theorem QN(hk:h.Ok)(g:Nat)(b:Bool):ua h (h.stop g b):=by
 unfold Hm.stop;cases hx:h.gs g with
 | none=>exact .refl hk
 | some x=>exact(uQ hk hx b).trans (Ya (uQ hk hx b).ok 9 g)
theorem Vw(i:Int):¬Qu.new.has i:=by rintro⟨e,A,_⟩;simp[Qu.new]at A
theorem JB(hk:h.Ok)(Z:g≠0)(b:g<32)(R:h.gs g=zp)(N:h.gs u=zo y)(hd:y.deep<8):(h.link g u).Ok/\(∀k i,(h.link g u).even k i↔h.even k i)/\h.link g u=h.set g (Jj g u y.deep):=by
 have l:h.link g u=h.set g (Jj g u y.deep):=by unfold Hm.link;rw[N]
 have E:∀k z,h.gs k=zo z->k≠g:=fun k z A e=>by rw[e,R]at A;cases A
 have d:∀k z,h.gs k=zo z->z.up≠g:=fun k z A e=>by
  by_cases M:k=0
  .subst M;obtain⟨r,O,X,_⟩:=hk.root;rw[A]at O;cases O;omega
  .obtain⟨v,G,D,B,_⟩:=hk.up k z A M;have:v=g:=by omega
   subst this;rw[R]at B;cases B
 have nd:=(hk.deep u y N).1;rw[l];refine⟨⟨?_,?_,?_,?_,?_,?_,?_,?_⟩,?_,rfl⟩
 .obtain⟨r,O,X,hd⟩:=hk.root;exact⟨r,by rw[yJ _ _ (Ne.symm Z)];exact O,X,hd⟩
 .intro k z A;by_cases e:k=g
  .rw[e];exact b
  .rw[yJ _ _ e]at A;exact hk.TG k z A
 .intro k z A H;by_cases e:k=g
  .subst e;rw[yO]at A;cases A;exact⟨u,y,rfl,by rw[yJ _ _ (E u y N)];exact N,rfl⟩
  .rw[yJ _ _ e]at A;obtain⟨v,G,D,B,V⟩:=hk.up k z A H;exact⟨v,G,D,by rw[yJ _ _ (E v G B)];exact B,V⟩
 .intro k z A;by_cases e:k=g
  .subst e;rw[yO]at A;cases A;exact⟨by show 0<=y.deep+1;omega,by show y.deep+1<=8;omega⟩
  .rw[yJ _ _ e]at A;exact hk.deep k z A
 .intro k z A H;by_cases e:k=g
  .subst e;rw[yO]at A;cases A;exact⟨⟨by show 0<=(2*k+1:Int)/\(2*k+1:Int)<=1000000;omega,by show 2<=(1024:Int)/\(1024:Int)<=262144;omega,by show _<=(0:Int)/\(0:Int)<=_;omega,by show 0<=(0:Int)/\(0:Int) <1024;omega⟩,rfl⟩
  .rw[yJ _ _ e]at A;exact hk.own k z A H
 .intro k z A;by_cases e:k=g
  .subst e;rw[yO]at A;cases A;exact⟨Qu.Ok.new,by intro a j;simp[Jj,Qu.new]at j⟩
  .rw[yJ _ _ e]at A;exact hk.q k z A
 .intro k z c A Y;by_cases e:k=g
  .subst e;rw[yO]at A;cases A;exact absurd Y (Vw _)
  .rw[yJ _ _ e]at A;obtain⟨G,B,U⟩:=hk.eJ k z c A Y;exact⟨G,by rw[yJ _ _ (E c G B)];exact B,U⟩
 .intro k z c v A D J;by_cases e:k=g
  .subst e;rw[yO]at A;cases A;by_cases I:c=k
   .subst I;rw[yO]at D;cases D;exact⟨fun h=>absurd h (Vw _),fun h=>by cases h⟩
   .rw[yJ _ _ I]at D;exact absurd J (d c v D)
  .rw[yJ _ _ e]at A;by_cases I:c=g
   .subst I;rw[yO]at D;cases D;constructor
    .intro T;obtain⟨G,B,_⟩:=hk.eJ k z c A T;rw[R]at B;cases B
    .intro T;cases T
   .rw[yJ _ _ I]at D;exact hk.on k z c v A D J
 .intro k i;unfold Hm.even;by_cases e:k=g
  .subst e;rw[yO,R];constructor
   .rintro⟨z,A,f⟩;cases A;exact absurd f (Vw _)
   .rintro⟨z,A,_⟩;cases A
  .rw[yJ _ _ e]
theorem QO(credit gran:Int):(Hm.new credit gran).Ok/\∀k i,¬(Hm.new credit gran).even k i:=by
 have B:∀k z,(Hm.new credit gran).gs k=zo z->k=0/\z=Qp:=fun k z A=>by
  simp only[Hm.new]at A;split at A
  .exact⟨by assumption,by cases A;rfl⟩
  .cases A
 refine⟨⟨⟨Qp,by simp[Hm.new],rfl,rfl⟩,?_,?_,?_,?_,?_,?_,?_⟩,?_⟩
 .intro g z A;obtain⟨rfl,_⟩:=B g z A;omega
 .intro g z A D;exact absurd (B g z A).1 D
 .intro g z A;obtain⟨_,rfl⟩:=B g z A;exact⟨by simp[Qp],by simp[Qp]⟩
 .intro g z A D;exact absurd (B g z A).1 D
 .intro g z A;obtain⟨_,rfl⟩:=B g z A;exact⟨Qu.Ok.new,by intro a I;simp[Qp,Qu.new]at I⟩
 .intro g z c A J;obtain⟨_,rfl⟩:=B g z A;exact absurd J (Vw _)
 .intro g z c v A H E;obtain⟨_,rfl⟩:=B g z A;obtain⟨_,rfl⟩:=B c v H;exact absurd E (by simp[Qp])
 .rintro k i ⟨z,A,G⟩;obtain⟨_,rfl⟩:=B k z A;exact absurd G (Vw _)
section
attribute [local go_sem ↓] Go.wp_at_zero Go.wp_at_succ
def qv(w:zu)(F:Nat->Prop)(p:Nat)(A:Hm)(w':zu):Prop:=yT w' (Ext F w w') p A/\OA F w w'
theorem qv.then{w1 B:zu}{A:Hm}(a:OA F w w1)(b:qv w1 (Ext F w w1) p A B):qv w F p A B:=
 ⟨b.1.mono fun k hk D=>Ext.trans a.size b.2.size k D,a.trans b.2 fun k hk=>by
  rcases hk with hk|⟨hk,_⟩
  .exact .inl hk
  .exact .inr hk⟩
theorem qv.NZ{w1 D:zu}{A:Hm}(a:Below w.heap.size w w1)(b:qv w1 F p A D):qv w F p A D:=
 ⟨b.1.mono fun k hk B=>by
  rcases B with B|⟨h1,A⟩
  .exact .inl B
  .exact .inr ⟨by have:=a.size;omega,A⟩,(OA.NZ a:OA F w w1).trans b.2 fun k hk=>.inl hk⟩
theorem qv.mono{w':zu}{G:Nat->Prop}(a:qv w F p h w')(A:∀k,F k->G k):qv w G p h w':=
 ⟨a.1.mono fun k hk B=>B.imp (A k) id,a.2.mono A⟩
theorem yT.fO(A:yT w F p h):yT w (fun k=>F k/\k<w.heap.size) p h:=A.mono fun k hk B=>⟨B,hk⟩
theorem WW(g k:Nat)(e:En)(w:zu)(F:Nat->Prop)(p:Nat)(h:Hm)(x:Gr)(hh:yT w F p h)(J:h.gs g=zo x)(he:e.Ok)(hk:k<64)(hi:e.id=k)(W:x.q.get (2*k)=zp)
 (hr: -9223372036854775808<=h.credit/\h.credit<=9223372036854775807) (hF:∀k,F k->k<w.heap.size):
 zw prog 138 #[ze (zo ⟨p,0,zp⟩),zd zj g,zg (vG e)] w fun z w'=>z=zm (zd zj 0)/\qv w F p (h.put g e) w':=by
 obtain⟨a1,a2,a3,a4⟩:=Um hh.2 J he hk hi W;obtain⟨t1,t2⟩:=Ry he hk hi;have u:=Vs (hh.2.q g x J).1 t1 (by rw[t2];exact W) a1;have M:h.put g e=Hm.settle 9 (h.cW g x e) g:=by unfold Hm.put;rw[J]
 rw[M];obtain⟨⟨ps,qs,tg,hs⟩,O⟩:=hh;have h7:=O.TG g x J;have hu:=(O.deep g x J).2;obtain⟨b,L,h2,h3,y⟩:=hs.PJ J;obtain⟨w1,H⟩:=yB (w.alloc (Rm e))
 have I:Below w.heap.size w w1:=by rw[H];exact yE w _
 have D:Ex w1 w.heap.size e:=by rw[H];exact Ex.new w e
 obtain⟨B,hB⟩:=yB w.heap.size
 rw[<-hB]at D;have V:=hs.kept (.NZ I);obtain⟨h0,hm,G1,E1,HX,hp,h5,hc⟩:=Qj V I (y.behind I) D J L a1 a2;obtain⟨ho,h9,h6,HG,H2,H3,P,T⟩:=Qj t1 u t2 W h2 h3 hB (Ks w1 p g h.credit h.gran ps V.hx h7);have l:=yw (Jk w1 k hk);rw[L]at T;have HI:=yw hi;obtain⟨Y,S,e2,e3⟩:=D.c4;rw[hi]at Y;have G:=D.lt;have hl:=D.OH;clear hs O L h2 h3 y I D V a1 a2 a3 a4 t1 t2 u M J he W;go_enter func138,ntmps138
 go_upto_region 1 with(fail)
 rw[<-hB];rw[show w.alloc (zn #[zd zj e.id,zd zk e.w,zd zj e.v,zd zk e.rem] 80)=w1 from H.symm];clear H hB;go_wp2_with fail;refine T.out.mono ?_;rintro z A ⟨rfl,hw⟩;obtain rfl:=hw.symm;go_wp2_with fail;refine l.out.mono ?_;rintro z A ⟨rfl,hw⟩;obtain rfl:=hw.symm;go_upto_region 5 with(fail)
 have Z:∀k,F k->k≠B:=fun k hk e=>by have:=hF k hk;have:=P.out;omega
 obtain⟨A,E⟩:=yB (w1.setCell ⟨B,0,zp⟩ (zd zj (k*2)))
 have C:HS A F p h ps qs tg:=by rw[E];exact h0.out.kept fun j hj hf=>zR _ _ _ _ (Z j hf)
 have o:Ex A B e.SI:=by have L:(w1.setCell ⟨B,0,zp⟩ (zd zj (2*e.id))).heap[B]?=_:=yD E1.out;rw[E,show(k:Int)*2=2*e.id by rw[HI.out];omega];exact L
 have n:Below w.heap.size w A:=by rw[E];exact hm.out.setCell (by show w.heap.size<=B;rw[P.out];exact yA _) _
 obtain⟨U,E2,ha⟩:=Qe C o n;rw[<-E];clear E C o n Y S e2 e3 G hl T l;obtain⟨Y,S,e2,e3⟩:=E2.out.c4;have G:=E2.out.lt;have r:PW A b (qs g) x:=by
  obtain⟨b',j1,_,_,j4⟩:=U.out.PJ HX.out;have:b'=b:=by rw[hp.out]at j1;exact(zx j1).symm
  exact this▸j4
 have G2:=yw r;have Q2:=yw (U.out.RT HX.out);obtain⟨q,hq⟩:=yB (qs g)
 have ht:=yw hq;rw[<-hq]at G2 Q2;clear hq r;obtain⟨c0,c1,c2,c3,c4,c5,c6,c7,c8⟩:=G2.out.c9;have s:=G2.out.lt;clear c0 c1 c3 c4 c5 c6 c7 c8;have K:xZ A.drew (fun k=>F k/\tg k=g+1) q x.q:=Q2.out.kept fun k _ _=>rfl;have h8:=yw K;clear K;go_region_held3 (fun w'=>w'.cell? ⟨b,2,zp⟩=zo (ze (zo ⟨q,0,zp⟩))/\w'.cell? ⟨B,0,zp⟩=zo (zd zj e.SI.id)/\w'.cell? ⟨B,1,zp⟩=zo (zd zk e.SI.w)/\w'.cell? ⟨B,2,zp⟩=zo (zd zj e.SI.v)/\w'.cell? ⟨B,3,zp⟩=zo (zd zk e.SI.rem)) (go_keep)
  ((
   go_at_call 184;refine(Lk e.SI A.drew _ q x.q h8.out ho.out (by rw[h6.out];exact HG.out) h5.out).mono ?_;rintro z R ⟨rfl,f,X⟩;have N:∀j,j<A.heap.size->¬(F j/\tg j=g+1)->R.heap[j]?=A.heap[j]?:=fun j hj hn=>X.block j hj hn;have Q:¬(F b/\tg b=g+1):=by rintro⟨_,e⟩;rw[H3.out]at e;omega
   have c:¬(F B/\tg B=g+1):=by rintro⟨e,_⟩;exact Z B e rfl
   have t:PW R b q x:=G2.out.of (N b s Q);have a:Ex R B e.SI:=E2.out.of (N B G c);obtain⟨Q3,T3,G3,E3⟩:=Qf f X t a;clear f X N Q c t a c2 Y S e2 e3 G s;obtain⟨c0,c1,c2,c3,c4,c5,c6,c7,c8⟩:=G3.out.c9;clear c0 c1 c3 c4 c5 c6 c7 c8;obtain⟨Y,S,e2,e3⟩:=E3.out.c4;have G:=E3.out.lt))
 all_goals
  go_wp2_with fail;have d:=(U.out.kept (w':=A.drew) (fun _ _ _=>rfl)).dP (q':=x.q.put e.SI) HX.out T3.out (by rw[<-ht.out,h9.out];exact Q3.out);have m:yT R (Ext F A.drew R) p (h.cW g x e):=⟨⟨_,_,_,d⟩,hc.out⟩
  refine(vP 9 R _ p g (h.cW g x e) (x.OD (x.q.put e.SI)) m (yO _ _ _) (by show x.deep<9;omega) hr).mono ?_;rintro z w4 ⟨rfl,y,t4⟩;have H4:=yw y;have T4:=yw t4;clear y t4 d m;go_wp2;go_ret;refine⟨rfl,qv.NZ ha.out (qv.then (w1:=R) (T3.out.mono fun k hk=>hk.1).TT ⟨H4.out,T4.out⟩)⟩
theorem CM(g k:Nat)(e:En)(w:zu)(F:Nat->Prop)(p:Nat)(h:Hm)(x:Gr)(E:yT w F p h)(I:h.gs g=zo x)(D:e.Ok)(hk:k<64)(G:e.id=k)(H:x.q.get (2*k)=zp)
 (A: -9223372036854775808<=h.credit/\h.credit<=9223372036854775807):
 zw prog 138 #[ze (zo ⟨p,0,zp⟩),zd zj g,zg (vG e)] w fun z w'=>z=zm (zd zj 0)/\qv w F p (h.put g e) w':=
 (WW g k e w _ p h x E.fO I D hk G H A fun k hk=>hk.2).mono fun z w' B=>⟨B.1,B.2.mono fun k hk=>hk.1⟩
theorem QP(g k:Nat)(e:En)(w:zu)(F:Nat->Prop)(p:Nat)(h:Hm)(x:Gr)(hh:yT w F p h)(V:h.gs g=zo x)(hk:k<64)(hg:x.q.get (2*k)=zo e)
 (ht: -9223372036854775808<=h.credit/\h.credit<=9223372036854775807) (hF:∀k,F k->k<w.heap.size):
 zw prog 143 #[ze (zo ⟨p,0,zp⟩),zd zj g,zd zj k] w fun z w'=>z=zm (zi #[zg (vG (e.half k)),zd zj 0])/\qv w F p (h.drop g k) w':=by
 obtain⟨a2,a3,a4⟩:=Jl hh.2 V k;have H:h.drop g k=Hm.settle 9 (h.TX g x k) g:=by unfold Hm.drop;rw[V]
 rw[H];obtain⟨⟨ps,qs,tg,hs⟩,a⟩:=hh;have ha:=a.TG g x V;have hv:=(a.deep g x V).2;obtain⟨b,T,Y,h3,h4⟩:=hs.PJ V;obtain⟨w1,I⟩:=yB (w.alloc (Rm En.zero))
 have U:Below w.heap.size w w1:=by rw[I];exact yE w _
 have f:Ex w1 w.heap.size En.zero:=by rw[I];exact Ex.new w _
 obtain⟨R,hR⟩:=yB w.heap.size
 rw[<-hR]at f;have O:=hs.kept (.NZ U);obtain⟨h9,m,G1,R1,HX,H0,hl,HG⟩:=Qj O U (h4.behind U) f V T a2 hg;obtain⟨H2,H3,o,d,y⟩:=Qg Y h3 hR (Ks w1 p g h.credit h.gran ps O.hx ha) (Jk w1 k hk);rw[T]at d;have t:=yw (O.RT V);have n:=G1.out;obtain⟨q,hq⟩:=yB (qs g)
 have hu:=yw hq;rw[<-hq]at t n;obtain⟨c0,c1,c2,c3,c4,c5,c6,c7,c8⟩:=n.c9;clear c0 c1 c3 c4 c5 c6 c7 c8 hs a T Y h3 h4 U f O a2 a3 a4 H V hg hq n;go_enter func143,ntmps143;go_upto_region 1 with(fail)
 rw[<-hR];rw[show w.alloc (zn #[zd zj 0,zd zk 0,zd zj 0,zd zk 0] 80)=w1 from I.symm];clear I hR;go_wp2_with fail;refine d.out.mono ?_;rintro z B ⟨rfl,hw⟩;obtain rfl:=hw.symm;go_wp2_with fail;refine y.out.mono ?_;rintro z B ⟨rfl,hw⟩;obtain rfl:=hw.symm;go_wp2_with fail;refine(Uk (2*k) e w1 _ q x.q t.out HG.out).mono ?_;rintro z B ⟨rfl,K,RJ⟩;have Q:=h9.out.dP (q':=x.q.drop (2*k)) HX.out RJ (by rw[<-hu.out];exact K.mono fun k hk G=>.inl G);have T2:=yw RJ;have hc:=yw Q;have C:Ex B R En.zero:=R1.out.of (RJ.block R R1.out.lt (by rintro⟨e',_⟩;have:=hF R e';have:=o.out;omega))
 have R2:=yw C;clear K RJ Q C c2 d y;go_upto_region 5 with(fail)
 obtain⟨J,N⟩:=yB (B.alloc (Rm e))
 have M:Below B.heap.size B J:=by rw[N];exact yE B _
 have Z:Ex J B.heap.size e:=by rw[N];exact Ex.new B e
 obtain⟨L,hL⟩:=yB B.heap.size
 rw[show B.alloc (zn #[zd zj e.id,zd zk e.w,zd zj e.v,zd zk e.rem] 80)=J from N.symm,<-hL];rw[<-hL]at Z;obtain⟨HL,hi,R3,L3,l⟩:=Qg hL (hc.out.kept (.NZ M)) (R2.out.behind M) Z M;clear N hL M Z;obtain⟨e0,e1,e2,e3⟩:=L3.out.c4;have hm:=L3.out.OH;go_upto_region 8 with(fail)
 obtain⟨X,D⟩:=yB (J.setCell ⟨L,0,zp⟩ (zd zj k))
 have s1:=m.out.size;have s2:=T2.out.size;have s3:=l.out.size;have W:=o.out;have hr:=HL.out;have P:=R1.out.lt;have u:∀j,Ext F w1 B j->j≠R:=fun j A e=>by
  rcases A with A|⟨T,Y⟩
  .have:=hF j A;omega
  .omega
 have c:∀j,Ext F w1 B j->j≠L:=fun j A e=>by
  rcases A with A|⟨T,Y⟩
  .have:=hF j A;omega
  .omega
 have h8:R≠L:=by omega
 have s:yT J (Ext F w1 B) p (h.TX g x k):=⟨⟨_,_,_,hi.out⟩,hl.out⟩
 have h0:yT X (Ext F w1 B) p (h.TX g x k):=by rw[D];exact s.kept fun j A G=>zR _ _ _ _ (c j G)
 clear s;have r:Ex X L (e.half k):=by rw[D];exact yD L3.out
 have h6:Ex X R En.zero:=by rw[D];exact R3.out.PR h8
 have h7:OA F w X:=by rw[D];exact(((OA.NZ m.out:OA F w w1).trans (T2.out.mono fun k hk=>hk.1) fun k hk=>.inl hk).trans (OA.NZ l.out:OA F B J) fun k hk=>.inl hk).setCell (.inr (by show w.heap.size<=L;omega)) _
 obtain⟨hn,L4,R4,T4,S,hp⟩:=Qh h0 r h6 h7 u c;have he:Hid (X.heap.size=J.heap.size):=yw (by rw[D];simp[World.setCell]);rw[<-D];clear D h0 r h6 h7 e0 e1 e2 e3 hm u c s1 s2 s3 W hr P h8;go_wp2_with fail;refine(vP 9 X _ p g (h.TX g x k) (x.OD (x.q.drop (2*k))) hn.out (yO _ _ _) (by show x.deep<9;omega) ht).mono ?_;rintro z w5 ⟨rfl,h5,t5⟩;obtain⟨H5,T5,L5,R5⟩:=Qf h5 t5 (L4.out.of (t5.block L L4.out.lt fun G=>hp.out L G rfl)) (R4.out.of (t5.block R R4.out.lt fun G=>S.out R G rfl));clear h5 t5
 obtain⟨e0,e1,e2,e3⟩:=L5.out.c4;obtain⟨r0,r1,r2,r3⟩:=R5.out.c4;have hy:=R5.out.OH;go_wp2;obtain⟨E,hE⟩:=yB (e.half k)
 rw[<-hE];have ho:=R5.out.iK E;obtain⟨g0,g1,g2,g3⟩:=ho.c4;refine bodyPost_ret (v:=zi #[zg (vG E),zd zj 0]) ?_ rfl ⟨rfl,?_⟩
 .simp[results,results143,go_sem,g0,g1,g2,g3]
 .have s1:=m.out.size;have s2:=T2.out.size;have s3:=l.out.size;have s4:=he.out;have W:=o.out;have P:=R1.out.lt;refine⟨(H5.out.kept (w':=(((w5.setCell ⟨R,0,zp⟩ (zd zj E.id)).setCell ⟨R,1,zp⟩ (zd zk E.w)).setCell ⟨R,2,zp⟩ (zd zj E.v)).setCell ⟨R,3,zp⟩ (zd zk E.rem)) ?_).mono fun j A G=>?_,?_⟩
  .refine xz.PS (uZ (F:=fun j=>j=R) (OA.refl _ w5) (.inl rfl)) fun j A e'=>?_;rcases A with A|⟨T,Y⟩
   .exact S.out j A e'
   .omega
  .have hz:((((w5.setCell ⟨R,0,zp⟩ (zd zj E.id)).setCell ⟨R,1,zp⟩ (zd zk E.w)).setCell ⟨R,2,zp⟩ (zd zj E.v)).setCell ⟨R,3,zp⟩ (zd zk E.rem)).heap.size=w5.heap.size:=by simp[World.setCell]
   rcases G with(G|⟨T,Y⟩)|⟨T,Y⟩
   .exact .inl G
   .exact .inr ⟨by omega,by omega⟩
   .exact .inr ⟨by omega,by omega⟩
  .refine uZ (T4.out.trans T5.out fun j A=>?_) (.inr (by omega));rcases A with A|⟨T,Y⟩
   .exact .inl A
   .exact .inr (by omega)
theorem WX(g k:Nat)(e:En)(w:zu)(F:Nat->Prop)(p:Nat)(h:Hm)(x:Gr)(D:yT w F p h)(G:h.gs g=zo x)(hk:k<64)(E:x.q.get (2*k)=zo e)
 (A: -9223372036854775808<=h.credit/\h.credit<=9223372036854775807):
 zw prog 143 #[ze (zo ⟨p,0,zp⟩),zd zj g,zd zj k] w fun z w'=>z=zm (zi #[zg (vG (e.half k)),zd zj 0])/\qv w F p (h.drop g k) w':=
 (QP g k e w _ p h x D.fO G hk E A fun k hk=>hk.2).mono fun z w' B=>⟨B.1,B.2.mono fun k hk=>hk.1⟩
theorem WZ(g k:Nat)(n:Int)(e:En)(w:zu)(F:Nat->Prop)(p:Nat)(h:Hm)(x:Gr)(d:yT w F p h)(A:h.gs g=zo x)(hk:k<64)(a:x.q.get (2*k)=zo e)(M:2<=n)(X:n<=262144):
 zw prog 90 #[ze (zo ⟨p,0,zp⟩),zd zj g,zd zj k,zd zk n] w fun z w'=>z=zm (zd zj 0)/\qv w F p (h.nice g k n) w':=by
 have I:=yw (Fw d.2 g k n);have G:h.nice g k n=h.set g (x.OD (x.q.OT (2*k) n)):=by unfold Hm.nice;rw[A]
 rw[G]at I ⊢;obtain⟨⟨ps,qs,tg,hs⟩,H⟩:=d;have V:=H.TG g x A;obtain⟨b,c,j,v,T⟩:=hs.PJ A;obtain⟨N,P,m,B,Y⟩:=Qg hs A a (Ks w p g h.credit h.gran ps hs.hx V) (Jk w k hk);rw[c]at B;have E:=yw (hs.RT A);obtain⟨q,O⟩:=yB (qs g)
 have Z:=yw O;rw[<-O]at E T;obtain⟨L,r,c2,t,K,u,C,o,l⟩:=T.c9;clear L r t K u C o l hs H c j v T A a O G;go_enter func90,ntmps90;go_wp2_with fail;refine B.out.mono ?_;rintro z f ⟨rfl,U⟩;obtain rfl:=U.symm;go_wp2_with fail;refine Y.out.mono ?_;rintro z f ⟨rfl,U⟩;obtain rfl:=U.symm;go_wp2_with fail;refine(Cp (2*k) n e w _ q x.q E.out m.out M X).mono ?_;rintro z f ⟨rfl,J,RJ⟩;have D:=N.out.dP (q':=x.q.OT (2*k) n) P.out RJ (by rw[<-Z.out];exact J.mono fun k hk s=>.inl s);have y:=yw RJ;have R:=yw D;clear J RJ D;go_wp2;go_ret
 exact⟨rfl,⟨⟨_,_,_,R.out⟩,I.out.ok⟩,y.out.mono fun k hk=>hk.1⟩
theorem Dl(g:Nat)(v:Bool)(w:zu)(F:Nat->Prop)(p:Nat)(h:Hm)(x:Gr)(m:yT w F p h)(G:h.gs g=zo x)(q:g≠0)
 (d: -9223372036854775808<=h.credit/\h.credit<=9223372036854775807):
 zw prog 82 #[ze (zo ⟨p,0,zp⟩),zd zj g,zh v] w fun z w'=>z=zm (zd zj 0)/\qv w F p (h.stop g v) w':=by
 have f:=yw (uQ m.2 G v);have M:h.stop g v=Hm.settle 9 (h.set g (x.SV v)) g:=by unfold Hm.stop;rw[G]
 rw[M];obtain⟨⟨ps,qs,tg,hs⟩,H⟩:=m;have Z:=H.TG g x G;have h6:=(H.deep g x G).2;obtain⟨b,X,j,S,O⟩:=hs.PJ G;obtain⟨T,HX,Y,G1,c,B⟩:=Qh hs G X O j (vO w p g h.credit h.gran ps hs.hx Z q);rw[X]at B;obtain⟨c0,u,C,P,c4,Q,c6,t,o⟩:=O.c9;have R:=O.OH;clear c0 u C P c4 Q c6 t hs H X j S O G M;go_enter func82,ntmps82;go_wp2_with fail;refine B.out.mono ?_;rintro z I ⟨rfl,K⟩;obtain rfl:=K.symm;go_upto_region 5 with(fail)
 obtain⟨I,A⟩:=yB (w.setCell ⟨b,8,zp⟩ (zh v))
 have D:OA (fun k=>k=b) w I:=by rw[A];exact(OA.refl _ w).one
 have E:I.heap.size=w.heap.size:=by rw[A];simp[World.setCell]
 have N:PW I b (qs g) (x.SV v):=by rw[A];exact G1.out.setSt v
 have J:=T.out.AG (y:=x.SV v) HX.out Y.out D E N rfl;obtain⟨U,W,V⟩:=Qe J D E;rw[<-A];clear A D E N J o R B;go_wp2_with fail;refine(vP 9 I F p g (h.set g (x.SV v)) (x.SV v) ⟨⟨_,_,_,U.out⟩,f.out.ok⟩ (yO _ _ _) (by show x.deep<9;omega) d).mono ?_;rintro z w5 ⟨rfl,l,n⟩;have r:=yw l;have s:=yw n;clear l n;go_wp2;go_ret;have hz:=V.out;refine⟨rfl,r.out.mono fun k hk L=>L.imp id fun⟨a,b⟩=>⟨by omega,b⟩,(W.out.mono fun k hk=>hk▸c.out).trans s.out fun k hk=>.inl hk⟩
theorem CN{w':zu}{j:Nat}(B:OA (fun k=>F k/\tg k=g+1) w w')(D:tg j=0)(A:j<w.heap.size)(o:Nat):w'.cell? ⟨j,o,zp⟩=w.cell? ⟨j,o,zp⟩:=by have:=B.block j A (by rintro⟨_,e⟩;rw[D]at e;omega);simp[zN,this]
theorem CO(g:Nat)(n:Int)(w:zu)(F:Nat->Prop)(p:Nat)(h:Hm)(x:Gr)(X:yT w F p h)(G:h.gs g=zo x)(Q:g≠0)(H:2<=n)(V:n<=262144)(B:x.on=zq):
 zw prog 105 #[ze (zo ⟨p,0,zp⟩),zd zj g,zd zk n] w fun z w'=>z=zm (zd zj 0)/\qv w F p (h.OT g n) w':=by
 have U:=yw (Jm X.2 g H V);obtain⟨u,y,Y,E,hd⟩:=X.2.up g x G Q;have T:h.OT g n=h.set u (y.OD (y.q.OT (2*g+1) n)):=by unfold Hm.OT;rw[G];simp only;rw[if_pos B,Y];rw[show((u:Int)).toNat=u from rfl,E]
 rw[T]at U ⊢;have R:=(Fu X.2 G Y E B).1;obtain⟨⟨ps,qs,tg,hs⟩,D⟩:=X;have N:=D.TG g x G;have s:=D.TG u y E;obtain⟨b,S,h2,K,l⟩:=hs.PJ G;obtain⟨c,P,k2,L,Z⟩:=hs.PJ E;have hd:=hs.hx.at s;rw[P]at hd;have j:=hs.hx.lt;obtain⟨a,HY,HG,r⟩:=Qf hs E R (And.intro K (And.intro L hs.tp));have h8:(0:Int)<=u:=by omega
 have h5:(u:Int) <32:=by omega
 have O:=yw (vO w p g h.credit h.gran ps hs.hx N Q);rw[S]at O;have J:=yw (hs.RT E);obtain⟨q,t⟩:=yB (qs u)
 have v:=yw t;rw[<-t]at J Z;obtain⟨o,c1,c2,c3,c4,c5,c6,c7,c8⟩:=l.c9;rw[Y]at o;rw[B]at c7;have f:=l.lt;obtain⟨d0,d1,C,d3,d4,d5,d6,d7,d8⟩:=Z.c9;have RK:=Z.lt;clear c1 c2 c3 c4 c5 c6 c8 d0 d1 d3 d4 d5 d6 d7 d8 hs D S h2 K l P k2 L Z G t T E R Y;go_enter func105,ntmps105;go_wp2_with fail;refine O.out.mono ?_;rintro z w2 ⟨rfl,m⟩;obtain rfl:=m.symm;go_wp2_with fail;go_region_held3 (fun w'=>w'.cell? ⟨b,0,zp⟩=zo (zd zj u)/\w'.cell? ⟨p,2+u,zp⟩=zo (ze (zo ⟨c,0,zp⟩))/\w'.cell? ⟨c,2,zp⟩=zo (ze (zo ⟨q,0,zp⟩))) (go_keep)
  (first
   | (
    go_at_call 123;refine(Wm w.drew g N).mono ?_;rintro z w9 ⟨rfl,m⟩;obtain rfl:=m.symm)
   | (
    go_at_call 140;refine(Cp (2*g+1) n _ w.drew _ q y.q (J.out.kept fun k _ _=>rfl) HG.out H V).mono ?_;rintro z w3 ⟨rfl,M,A⟩;have I:=(a.out.kept (w':=w.drew) (fun _ _ _=>rfl)).dP (q':=y.q.OT (2*g+1) n) HY.out A (by rw[<-v.out];exact M.mono fun k hk hf=>.inl hf);have W:=yw A;have d:=yw I;have h7:=(CN A r.out.1 f 0).trans o;have h9:=(CN A r.out.2.1 RK 2).trans C;have h6:=(CN A r.out.2.2 j (2+u)).trans hd;clear M A I hd o C))
 all_goals
  go_wp2;go_ret;exact⟨rfl,⟨(⟨_,_,_,d.out⟩),U.out.ok⟩,(W.out.mono fun k hk=>hk.1).TT⟩
theorem Fx{r n d:Int}(h1:0<=r)(h2:r<d)(h3:2<=n)(h4:n<=262144)(h5:2<=d)(h6:d<=262144)(w:zu):zw prog 91 #[zd zk r,zd zk n,zd zk d] w fun e w'=>e=zm (zi #[zd zk (r*n/d),zd zk (r*n%d),zh zq])/\Below w.heap.size w w':=
 Vu r n d w ⟨by omega,by omega⟩ ⟨by omega,by omega⟩ ⟨by omega,by omega⟩ (Wn ⟨by omega,by omega⟩ ⟨by omega,by omega⟩)
theorem UA(g:Nat)(n:Int)(w:zu)(F:Nat->Prop)(p:Nat)(h:Hm)(x:Gr)(m:yT w F p h)(E:h.gs g=zo x)(K:g≠0)(I:2<=n)(O:n<=262144)(J:x.on=zt):
 zw prog 105 #[ze (zo ⟨p,0,zp⟩),zd zj g,zd zk n] w fun z w'=>z=zm (zd zj 0)/\qv w F p (h.OT g n) w':=by
 have V:=yw (Jm m.2 g I O);have R:h.OT g n=h.set g (x.bA n):=by unfold Hm.OT;rw[E];simp only;rw[if_neg (by rw[J];simp)]
 rw[R]at V ⊢;obtain⟨l,_⟩:=m.2.own g x E K;obtain⟨⟨ps,qs,tg,hs⟩,T⟩:=m;have t:=T.TG g x E;obtain⟨b,D,C,h3,X⟩:=hs.PJ E;obtain⟨a,HX,q,G1,u,H⟩:=Qh hs E D X C (vO w p g h.credit h.gran ps hs.hx t K);rw[D]at H;have M:=l.w;have N:=l.rem;obtain⟨v,f,j,o,S,s,Q,Y,Z⟩:=X.c9;rw[J]at Y;have G:=X.OH;clear v f j o s Z hs T D C h3 X E R l;go_enter func105,ntmps105;go_wp2_with fail;refine H.out.mono ?_;rintro z w2 ⟨rfl,hw⟩;obtain rfl:=hw.symm;go_wp2_with fail;go_region_with
  ((
   go_at_call 91;refine(Fx N.1 N.2 I O M.1 M.2 w.drew).mono ?_;rintro z A ⟨rfl,B⟩;have c:=yw B;have d:=yw ((show PW w.drew b (qs g) x from G1.out).behind B);clear B S Q Y G;obtain⟨v,f,j,o,S,s,Q,Y,Z⟩:=d.out.c9;have G:=d.out.OH;clear v f j o s Y Z))
 all_goals
  go_wp2;go_ret;obtain⟨r,P⟩:=yB (x.own.rem*n/x.own.w)
  rw[<-P];have U:Below w.heap.size w A:=yC (yI (zU _ w)) c.out (yA _);have hG:PW ((A.setCell ⟨b,6,zp⟩ (zd zk r)).setCell ⟨b,4,zp⟩ (zd zk n)) b (qs g) (x.bA n):=by have D:=(d.out.AS r).iJ n;unfold Gr.bA;rw[P]at D ⊢;exact D
  have L:OA (fun k=>k=b) A ((A.setCell ⟨b,6,zp⟩ (zd zk r)).setCell ⟨b,4,zp⟩ (zd zk n)):=(OA.refl _ A).one.one;have W:((A.setCell ⟨b,6,zp⟩ (zd zk r)).setCell ⟨b,4,zp⟩ (zd zk n)).heap.size=A.heap.size:=by simp[World.setCell]
  have hS:=(a.out.kept (.NZ U)).AG (y:=x.bA n) HX.out q.out L W hG rfl;refine⟨rfl,⟨⟨_,_,_,hS.mono fun k hk hf=>.inl hf⟩,V.out.ok⟩,?_⟩;exact(OA.NZ U:OA F w A).trans L fun k hk=>.inl (hk▸u.out)
theorem QQ(g:Nat)(n:Int)(w:zu)(F:Nat->Prop)(p:Nat)(h:Hm)(x:Gr)(D:yT w F p h)(G:h.gs g=zo x)(E:g≠0)(A:2<=n)(B:n<=262144):
 zw prog 105 #[ze (zo ⟨p,0,zp⟩),zd zj g,zd zk n] w fun z w'=>z=zm (zd zj 0)/\qv w F p (h.OT g n) w':=by
 cases hon:x.on
 .exact UA g n w F p h x D G E A B hon
 .exact CO g n w F p h x D G E A B hon
def bC(f:Nat->Option Nat)(g b:Nat):Nat->Option Nat:=fun k=>if k=g then zo b else f k
theorem TW.OF{credit gran:Int}{ps:Nat->Option Nat}(h:TW w p credit gran ps)(hg:g<32):TW (w.setCell ⟨p,2+g,zp⟩ (ze (zo ⟨b,0,zp⟩))) p credit gran (bC ps g b):=by
 obtain⟨cs,D⟩:=h.ty;have A:=yD (i:=2+g) (u:=ze (zo ⟨b,0,zp⟩)) D;refine⟨⟨_,A⟩,?_,?_,?_⟩
 .rw[zB _ _ _ _ (by simp)];exact h.c0
 .rw[zB _ _ _ _ (by intro e;injection e with e1 e2;omega)];exact h.c1
 .intro k hk;unfold bC;by_cases e:k=g
  .subst e;rw[Nat.add_comm k 2,World.cell?_setCell_same _ _ _ (h.at hk)];simp
  .rw[zB _ _ _ _ (by intro B;injection B with e1 e2;omega),if_neg e];exact h.cs k hk
theorem HS.add{w':zu}{ps:Nat->Option Nat}(hs:HS w F p h ps qs tg)(hn:h.gs g=zp)(l:TW w' p h.credit h.gran (bC ps g b))(U:OA (fun k=>k=p) w w')
 (hb:w.heap.size<=b) (Y:PW w' b q x) (a:xZ w' (fun k=>w.heap.size<=k/\k≠b) q x.q):
 HS w' (Ext F w w') p (h.set g x) (bC ps g b) (fun k=>if k=g then q else qs k) (fun k=>if k<w.heap.size then tg k else if k=b then 0 else g+1):=by
 have N:=hs.hx.lt;refine⟨l,?_,?_,?_,.inl hs.fp,?_⟩
 .intro k hk;by_cases e:k=g
  .subst e;rw[yO]at hk;cases hk
  .rw[yJ h x e]at hk;unfold bC;rw[if_neg e];exact hs.eK k hk
 .intro k z D;by_cases e:k=g
  .subst e;rw[yO]at D;cases D;refine⟨b,by unfold bC;rw[if_pos rfl],.inr ⟨hb,Y.lt⟩,?_,?_,?_⟩
   .show(if b<w.heap.size then tg b else if b=b then 0 else k+1)=0;rw[if_neg (by omega),if_pos rfl]
   .show PW w' b (if k=k then q else qs k) x;rw[if_pos rfl];exact Y
   .show xZ w' _ (if k=k then q else qs k) x.q;rw[if_pos rfl];refine a.mono fun j G B=>⟨.inr ⟨B.1,G⟩,?_⟩
    show(if j<w.heap.size then tg j else if j=b then 0 else k+1)=k+1;rw[if_neg (by omega),if_neg B.2]
  .rw[yJ h x e]at D;obtain⟨c,H,M,R,E,O⟩:=hs.gx k z D;have J:c≠p:=fun f=>hs.hx.fN E f.symm;refine⟨c,by unfold bC;rw[if_neg e];exact H,.inl M,?_,?_,?_⟩
   .show(if c<w.heap.size then tg c else _)=0;rw[if_pos E.lt];exact R
   .show PW w' c (if k=g then q else qs k) z;rw[if_neg e];exact E.of (U.block c E.lt J)
   .show xZ w' _ (if k=g then q else qs k) z.q;rw[if_neg e];obtain⟨m,t,V,Z,X,T⟩:=O;have n:QS w' (fun j=>F j/\tg j=k+1/\j<w.heap.size) (qs k) m t V Z X z.q:=(T.mono fun j G B=>⟨B.1,B.2,G⟩).kept fun j G B=>U.block j G (by rintro rfl;have o:=B.2.1;rw[hs.tp]at o;omega);refine⟨m,t,V,Z,X,n.mono fun j G B=>⟨.inl B.1,?_⟩⟩;show(if j<w.heap.size then tg j else _)=k+1;rw[if_pos B.2.2];exact B.2.1
 .intro k I c hk A;unfold bC at hk A;split at hk<;>split at A
  .omega
  .cases hk;cases D:h.gs I with
   | none=>rw[hs.eK I D]at A;cases A
   | some z=>
    obtain⟨d,H,M,R,E,O⟩:=hs.gx I z D;rw[H]at A;cases A;have:=E.lt;omega
  .cases A;cases D:h.gs k with
   | none=>rw[hs.eK k D]at hk;cases hk
   | some z=>
    obtain⟨d,H,M,R,E,O⟩:=hs.gx k z D;rw[H]at hk;cases hk;have:=E.lt;omega
  .exact hs.inj k I c hk A
 .show(if p<w.heap.size then tg p else _)=0;rw[if_pos N];exact hs.tp
abbrev Rz(q:Nat)(x:Gr):Obj:=zn #[zd zj x.up,zd zj x.deep,ze (zo ⟨q,0,zp⟩),zd zj x.own.id,zd zk x.own.w,zd zj x.own.v,zd zk x.own.rem,zh x.on,zh x.st] 138
theorem PW.new(w:zu)(q:Nat)(x:Gr):PW (w.alloc (Rz q x)) w.heap.size q x:=heap_alloc_new w _
theorem UB(g u:Nat)(w:zu)(F:Nat->Prop)(p:Nat)(h:Hm)(y:Gr)(hh:yT w F p h)(Z:h.gs g=zp)(T:h.gs u=zo y)(n:y.deep<8)(h0:g≠0)(O:g<32):
 zw prog 75 #[ze (zo ⟨p,0,zp⟩),zd zj g,zd zj u] w fun z w'=>z=zm (zd zj 0)/\qv w F p (h.link g u) w':=by
 obtain⟨S,l2,W⟩:=JB hh.2 h0 O Z T n;rw[W]at S ⊢;obtain⟨⟨ps,qs,tg,hs⟩,H⟩:=hh;have K:=H.TG u y T;have h6:=(H.deep u y T).1;obtain⟨c,k1,k2,k3,C⟩:=hs.PJ T;have hc:=hs.hx.at O;rw[hs.eK g Z]at hc;have U:=hs.hx.lt;have M:=hs.hx.OH;obtain⟨D,HN,r,N⟩:=Qf hs Z S (Ks w p u h.credit h.gran ps hs.hx K);rw[k1]at N;obtain⟨j,d1,a,l,o,x,f,d,Q⟩:=C.c9;have C1:=yw C;have h2:(0:Int)<=g:=by omega
 have h7:(g:Int) <32:=by omega
 have h5:1<=(g:Int):=by omega
 have h4:IntKind.i64.wrap (y.deep+1)=y.deep+1:=by simp only[IntKind.wrap,yq,IntKind.bits];simp;omega
 have h9:(y.deep == 8)=zt:=beq_eq_false_iff_ne.2 (by omega);clear j a l o x f d Q hs H k1 k2 k3 C Z T S l2 W;go_enter func75,ntmps75;go_wp2_with fail;refine N.out.mono ?_;rintro z w2 ⟨rfl,v⟩;obtain rfl:=v.symm;go_wp2_with fail;go_region_with
  ((
   first
   | (
    go_at_call 69;go_loud (
     refine(Lj _).mono ?_;rintro z G ⟨rfl,J,A⟩;obtain⟨s,t,C3,Y⟩:=Qf J A ((show PW w.drew c (qs u) y from C1.out).behind A) ((D.out.hx.of (w':=w.drew) rfl).behind A);have q:=Y.out.at O;rw[D.out.eK g HN.out]at q;clear J A hc d1 U M;have U:=Y.out.lt;have M:=Y.out.OH;obtain⟨j,d1,a,l,o,x,f,d,Q⟩:=C3.out.c9;clear j a l o x f d Q))
   | (
    go_at_call 123;refine(Wm _ g O).mono ?_;rintro z w9 ⟨rfl,v⟩;obtain rfl:=v.symm)))
 all_goals
  go_wp2;go_ret;refine⟨rfl,?_⟩;have A:Below w.heap.size w G:=yC (yI (zU _ w)) t.out (yA _);have h3:=A.size;have h8:=D.out.hx.lt;obtain⟨E,B⟩:=yB (G.setCell ⟨p,2+g,zp⟩ (ze (zo ⟨G.heap.size,0,zp⟩)))
  have L:E.heap.size=G.heap.size:=by rw[B];simp[World.setCell]
  have R:TW E p h.credit h.gran (bC ps g G.heap.size):=by rw[B];exact Y.out.OF O
  have P:OA (fun k=>k=p) w E:=by rw[B];exact(OA.NZ A:OA _ w G).one
  have X:xZ E (fun k=>w.heap.size<=k/\k≠G.heap.size) (w.heap.size+2) Qu.new:=by
   have h1:xZ G (fun k=>w.heap.size<=k/\k≠G.heap.size) (w.heap.size+2) Qu.new:=s.out.mono fun k hk m=>⟨m,by omega⟩
   rw[B];exact h1.kept fun k hk m=>zR _ _ _ _ (by show k≠p;have:=m.1;omega)
  rw[<-B];rw[<-L]at R X;clear B;have I:=yE E (Rz (w.heap.size+2) (Jj g u y.deep));have b:=PW.new E (w.heap.size+2) (Jj g u y.deep);have V:OA (fun k=>k=p) w (E.alloc (Rz (w.heap.size+2) (Jj g u y.deep))):=P.trans (OA.NZ I:OA (fun k=>k=p) E _) fun k hk=>.inl hk;refine⟨⟨⟨_,_,_,D.out.add HN.out (R.behind I) V (by omega) b (X.behind I)⟩,r.out⟩,V.mono fun k hk=>hk▸D.out.fp⟩
abbrev Nz(credit gran:Int):Array Value:=#[zd zj credit,zd zj gran,ze zp,ze zp,ze zp,ze zp,ze zp,ze zp,ze zp,ze zp,ze zp,ze zp,ze zp,ze zp,ze zp,ze zp,ze zp,ze zp,ze zp,ze zp,ze zp,ze zp,ze zp,ze zp,ze zp,ze zp,ze zp,ze zp,ze zp,ze zp,ze zp,ze zp,ze zp,ze zp]
theorem TW.fresh(w:zu)(credit gran:Int):TW (w.alloc (zn (Nz credit gran) 152)) w.heap.size credit gran (fun _=>zp):=by
 have A:(w.alloc (zn (Nz credit gran) 152)).heap[w.heap.size]?=zo (zn (Nz credit gran) 152 (0,0)):=heap_alloc_new w _;refine⟨⟨_,A⟩,by simp,by simp,fun k hk=>?_⟩;have:k=0∨k=1∨k=2∨k=3∨k=4∨k=5∨k=6∨k=7∨k=8∨k=9∨k=10∨k=11∨k=12∨k=13∨k=14∨k=15∨k=16∨k=17∨k=18∨k=19∨k=20∨k=21∨k=22∨k=23∨k=24∨k=25∨k=26∨k=27∨k=28∨k=29∨k=30∨k=31:=by omega
 rcases this with rfl|rfl|rfl|rfl|rfl|rfl|rfl|rfl|rfl|rfl|rfl|rfl|rfl|rfl|rfl|rfl|rfl|rfl|rfl|rfl|rfl|rfl|rfl|rfl|rfl|rfl|rfl|rfl|rfl|rfl|rfl|rfl<;>simp
theorem CP(credit gran:Int)(w:zu):
 zw prog 37 #[zd zj credit,zd zj gran] w fun z w'=>z=zm (ze (zo ⟨w.heap.size,0,zp⟩))/\yT w' (fun k=>w.heap.size<=k) w.heap.size (Hm.new credit gran)/\Below w.heap.size w w':=by
 go_enter func37,ntmps37;go_upto_region 2 with(fail)
 obtain⟨w1,I⟩:=yB (w.alloc (zn (Nz credit gran) 152))
 have a:Below w.heap.size w w1:=by rw[I];exact yE w _
 have E:TW w1 w.heap.size credit gran (fun _=>zp):=by rw[I];exact TW.fresh w credit gran
 rw[<-I];have J:=yw E;have Y:=yw a;have o:=E.at (k:=0) (by omega);have N:=E.lt;have M:=E.OH;obtain⟨p,m⟩:=yB w.heap.size
 rw[<-m]at J o N M ⊢;have s:=yw m;clear I E a m;go_region_with
  ((
   go_at_call 69;refine(Lj _).mono ?_;rintro z H ⟨rfl,Z,D⟩;obtain⟨f,h,c⟩:=Qe Z D ((J.out.of (w':=w1.drew) rfl).behind D);clear Z D o N M;have o:=c.out.at (k:=0) (by omega);have N:=c.out.lt;have M:=c.out.OH))
 all_goals
  go_wp2;go_ret;have T:=s.out;have D:Below w1.heap.size w1 H:=yC (yI (zU _ w1)) h.out (yA _);have j:=Y.out.size;have h3:=D.size;have h0:=J.out.lt;have hs:HS w1 (fun k=>w.heap.size<=k) p ⟨credit,gran,fun _=>zp⟩ (fun _=>zp) (fun _=>0) (fun _=>0):=
   ⟨J.out,fun _ _=>rfl,(fun g x t=>by cases t),(fun g g' b hb=>by cases hb),by omega,rfl⟩
  obtain⟨G,A⟩:=yB (H.setCell ⟨p,2,zp⟩ (ze (zo ⟨H.heap.size,0,zp⟩)))
  have l:G.heap.size=H.heap.size:=by rw[A];simp[World.setCell]
  have V:TW G p credit gran (bC (fun _=>zp) 0 H.heap.size):=by rw[A];exact c.out.OF (g:=0) (by omega)
  have n:OA (fun k=>k=p) w1 G:=by rw[A];exact(OA.NZ D:OA _ w1 H).one
  have U:xZ G (fun k=>w1.heap.size<=k/\k≠H.heap.size) (w1.heap.size+2) Qu.new:=by
   have q:xZ H (fun k=>w1.heap.size<=k/\k≠H.heap.size) (w1.heap.size+2) Qu.new:=f.out.mono fun k hk R=>⟨R,by omega⟩
   rw[A];exact q.kept fun k hk R=>zR _ _ _ _ (by show k≠p;have:=R.1;omega)
  rw[<-A];rw[<-l]at V U;clear A;have O:=yE G (Rz (w1.heap.size+2) Qp);have d:=PW.new G (w1.heap.size+2) Qp;have X:OA (fun k=>k=p) w1 (G.alloc (Rz (w1.heap.size+2) Qp)):=n.trans (OA.NZ O:OA (fun k=>k=p) G _) fun k hk=>.inl hk;have r:=hs.add (g:=0) rfl (V.behind O) X (by omega) d (U.behind O);have u:(⟨credit,gran,fun _=>zp⟩:Hm).set 0 Qp=Hm.new credit gran:=rfl;rw[u]at r;rw[<-T];refine⟨rfl,⟨⟨_,_,_,r.mono fun k hk R=>?_⟩,(QO credit gran).1⟩,?_⟩
  .rcases R with R|⟨q,h2⟩<;>omega
  .rw[T];exact yC Y.out ((X.below (B:=w.heap.size) j fun k hk=>by omega)) (by omega)
end
def Hm.down(f b:Qu->Qu):Nat->Hm->Nat->Hm×Nat×Int
 | 0,h,g=>(h,g,-1)
 | k+1,h,g=>match h.gs g with
  | none=>(h,g,-1)
  | some x=>
   if(f x.q).cur<0∨(f x.q).cur%2=0 then((h.set g (x.OD (f x.q))).set g ((x.OD (f x.q)).OD (b (f x.q))),g,(f x.q).cur)
   else Hm.down f b k ((h.set g (x.OD (f x.q))).set g ((x.OD (f x.q)).OD (b (f x.q)))) ((f x.q).cur/2).toNat
def PC(q:Qu):Qu:=q
def Ku(n:Int):Int:=if n<0 then -1 else n/2
def Hm.running(h:Hm):Int:=Ku (h.down PC PC 9 0).2.2
def vp(gran:Int)(q:Qu):Qu:=q.pick gran
def Kv(ns:Int)(q:Qu):Qu:=q.OK ns
def Hm.pick(h:Hm):Hm×Int:=((h.down (vp h.gran) PC 9 0).1,Ku (h.down (vp h.gran) PC 9 0).2.2)
def Hm.OK(h:Hm)(ns:Int):Hm:=(h.down PC (Kv ns) 9 0).1
def Hm.RU(h:Hm)(g:Nat):Hm:=match h.gs g with
 | none=>h
 | some x=>h.set g (x.OD (x.q.yield h.gran))
def Hm.yield(h:Hm):Hm×Int:=if h.running= -1 then h.pick else(h.RU (h.down PC PC 9 0).2.1).pick
structure xW(f:Qu->Qu):Prop where
 ok:∀q:Qu,q.Ok->(f q).Ok
 has:∀(q:Qu) i,q.Ok->((f q).has i↔q.has i)
theorem xW.id:xW PC:=⟨fun _ h=>h,fun _ _ _=>Iff.rfl⟩
theorem Er{x:Qu}(h:x.Ok)(D:Int):(x.pick D).Ok:=by
 have A:(x.pick D).l=x.l:=by unfold Qu.pick;repeat' split<;>try rfl
 have B:(x.pick D).min=x.min:=by unfold Qu.pick;repeat' split<;>try rfl
 refine⟨by rw[A];exact h.RA,by rw[A];exact h.ids,by rw[A];exact h.ord,?_,by rw[B];exact h.min,by rw[A];exact h.len⟩;rw[A];unfold Qu.pick;split
 .exact h.cur
 .rename_i o E;have B:=List.mem_of_find?_eq_some E;split
  .exact .inr ⟨o,B,rfl⟩
  .split
   .exact h.cur
   .exact .inr ⟨o,B,rfl⟩
theorem xW.pick(A:Int):xW (vp A):=⟨fun q h=>Er h A,fun q i _=>Vt q A i⟩
theorem xW.OK(ns:Int):xW (Kv ns):=⟨fun q h=>TS h ns,fun q i _=>Fq ns i⟩
theorem Qr{f b:Qu->Qu}(A:xW f)(hb:xW b):∀(k:Nat) {h:Hm} (hk:h.Ok) (g:Nat),ua h (h.down f b k g).1
 | 0,h,hk,g=>.refl hk
 | k+1,h,hk,g=>by
  unfold Hm.down;cases hx:h.gs g with
  | none=>exact .refl hk
  | some x=>
   simp only;have B:=(hk.q g x hx).1;have D:=qg hk hx (A.ok _ B) fun i=>A.has _ i B;have E:=qg D.ok (yO h g (x.OD (f x.q))) (q:=b (f x.q)) (hb.ok _ (A.ok _ B)) fun i=>hb.has _ i (A.ok _ B);split
   .exact D.trans E
   .exact(D.trans E).trans (Qr A hb k E.ok _)
theorem qY(A:h.gs g=zo x):h.set g x=h:=by
 cases h with
 | mk c gr gs=>
  unfold Hm.set
  congr 1
  funext k;simp only;split
  .rename_i e;rw[e];exact A.symm
  .rfl
theorem JC:∀(k:Nat) (h:Hm) (g:Nat),(h.down PC PC k g).1=h
 | 0,h,g=>rfl
 | k+1,h,g=>by
  unfold Hm.down;cases hx:h.gs g with
  | none=>rfl
  | some x=>
   simp only;have e:(h.set g (x.OD (PC x.q))).set g ((x.OD (PC x.q)).OD (PC (PC x.q)))=h:=by have A:h.set g (x.OD (PC x.q))=h:=qY (x:=x.OD (PC x.q)) hx;rw[A];exact qY (x:=(x.OD (PC x.q)).OD (PC (PC x.q))) hx
   rw[e];split
   .rfl
   .exact JC k h _
def UC(h A:Hm):Prop:=∀g,(h.gs g=zp/\A.gs g=zp)∨∃x y,h.gs g=zo x/\A.gs g=zo y/\y.q.cur=x.q.cur
theorem UC.set{B:Hm}(D:UC h B)(e:y.q.cur=x.q.cur):UC (h.set g x) (B.set g y):=fun k=>by
 by_cases A:k=g
 .subst A;exact .inr ⟨x,y,yO _ _ _,yO _ _ _,e⟩
 .rw[yJ _ _ A,yJ _ _ A];exact D k
theorem Sa{b G:Qu->Qu}(hb:∀q,(b q).cur=q.cur)(A:∀q,(G q).cur=q.cur):∀(k:Nat) (h B:Hm) (g:Nat),UC h B->(B.down PC G k g).2=(h.down PC b k g).2
 | 0,h,B,g,hc=>rfl
 | k+1,h,B,g,hc=>by
  unfold Hm.down;rcases hc g with⟨E,D⟩|⟨x,y,E,D,H⟩
  .rw[E,D]
  .rw[E,D];simp only;have e:(PC y.q).cur=(PC x.q).cur:=H;rw[e];split
   .rfl
   .refine Sa hb A k _ _ _ ((hc.set (x:=x.OD (PC x.q)) (y:=y.OD (PC y.q)) H).set ?_);show(G y.q).cur=(b x.q).cur;rw[hb,A,H]
theorem UC.refl(h:Hm):UC h h:=fun g=>by
 cases hg:h.gs g with
 | none=>exact .inl ⟨rfl,rfl⟩
 | some x=>exact .inr ⟨x,x,rfl,rfl,rfl⟩
theorem QR(ns:Int)(q:Qu):(Kv ns q).cur=q.cur:=by
 unfold Kv Qu.OK;split
 .rfl
 .rw[uY]
theorem Sb(h:Hm)(ns:Int)(k g:Nat):(h.down PC (Kv ns) k g).2=(h.down PC PC k g).2:=Sa (fun _=>rfl) (QR ns) k h h g (.refl h)
theorem Lo{f b:Qu->Qu}(A:xW f)(hb:xW b):∀(k:Nat) {h:Hm} (hk:h.Ok) (g:Nat) (x:Gr),h.gs g=zo x->9<=k+x.deep->∃y,(h.down f b k g).1.gs (h.down f b k g).2.1=zo y
 | 0,h,hk,g,x,hx,hd=>by have:=(hk.deep g x hx).2;omega
 | k+1,h,hk,g,x,hx,hd=>by
  unfold Hm.down;rw[hx];simp only;have B:=(hk.q g x hx).1;have N:=qg hk hx (A.ok _ B) fun i=>A.has _ i B;have O:=qg N.ok (yO h g (x.OD (f x.q))) (q:=b (f x.q)) (hb.ok _ (A.ok _ B)) fun i=>hb.has _ i (A.ok _ B);split
  .exact⟨_,yO _ _ _⟩
  .rename_i hn;have H:=A.ok _ B;have E:∃e∈(f x.q).l,e.id=(f x.q).cur:=H.cur.resolve_left (by omega);obtain⟨c,R⟩:∃c:Nat,(f x.q).cur=2*c+1:=⟨((f x.q).cur/2).toNat,by omega⟩
   have M:x.q.has (2*c+1):=by rw[<-R];exact(A.has _ _ B).1 E
   obtain⟨y,J,I⟩:=hk.eJ g x c hx M;obtain⟨h0,G,x',D,h1⟩:=Vv hk J I;rw[hx]at D;cases D;have e:((f x.q).cur/2).toNat=c:=by omega
   rw[e];refine Lo A hb k O.ok c y ?_ (by omega);rw[yJ _ _ G,yJ _ _ G];exact J
theorem Un(hk:h.Ok):ua h h.pick.1:=Qr (.pick _) .id 9 hk 0
theorem Ir(hk:h.Ok)(ns:Int):ua h (h.OK ns):=Qr .id (.OK ns) 9 hk 0
theorem CQ{x:Qu}(h:x.Ok)(A:Int):(x.yield A).Ok:=by
 unfold Qu.yield;split
 .rename_i o c B hc;split
  .exact⟨h.RA,h.ids,h.ord,.inr ⟨o,List.mem_of_find?_eq_some B,rfl⟩,h.min,h.len⟩
  .exact Er h A
 .exact Er h A
theorem ub(hk:h.Ok)(g:Nat):ua h (h.RU g):=by
 unfold Hm.RU;cases hx:h.gs g with
 | none=>exact .refl hk
 | some x=>exact qg hk hx (CQ (hk.q g x hx).1 _) fun i=>Dj _ _ _
theorem Sd(hk:h.Ok):ua h h.yield.1:=by
 unfold Hm.yield;split
 .exact Un hk
 .exact(ub hk _).trans (Un (ub hk _).ok)
theorem Dm{f b:Qu->Qu}(B:xW f)(hb:xW b):∀(k:Nat) {h:Hm} (hk:h.Ok) (g:Nat),(h.down f b k g).2.2<0∨∃g' i,(h.down f b k g).2.2=2*i/\0<=i/\i<64/\h.even g' i∨(h.down f b k g).2.2<0
 | 0,h,hk,g=>.inl (by show(-1:Int) <0;omega)
 | k+1,h,hk,g=>by
  unfold Hm.down;cases hx:h.gs g with
  | none=>exact .inl (by show(-1:Int) <0;omega)
  | some x=>
   simp only;have D:=(hk.q g x hx).1;have I:=qg hk hx (B.ok _ D) fun i=>B.has _ i D;have J:=qg I.ok (yO h g (x.OD (f x.q))) (q:=b (f x.q)) (hb.ok _ (B.ok _ D)) fun i=>hb.has _ i (B.ok _ D);split
   .rename_i hn;by_cases G:(f x.q).cur<0
    .exact .inl G
    .refine .inr ⟨g,(f x.q).cur/2,.inl ?_⟩;have E:∃e∈(f x.q).l,e.id=(f x.q).cur:=(B.ok _ D).cur.resolve_left (by omega);have M:x.q.has (f x.q).cur:=(B.has _ _ D).1 E;obtain⟨e,H,hi⟩:=M;have:=(hk.q g x hx).2 e H;refine⟨by show(f x.q).cur=_;omega,by omega,by omega,x,hx,e,H,by omega⟩
   .rcases Dm B hb k J.ok ((f x.q).cur/2).toNat with A|⟨g',i,A|A⟩
    .exact .inl A
    .exact .inr ⟨g',i,.inl ⟨A.1,A.2.1,A.2.2.1,(I.even _ _).1 ((J.even _ _).1 A.2.2.2)⟩⟩
    .exact .inl A
theorem CR{f b:Qu->Qu}(B:xW f)(hb:xW b)(hk:h.Ok):Ku (h.down f b 9 0).2.2= -1∨∃(g:Nat) (i:Nat),Ku (h.down f b 9 0).2.2=i/\i<64/\h.even g i:=by
 unfold Ku;rcases Dm B hb 9 hk 0 with A|⟨g',i,A|A⟩
 .rw[if_pos A];exact .inl rfl
 .rw[if_neg (by omega)];obtain⟨j,rfl⟩:=Int.eq_ofNat_of_zero_le A.2.1;exact .inr ⟨g',j,by omega,by omega,A.2.2.2⟩
 .rw[if_pos A];exact .inl rfl
