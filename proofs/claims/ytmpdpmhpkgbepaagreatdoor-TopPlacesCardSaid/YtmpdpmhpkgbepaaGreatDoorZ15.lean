/- Parts for TopPlaces. Conditions: as stated. -/
import Derived.Deep.RegionHeld3
import Derived.Lib.OthersKept
import Derived.WalkSmall
import Derived.Test.YtmpdpmhpkgbepaaGreatDoorZ13
set_option linter.unusedVariables false
set_option maxRecDepth 100000
set_option maxHeartbeats 4000000
open Go.Value renaming int->zd,pointer->ze,slice->zf,agg->zg,bool->zh,tuple->zi,ownBlock->zX
open Go.IntKind renaming i64->zj,u64->zk
open Go.Ending renaming returned->zm
open Go.Obj renaming cells->zn
open Option renaming some->zo,none->zp
open Bool renaming true->zq,false->zt
open Go renaming World->zu,Calls->zw,Value->zz
open List renaming getElem?_eq_getElem->zy,length_append->zE,getElem?_map->zG,getD_eq_getElem?_getD->zH,mem_of_getElem?->zW
open Go.World renaming cell?->zN,frozen?->zY,ownsRow_nil->ym
open And renaming intro->zQ
open Go.RowKit.Below renaming heap_setCell->zR,refl->zU,heap_alloc->zZ
open Option.some renaming injEq->ya
open Go.Obj.cells renaming injEq->yo
open Go.Proofs.Tryz
namespace Go.Proofs.YtmpdpmhpkgbepaaGreatDoor
open Go Go.RowKit Go.ChangeShapes Go.WideShapes
variable {w w':zu}{p t k a hb ob c r y:Nat}{s:Ps}{i g n:Int}{tv:Option Addr}{o d:Bool}{u:zz}{q:Pl}{l:List Pl}{F:Nat->Prop}{e:TypeId}{xs:List zz}
theorem bE.behind{base:Nat}{room:Int}(h:bE w base p room s)(hb:Below w.heap.size w w'):bE w' base p room s:=by obtain⟨v,h⟩:=h;exact⟨v,h.behind hb⟩
theorem bE.lt{base:Nat}{room:Int}(h:bE w base p room s):p<w.heap.size:=by obtain⟨v,h⟩:=h;exact h.lt
structure PQ(w:zu)(base t p:Nat)(s:Ps):Prop where
 tb:w.heap[t]?=zo (zn #[ze (zo ⟨p,0,zp⟩)] 144 (0,0))
 has:bE w base p 32 s
 lo:base<=t
theorem PQ.ne{base:Nat}(h:PQ w base t p s):t≠p:=by rintro rfl;obtain⟨v,B⟩:=h.has;have A:=B.RO;rw[h.tb]at A;simp at A
theorem PQ.lt{base:Nat}(h:PQ w base t p s):t<w.heap.size:=(yx h.tb).1
theorem PQ.cell{base:Nat}(h:PQ w base t p s):w.cell? ⟨t,0,zp⟩=zo (ze (zo ⟨p,0,zp⟩)):=by simp[zN,h.tb]
theorem PQ.behind{base:Nat}(h:PQ w base t p s)(hb:Below w.heap.size w w'):PQ w' base t p s:=
 ⟨by rw[hb.block t h.lt];exact h.tb,h.has.behind hb,h.lo⟩
theorem PQ.step{base:Nat}{A:Ps}(h:PQ w base t p s)(hs:OB base p w w')(B:bE w' base p 32 A):PQ w' base t p A:=
 ⟨hs.same h.tb h.ne (by decide),B,h.lo⟩
theorem PQ.alloc{base:Nat}(h:PQ w base t p s)(o:Obj):PQ (w.alloc o) base t p s:=h.behind (yE w o)
theorem PQ.OS{base:Nat}(h:PQ w base t p s):base<=w.heap.size:=by have:=h.lo;have:=h.lt;omega
theorem qw(w:zu):zw prog 65 #[] w fun e w'=>e=zm (zg #[zd zj 0,zd zj 0])/\w.alloc (zn #[zd zj 0,zd zj 0] 78)=w':=by go_enter func65,ntmps65;go_wp2;refine bodyPost_ret (v:=zg #[zd zj 0,zd zj 0]) (by simp[results,results65,go_sem]) rfl ⟨rfl,rfl⟩
theorem Ba{B:Nat}{a:zu}(h:Below B a.drew w):Below B a w:=⟨h.os,h.tape,h.output,h.size,h.block⟩
theorem xF(w:zu)(a b i j:Nat)(v:zz)(h:a≠b):(w.setCell ⟨a,i,zp⟩ v).cell? ⟨b,j,zp⟩=w.cell? ⟨b,j,zp⟩:=World.cell?_setCell_far w _ _ v h
theorem qT(i g:Int)(b:Nat)(w:zu)(base t p:Nat)(s:Ps)(h:PQ w base t p s)(k:s.Ok 32 b)(hb:b<=1000):
 zw prog 64 #[ze (zo ⟨t,0,zp⟩),zg #[zd zj i,zd zj g]] w fun e w'=>e=zm (zi #[zg (yU (s.SJ i g)),zd zj (s.RS i g)])/\Below w.heap.size w w':=by
 obtain⟨w1,A⟩:=yB (((w.alloc (zn #[zd zj i,zd zj g] 78)).alloc (zn (yU .zero) 130)))
 have J:Below w.heap.size w w1:=by rw[A];exact(((zU _ w).alloc (yA _) _).alloc (by simp) _)
 obtain⟨l,O,C⟩:=Qe (h.behind J) J k;have Q:w1.cell? ⟨w.heap.size,0,zp⟩=zo (zd zj i)/\w1.cell? ⟨w.heap.size,1,zp⟩=zo (zd zj g):=by rw[A];constructor<;>simp[go_sem]
 have j:=l.out.cell;have R:w1.frozen? ⟨w.heap.size+1,0,zp⟩=zt/\w1.frozen? ⟨w.heap.size+1,1,zp⟩=zt/\w1.frozen? ⟨w.heap.size+1,2,zp⟩=zt:=by rw[A];refine⟨?_,?_,?_⟩<;>simp[go_sem]
 have hd:w1.cell? ⟨w.heap.size+1,0,zp⟩=zo (zd zj 0)/\w1.cell? ⟨w.heap.size+1,1,zp⟩=zo (zd zj 0)/\w1.cell? ⟨w.heap.size+1,2,zp⟩=zo (zd zj 0):=by rw[A];refine⟨?_,?_,?_⟩<;>simp[go_sem,SZ.zero]
 have T:=h.lt;have V:w1.heap.size=w.heap.size+2:=by rw[A];simp
 obtain⟨H,M⟩:=Q;have K:=yw A;have U:=yw (fun(D:zu) (E:Below w1.heap.size w1 D)=>(show(D.cell? ⟨t,0,zp⟩=zo (ze (zo ⟨p,0,zp⟩))/\D.cell? ⟨w.heap.size,0,zp⟩=zo (zd zj i)/\D.cell? ⟨w.heap.size,1,zp⟩=zo (zd zj g))/\
  (D.cell? ⟨w.heap.size+1,0,zp⟩=zo (zd zj 0)/\D.cell? ⟨w.heap.size+1,1,zp⟩=zo (zd zj 0)/\D.cell? ⟨w.heap.size+1,2,zp⟩=zo (zd zj 0))/\
  (D.frozen? ⟨w.heap.size+1,0,zp⟩=zt/\D.frozen? ⟨w.heap.size+1,1,zp⟩=zt/\D.frozen? ⟨w.heap.size+1,2,zp⟩=zt)from by
  have r:t<w1.heap.size:=by omega
  have d:w.heap.size<w1.heap.size:=by omega
  have N:w.heap.size+1<w1.heap.size:=by omega
  have c:=(Lb E).1;have f:=(Lb E).2;refine⟨⟨?_,?_,?_⟩,⟨?_,?_,?_⟩,?_,?_,?_⟩
  .rw[c _ _ r];exact j
  .rw[c _ _ d];exact H
  .rw[c _ _ d];exact M
  .rw[c _ _ N];exact hd.1
  .rw[c _ _ N];exact hd.2.1
  .rw[c _ _ N];exact hd.2.2
  .rw[f _ _ N];exact R.1
  .rw[f _ _ N];exact R.2.1
  .rw[f _ _ N];exact R.2.2))
 have X:=yw (MU i g b w1.drew base p 32 s (l.out.has.behind (yI (zU _ w1))) C.out hb);clear h k J V A hd R;generalize s.SJ i g=x at X ⊢;generalize s.RS i g=n at X ⊢;obtain⟨o,P,F,q⟩:=x;go_enter func64,ntmps64;go_upto_region 3 with(fail)
 rw[show((w.alloc (zn #[zd zj i,zd zj g] 78)).alloc (zn #[zd zj 0,zd zj 0,zd zj 0] 130))=w1 from K.out.symm];obtain⟨z,Y⟩:=yB w.heap.size
 obtain⟨y,a⟩:=yB (w.heap.size+1)
 rw[<-a]at U ⊢;rw[<-Y]at U H M T ⊢;have I:¬y=t:=by omega
 have B:¬y=z:=by omega
 have Z:=yw a;have HZ:=yw Y;clear a Y;go_region_held3 (fun w'=>w'.cell? ⟨t,0,zp⟩=zo (ze (zo ⟨p,0,zp⟩))/\w'.cell? ⟨z,0,zp⟩=zo (zd zj i)/\w'.cell? ⟨z,1,zp⟩=zo (zd zj g))
  (first|exact⟨j,H,M⟩|assumption|(refine⟨?_,?_,?_⟩;(rw[xF _ _ _ _ _ _ I,xF _ _ _ _ _ _ I,xF _ _ _ _ _ _ I];exact G.1);(rw[xF _ _ _ _ _ _ B,xF _ _ _ _ _ _ B,xF _ _ _ _ _ _ B];exact G.2.1);(rw[xF _ _ _ _ _ _ B,xF _ _ _ _ _ _ B,xF _ _ _ _ _ _ B];exact G.2.2)))
  (first|(go_at_call 119;refine X.out.mono ?_;rintro e D ⟨rfl,E⟩;obtain⟨G,⟨u,m,L⟩,f0,f1,f2⟩:=U.out D (Ba E)))
 clear G;go_wp2;refine bodyPost_ret (v:=zi #[zg (yU ⟨o,P,F,q⟩),zd zj n]) (by simp[results,results64,go_sem,u,m,L]) rfl ⟨rfl,?_⟩;exact(((yC O.out (Ba E) O.out.size).setCell (by rw[Z.out];simp) _).setCell (by rw[Z.out];simp) _).setCell (by rw[Z.out];simp) _
abbrev yX(i g:Int):Obj:=zn #[zd zj i,zd zj g] 78
abbrev xN(x:SZ):Obj:=zn (yU x) 130
def Gx(w:zu)(k:Nat)(x:SZ):Prop:=w.heap[k]?=zo (zn (yU x) 130 (0,0))
theorem Gx.new(w:zu)(x:SZ):Gx (w.alloc (xN x)) w.heap.size x:=heap_alloc_new w _
theorem Gx.lt{x:SZ}(h:Gx w k x):k<w.heap.size:=(yx h).1
theorem Gx.c3{x:SZ}(h:Gx w k x):w.cell? ⟨k,0,zp⟩=zo (zd zj x.ui)/\w.cell? ⟨k,1,zp⟩=zo (zd zj x.ug)/\w.cell? ⟨k,2,zp⟩=zo (zd zj x.dp):=by unfold Gx at h;refine⟨?_,?_,?_⟩<;>simp[zN,h]
theorem Gx.OH{x:SZ}(h:Gx w k x):∀j,w.frozen? ⟨k,j,zp⟩=zt:=by intro j;unfold Gx at h;simp[zY,h]
theorem Gx.behind{x:SZ}(h:Gx w k x)(hb:Below w.heap.size w w'):Gx w' k x:=by unfold Gx;rw[hb.block k h.lt];exact h
theorem Gx.alloc{x:SZ}(h:Gx w k x)(o:Obj):Gx (w.alloc o) k x:=h.behind (yE w o)
theorem Hx.alloc(h:Hx w k i g)(o:Obj):Hx (w.alloc o) k i g:=h.behind (yE w o)
theorem QV(i g:Int)(b:Nat)(w:zu)(base t p:Nat)(s:Ps)(h:PQ w base t p s)(C:s.Ok 32 b)(hb:b<=1000)(Q:s.RS i g=0)(K:¬(i=0/\g=0)):
 zw prog 30 #[ze (zo ⟨t,0,zp⟩),zg #[zd zj i,zd zj g]] w fun e w'=>e=zm (zi #[zg #[zd zj (s.SJ i g).ui,zd zj (s.SJ i g).ug],zd zj 0])/\Below w.heap.size w w':=by
 have l:=yw (qT i g b ((w.alloc (yX i g)).alloc (yX 0 0)) base t p s ((h.alloc _).alloc _) C hb);rw[Q]at l;clear h C Q;generalize s.SJ i g=x at l ⊢;obtain⟨Y,N,M,X⟩:=x;have HR:=yw K;clear K;go_enter func30,ntmps30;go_wp2_with fail;refine l.out.mono ?_;rintro e U ⟨rfl,H⟩;go_upto_region 4 with(fail)
 have V:Below w.heap.size w (U.alloc (xN ⟨Y,N,M,X⟩)):=(yC (((zU _ w).alloc (yA _) (yX i g)).alloc (by simp) (yX 0 0)) H (by simp;omega)).alloc (by have:=H.size;simp at this;omega) _;have d:Hx (U.alloc (xN ⟨Y,N,M,X⟩)) w.heap.size i g:=(((Hx.new w i g).alloc _).behind H).alloc _;have a:Hx (U.alloc (xN ⟨Y,N,M,X⟩)) (w.heap.size+1) 0 0:=((Hx.AP w (yX i g) 0 0).behind H).alloc _;have Z:=Gx.new U ⟨Y,N,M,X⟩;obtain⟨E,O⟩:=yB (U.alloc (xN ⟨Y,N,M,X⟩))
 obtain⟨z,m⟩:=yB w.heap.size
 obtain⟨y,c⟩:=yB (w.heap.size+1)
 obtain⟨u,n⟩:=yB U.heap.size
 rw[show U.alloc (zn #[zd zj N,zd zj M,zd zj X] 130)=E from O.symm];rw[<-O]at V d a Z;rw[<-c,<-m,<-n];rw[<-m]at d;rw[<-c]at a;rw[<-n]at Z;obtain⟨I,HZ,F,L,j⟩:=Qg V d a Z c;clear H O m c n V d a Z;obtain⟨P,r⟩:=HZ.out.c2;by_cases f:i=0
 .have q:g≠0:=fun e=>HR.out ⟨f,e⟩;have h1:(g == 0)=zt:=beq_eq_false_iff_ne.2 q;subst f;clear q;go_region_held3 (fun w'=>w'.cell? ⟨z,0,zp⟩=zo (zd zj 0)/\w'.cell? ⟨z,1,zp⟩=zo (zd zj g)) (go_keep)
   (first|(go_at_call 65;refine(qw _).mono ?_;rintro e S ⟨rfl,rfl⟩))
  rename_i B;clear B P r;obtain⟨J,D⟩:=yB ((E.alloc (yX 0 0)).drew)
  have A:Below E.heap.size E J:=by rw[D];exact yI (yE _ _)
  rw[show(E.alloc (zn #[zd zj 0,zd zj 0] 78)).drew=J from D.symm];clear D;obtain⟨T,G,R⟩:=Qe (L.out.behind A) (F.out.behind A) (yC I.out A I.out.size);clear A;obtain⟨u0,u1,u2⟩:=T.out.c3;obtain⟨o,k⟩:=G.out.c2;have W:=G.out.OH;go_wp2;refine bodyPost_ret (v:=zi #[zg #[zd zj N,zd zj M],zd zj 0]) (by simp[results,results30,go_sem,o,k]) rfl ⟨rfl,?_⟩;exact(R.out.setCell (by show w.heap.size<=y;rw[j.out];omega) _).setCell (by show w.heap.size<=y;rw[j.out];omega) _
 .have h0:(i == 0)=zt:=beq_eq_false_iff_ne.2 f;clear f;go_region_held3 (fun w'=>w'.cell? ⟨z,0,zp⟩=zo (zd zj i)/\w'.cell? ⟨z,1,zp⟩=zo (zd zj g)) (go_keep)
   (first|(go_at_call 65;refine(qw _).mono ?_;rintro e S ⟨rfl,rfl⟩))
  rename_i B;clear B P r;obtain⟨J,D⟩:=yB ((E.alloc (yX 0 0)).drew)
  have A:Below E.heap.size E J:=by rw[D];exact yI (yE _ _)
  rw[show(E.alloc (zn #[zd zj 0,zd zj 0] 78)).drew=J from D.symm];clear D;obtain⟨T,G,R⟩:=Qe (L.out.behind A) (F.out.behind A) (yC I.out A I.out.size);clear A;obtain⟨u0,u1,u2⟩:=T.out.c3;obtain⟨o,k⟩:=G.out.c2;have W:=G.out.OH;go_wp2;refine bodyPost_ret (v:=zi #[zg #[zd zj N,zd zj M],zd zj 0]) (by simp[results,results30,go_sem,o,k]) rfl ⟨rfl,?_⟩;exact(R.out.setCell (by show w.heap.size<=y;rw[j.out];omega) _).setCell (by show w.heap.size<=y;rw[j.out];omega) _
theorem Sm(b:Nat)(w:zu)(base t p:Nat)(s:Ps)(h:PQ w base t p s)(f:s.Ok 32 b)(hb:b<=1000)(g:s.RS 0 0=0):
 zw prog 30 #[ze (zo ⟨t,0,zp⟩),zg #[zd zj 0,zd zj 0]] w fun e w'=>e=zm (zi #[zg #[zd zj 0,zd zj 0],zd zj 12])/\Below w.heap.size w w':=by
 have c:=yw (qT 0 0 b ((w.alloc (yX 0 0)).alloc (yX 0 0)) base t p s ((h.alloc _).alloc _) f hb);rw[g]at c;clear h f g;generalize s.SJ 0 0=x at c ⊢;obtain⟨U,R,O,J⟩:=x;go_enter func30,ntmps30;go_wp2_with fail;refine c.out.mono ?_;rintro e T ⟨rfl,A⟩;go_upto_region 4 with(fail)
 have I:Below w.heap.size w (T.alloc (xN ⟨U,R,O,J⟩)):=(yC (((zU _ w).alloc (yA _) (yX 0 0)).alloc (by simp) (yX 0 0)) A (by simp;omega)).alloc (by have:=A.size;simp at this;omega) _;have Y:Hx (T.alloc (xN ⟨U,R,O,J⟩)) w.heap.size 0 0:=(((Hx.new w 0 0).alloc _).behind A).alloc _;have V:Hx (T.alloc (xN ⟨U,R,O,J⟩)) (w.heap.size+1) 0 0:=((Hx.AP w (yX 0 0) 0 0).behind A).alloc _;obtain⟨B,D⟩:=yB (T.alloc (xN ⟨U,R,O,J⟩))
 obtain⟨z,d⟩:=yB w.heap.size
 obtain⟨y,X⟩:=yB (w.heap.size+1)
 rw[show T.alloc (zn #[zd zj R,zd zj O,zd zj J] 130)=B from D.symm];rw[<-D]at I Y V;rw[<-X,<-d];rw[<-d]at Y;rw[<-X]at V;obtain⟨M,q,m,j⟩:=Qf I Y V X;clear A D d X I Y V;obtain⟨n,l⟩:=q.out.c2;go_region_held3 (fun w'=>w'.cell? ⟨z,0,zp⟩=zo (zd zj 0)/\w'.cell? ⟨z,1,zp⟩=zo (zd zj 0)) (go_keep)
  (first|(go_at_call 65;refine(qw _).mono ?_;rintro e w4 ⟨rfl,rfl⟩))
 rename_i G;clear G n l;obtain⟨Z,H⟩:=yB ((B.alloc (yX 0 0)).drew)
 have E:Below B.heap.size B Z:=by rw[H];exact yI (yE _ _)
 rw[show(B.alloc (zn #[zd zj 0,zd zj 0] 78)).drew=Z from H.symm];clear H;have N:=yw (m.out.behind E);have a:=yw (yC M.out E M.out.size);clear E;obtain⟨o,k⟩:=N.out.c2;have yf:=N.out.OH;go_wp2;refine bodyPost_ret (v:=zi #[zg #[zd zj 0,zd zj 0],zd zj 12]) (by simp[results,results30,go_sem,o,k]) rfl ⟨rfl,?_⟩;exact(a.out.setCell (by show w.heap.size<=y;rw[j.out];omega) _).setCell (by show w.heap.size<=y;rw[j.out];omega) _
theorem qU(h:s.find i g=zp):s.SJ i g=.zero/\s.RS i g=2:=by unfold Ps.SJ Ps.RS;rw[h];exact⟨rfl,rfl⟩
structure TK(w:zu)(a hb ob:Nat)(tv:Option Addr)(i g:Int)(over:Bool):Prop where
 ta:w.heap[a]?=zo (zn #[ze tv] 55 (0,0))
 hx:Hx w hb i g
 ox:w.heap[ob]?=zo (zn #[zh over] 4 (0,0))
theorem TK.ne{over:Bool}(h:TK w a hb ob tv i g over):a≠hb/\a≠ob/\ob≠hb:=by have h1:=h.ta;have h2:w.heap[hb]?=_:=h.hx;have h3:=h.ox;refine⟨?_,?_,?_⟩<;>(rintro rfl;simp_all)
theorem TK.lt{over:Bool}(h:TK w a hb ob tv i g over):a<w.heap.size/\hb<w.heap.size/\ob<w.heap.size:=
 ⟨(yx h.ta).1,h.hx.lt,(yx h.ox).1⟩
theorem TK.behind{over:Bool}(h:TK w a hb ob tv i g over)(A:Below w.heap.size w w'):TK w' a hb ob tv i g over:=
 ⟨by rw[A.block a h.lt.1];exact h.ta,h.hx.behind A,by rw[A.block ob h.lt.2.2];exact h.ox⟩
theorem TK.cells{over:Bool}(h:TK w a hb ob tv i g over):w.cell? ⟨a,0,zp⟩=zo (ze tv)/\w.cell? ⟨hb,0,zp⟩=zo (zd zj i)/\w.cell? ⟨hb,1,zp⟩=zo (zd zj g)/\w.cell? ⟨ob,0,zp⟩=zo (zh over):=by
 refine⟨?_,h.hx.c2.1,h.hx.c2.2,?_⟩
 .simp[zN,h.ta]
 .simp[zN,h.ox]
theorem TK.OH{over:Bool}(h:TK w a hb ob tv i g over):(∀j,w.frozen? ⟨hb,j,zp⟩=zt)/\(∀j,w.frozen? ⟨ob,j,zp⟩=zt):=by refine⟨h.hx.OH,?_⟩;intro j;simp[zY,h.ox]
theorem TK.fH{over:Bool}(h:TK w a hb ob tv i g over)(A:Bool):TK (w.setCell ⟨ob,0,zp⟩ (zh A)) a hb ob tv i g A:=by
 obtain⟨n1,B,D⟩:=h.ne;refine⟨?_,h.hx.PR (fun e=>D e.symm),?_⟩
 .rw[zR _ _ _ _ (by exact B)];exact h.ta
 .rw[yD h.ox];rfl
theorem TK.OM{over:Bool}(h:TK w a hb ob tv i g over)(A g':Int):TK ((w.setCell ⟨hb,0,zp⟩ (zd zj A)).setCell ⟨hb,1,zp⟩ (zd zj g')) a hb ob tv A g' over:=by
 obtain⟨B,n2,D⟩:=h.ne;refine⟨?_,(h.hx.eT A).fG g',?_⟩
 .rw[zR _ _ _ _ (by exact B),zR _ _ _ _ (by exact B)];exact h.ta
 .rw[zR _ _ _ _ (by exact D),zR _ _ _ _ (by exact D)];exact h.ox
theorem TK.PR{over:Bool}(h:TK w a hb ob tv i g over){o:Nat}(B:c≠a)(A:c≠hb)(D:c≠ob):TK (w.setCell ⟨c,o,zp⟩ u) a hb ob tv i g over:=
 ⟨by rw[zR _ _ _ _ (by exact B.symm)];exact h.ta,h.hx.PR (fun e=>A e.symm),by rw[zR _ _ _ _ (by exact D.symm)];exact h.ox⟩
theorem Gx.PR{o:Nat}{x:SZ}(h:Gx w k x)(A:k≠c):Gx (w.setCell ⟨c,o,zp⟩ u) k x:=by unfold Gx;rw[zR _ _ _ _ (by exact A)];exact h
abbrev itv(a hb ob:Nat):zz:=.func (.func 122) #[] #[ze (zo ⟨a,0,zp⟩),ze (zo ⟨hb,0,zp⟩),ze (zo ⟨ob,0,zp⟩)]
theorem MW(tv:Option Addr)(i g:Int)(w:zu):
 zw prog 70 #[ze tv,zg #[zd zj i,zd zj g]] w fun e w'=>e=zm (itv w.heap.size (w.heap.size+1) (w.heap.size+2))/\TK w' w.heap.size (w.heap.size+1) (w.heap.size+2) tv i g zt/\Below w.heap.size w w':=by
 go_enter func70,ntmps70;go_wp2;go_ret;have e:w.heap.size+1+1=w.heap.size+2:=rfl;refine⟨rfl,⟨?_,?_,?_⟩,((((zU _ w).alloc (yA _) _).alloc (by simp) _).alloc (by simp;omega) _)⟩
 .rw[zZ _ _ _ (by simp;omega),zZ _ _ _ (by simp)];exact heap_alloc_new w _
 .exact(Hx.AP w _ i g).alloc _
 .have:=heap_alloc_new ((w.alloc (zn #[ze tv] 55)).alloc (yX i g)) (zn #[zh zt] 4);simpa using this
theorem EA(i g:Int)(x:SZ)(w:zu)(a hb ob:Nat)(tv:Option Addr)(h:TK w a hb ob tv i g zt)
 (hc:∀W,Below w.heap.size w W->zw prog 64 #[ze tv,zg #[zd zj i,zd zj g]] W fun e w'=>e=zm (zi #[zg (yU x),zd zj 0])/\Below W.heap.size W w'):
 zw prog 122 #[ze (zo ⟨a,0,zp⟩),ze (zo ⟨hb,0,zp⟩),ze (zo ⟨ob,0,zp⟩)] w fun e w'=>e=zm (zi #[zg #[zd zj i,zd zj g],zh zq])/\TK w' a hb ob tv x.ui x.ug (decide (i=0/\g=0))/\OA (fun z=>z=hb∨z=ob) w w':=by
 obtain⟨x0,P,L,x3⟩:=x;obtain⟨r,s⟩:=yB (decide (i=0/\g=0))
 rw[<-s];have HC:=yw (hc (w.alloc (yX 0 0)) (yE w _));clear hc;have F:=yw h;have HR:=yw s;obtain⟨j,k,l,n⟩:=h.cells;obtain⟨m,f,d⟩:=h.lt;clear h s;go_enter func122,ntmps122;go_wp2_with fail;refine HC.out.mono ?_;rintro e c ⟨rfl,q⟩;obtain⟨O,h2,h3⟩:=Qe ((F.out.behind (yE w (yX 0 0))).behind q) (yC (yE w (yX 0 0)) q (by simp)) ((Hx.new w 0 0).behind q);clear q j k l n m f d;obtain⟨j,k,l,n⟩:=O.out.cells;obtain⟨m,f,d⟩:=O.out.lt;go_upto_region 5 with(fail)
 obtain⟨J,Y⟩:=yB (((c.alloc (xN ⟨x0,P,L,x3⟩)).alloc (yX i g)))
 have p:Below c.heap.size c J:=by rw[Y];exact(yE c _).alloc (by simp) _
 have hU:Gx J c.heap.size ⟨x0,P,L,x3⟩:=by rw[Y];exact(Gx.new c _).alloc _
 have hV:Hx J (c.heap.size+1) i g:=by rw[Y];exact Hx.AP c _ i g
 rw[show((c.alloc (zn #[zd zj P,zd zj L,zd zj x3] 130)).alloc (zn #[zd zj i,zd zj g] 78))=J from Y.symm];clear Y;have T:=yw (O.out.behind p);have C:=h3.out.behind p;have K:=yw (yC h2.out p h2.out.size);obtain⟨y,hy⟩:=yB w.heap.size
 obtain⟨u,hu⟩:=yB c.heap.size
 obtain⟨v,hv⟩:=yB (c.heap.size+1)
 rw[<-hu]at hU;rw[<-hv]at hV;rw[<-hy]at C;rw[<-hv,<-hu,<-hy];obtain⟨HU,HV,HY,t⟩:=Qf hU hV C hy;have V:¬u=ob:=by have:=O.out.lt.2.2;omega
 have X:¬v=ob:=by have:=O.out.lt.2.2;omega
 have I:¬y=ob:=by have:=F.out.lt.2.2;omega
 have n4:¬u=hb:=by have:=O.out.lt.2.1;omega
 have n5:¬v=hb:=by have:=O.out.lt.2.1;omega
 have R:¬y=hb:=by have:=F.out.lt.2.1;omega
 have n7:¬ob=hb:=F.out.ne.2.2;have N:=yw (zQ V (zQ X (zQ I (zQ n4 (zQ n5 R)))));clear p hU hV C hy hu hv j k l n m f d V X I n4 n5 R;obtain⟨j,k,l,n⟩:=T.out.cells;obtain⟨m,f,d⟩:=T.out.lt;obtain⟨Q,S⟩:=T.out.OH;by_cases hi:i=0
 .subst hi;by_cases hg:g=0
  .subst hg;have s:r=zq:=by rw[HR.out];simp
   subst s;go_region_held3 (fun w'=>w'.cell? ⟨hb,0,zp⟩=zo (zd zj 0)/\w'.cell? ⟨hb,1,zp⟩=zo (zd zj 0)) (go_keep)
    (first|(go_at_call 65;refine(qw _).mono ?_;rintro e H ⟨rfl,rfl⟩))
   rename_i E;clear E j k l n m f d Q S;obtain⟨H,B⟩:=yB (((J.setCell ⟨ob,0,zp⟩ (zh zq)).alloc (yX 0 0)).drew)
   rw[show((J.setCell ⟨ob,0,zp⟩ (zh zq)).alloc (zn #[zd zj 0,zd zj 0] 78)).drew=H from B.symm];obtain⟨V,X,I,n4,n5,R⟩:=N.out;have A:Below (J.setCell ⟨ob,0,zp⟩ (zh zq)).heap.size (J.setCell ⟨ob,0,zp⟩ (zh zq)) H:=by rw[B];exact yI (yE _ _)
   obtain⟨D,U,Z,G⟩:=Qf ((T.out.fH zq).behind A) ((HU.out.PR (o:=0) (u:=zh zq) (by exact V)).behind A) ((HV.out.PR (o:=0) (u:=zh zq) (by exact X)).behind A) ((HY.out.PR (o:=0) (u:=zh zq) (by exact I)).behind A);have b:Hid (OA (fun z=>z=hb∨z=ob) w H):=yw (by rw[B];exact(((OA.NZ K.out).setCell (.inl (.inr rfl)) _).alloc _).drew);clear A B V X I;obtain⟨j,k,l,n⟩:=D.out.cells;obtain⟨m,f,d⟩:=D.out.lt;obtain⟨Q,S⟩:=D.out.OH;obtain⟨u0,u1,u2⟩:=U.out.c3;obtain⟨v0,v1⟩:=Z.out.c2;obtain⟨y0,y1⟩:=G.out.c2;have fy:=G.out.OH;go_wp2
   refine bodyPost_ret (v:=zi #[zg #[zd zj 0,zd zj 0],zh zq]) (by simp[results,results122,go_sem,y0,y1]) rfl ⟨rfl,?_,?_⟩
   .have:=G.out.lt;have M:y≠a:=by have:=F.out.lt.1;have:=t.out;omega
    obtain⟨_,_,I,_,_,R⟩:=N.out;exact((D.out.OM P L).PR M R I).PR M R I
   .exact(((b.out.setCell (.inl (.inl rfl)) _).setCell (.inl (.inl rfl)) _).setCell (.inr (by rw[t.out];exact yA _)) _).setCell (.inr (by rw[t.out];exact yA _)) _
  .have s:r=zt:=by rw[HR.out];simp[hg]
   subst s;have h5:(g == 0)=zt:=beq_eq_false_iff_ne.2 hg;clear hg;go_region_held3 (fun w'=>w'.cell? ⟨hb,0,zp⟩=zo (zd zj 0)/\w'.cell? ⟨hb,1,zp⟩=zo (zd zj g)) (go_keep)
    (first|(go_at_call 65;refine(qw _).mono ?_;rintro e H ⟨rfl,rfl⟩))
   rename_i E;clear E j k l n m f d Q S;obtain⟨H,B⟩:=yB (((J.setCell ⟨ob,0,zp⟩ (zh zt)).alloc (yX 0 0)).drew)
   rw[show((J.setCell ⟨ob,0,zp⟩ (zh zt)).alloc (zn #[zd zj 0,zd zj 0] 78)).drew=H from B.symm];obtain⟨V,X,I,n4,n5,R⟩:=N.out;have A:Below (J.setCell ⟨ob,0,zp⟩ (zh zt)).heap.size (J.setCell ⟨ob,0,zp⟩ (zh zt)) H:=by rw[B];exact yI (yE _ _)
   obtain⟨D,U,Z,G⟩:=Qf ((T.out.fH zt).behind A) ((HU.out.PR (o:=0) (u:=zh zt) (by exact V)).behind A) ((HV.out.PR (o:=0) (u:=zh zt) (by exact X)).behind A) ((HY.out.PR (o:=0) (u:=zh zt) (by exact I)).behind A);have b:Hid (OA (fun z=>z=hb∨z=ob) w H):=yw (by rw[B];exact(((OA.NZ K.out).setCell (.inl (.inr rfl)) _).alloc _).drew);clear A B V X I;obtain⟨j,k,l,n⟩:=D.out.cells;obtain⟨m,f,d⟩:=D.out.lt;obtain⟨Q,S⟩:=D.out.OH;obtain⟨u0,u1,u2⟩:=U.out.c3;obtain⟨v0,v1⟩:=Z.out.c2;obtain⟨y0,y1⟩:=G.out.c2;have fy:=G.out.OH;go_wp2
   refine bodyPost_ret (v:=zi #[zg #[zd zj 0,zd zj g],zh zq]) (by simp[results,results122,go_sem,y0,y1]) rfl ⟨rfl,?_,?_⟩
   .have:=G.out.lt;have M:y≠a:=by have:=F.out.lt.1;have:=t.out;omega
    obtain⟨_,_,I,_,_,R⟩:=N.out;exact((D.out.OM P L).PR M R I).PR M R I
   .exact(((b.out.setCell (.inl (.inl rfl)) _).setCell (.inl (.inl rfl)) _).setCell (.inr (by rw[t.out];exact yA _)) _).setCell (.inr (by rw[t.out];exact yA _)) _
 .have s:r=zt:=by rw[HR.out];simp[hi]
  subst s;have h4:(i == 0)=zt:=beq_eq_false_iff_ne.2 hi;clear hi;go_region_held3 (fun w'=>w'.cell? ⟨hb,0,zp⟩=zo (zd zj i)/\w'.cell? ⟨hb,1,zp⟩=zo (zd zj g)) (go_keep)
   (first|(go_at_call 65;refine(qw _).mono ?_;rintro e H ⟨rfl,rfl⟩))
  rename_i E;clear E j k l n m f d Q S;obtain⟨H,B⟩:=yB (((J.setCell ⟨ob,0,zp⟩ (zh zt)).alloc (yX 0 0)).drew)
  rw[show((J.setCell ⟨ob,0,zp⟩ (zh zt)).alloc (zn #[zd zj 0,zd zj 0] 78)).drew=H from B.symm];obtain⟨V,X,I,n4,n5,R⟩:=N.out;have A:Below (J.setCell ⟨ob,0,zp⟩ (zh zt)).heap.size (J.setCell ⟨ob,0,zp⟩ (zh zt)) H:=by rw[B];exact yI (yE _ _)
  obtain⟨D,U,Z,G⟩:=Qf ((T.out.fH zt).behind A) ((HU.out.PR (o:=0) (u:=zh zt) (by exact V)).behind A) ((HV.out.PR (o:=0) (u:=zh zt) (by exact X)).behind A) ((HY.out.PR (o:=0) (u:=zh zt) (by exact I)).behind A);have b:Hid (OA (fun z=>z=hb∨z=ob) w H):=yw (by rw[B];exact(((OA.NZ K.out).setCell (.inl (.inr rfl)) _).alloc _).drew);clear A B V X I;obtain⟨j,k,l,n⟩:=D.out.cells;obtain⟨m,f,d⟩:=D.out.lt;obtain⟨Q,S⟩:=D.out.OH;obtain⟨u0,u1,u2⟩:=U.out.c3;obtain⟨v0,v1⟩:=Z.out.c2;obtain⟨y0,y1⟩:=G.out.c2;have fy:=G.out.OH;go_wp2
  refine bodyPost_ret (v:=zi #[zg #[zd zj i,zd zj g],zh zq]) (by simp[results,results122,go_sem,y0,y1]) rfl ⟨rfl,?_,?_⟩
  .have:=G.out.lt;have M:y≠a:=by have:=F.out.lt.1;have:=t.out;omega
   obtain⟨_,_,I,_,_,R⟩:=N.out;exact((D.out.OM P L).PR M R I).PR M R I
  .exact(((b.out.setCell (.inl (.inl rfl)) _).setCell (.inl (.inl rfl)) _).setCell (.inr (by rw[t.out];exact yA _)) _).setCell (.inr (by rw[t.out];exact yA _)) _
theorem UD(i g n:Int)(x:SZ)(w:zu)(a hb ob:Nat)(tv:Option Addr)(h:TK w a hb ob tv i g zq)
 (T:∀W,Below w.heap.size w W->zw prog 64 #[ze tv,zg #[zd zj i,zd zj g]] W fun e w'=>e=zm (zi #[zg (yU x),zd zj n])/\Below W.heap.size W w'):
 zw prog 122 #[ze (zo ⟨a,0,zp⟩),ze (zo ⟨hb,0,zp⟩),ze (zo ⟨ob,0,zp⟩)] w fun e w'=>e=zm (zi #[zg #[zd zj 0,zd zj 0],zh zt])/\Below w.heap.size w w':=by
 obtain⟨x0,x1,x2,x3⟩:=x;have Z:=yw (T (w.alloc (yX 0 0)) (yE w _));clear T;have Y:=yw h;obtain⟨O,I,J,R⟩:=h.cells;obtain⟨N,M,V⟩:=h.lt;clear h;go_enter func122,ntmps122;go_wp2_with fail;refine Z.out.mono ?_;rintro e w2 ⟨rfl,A⟩;have D:=yw ((Y.out.behind (yE w (yX 0 0))).behind A);have E:=yw (yC (yE w (yX 0 0)) A (by simp));have B:=(Hx.new w 0 0).behind A;clear A O I J R N M V;obtain⟨y,G⟩:=yB w.heap.size
 rw[<-G]at B ⊢;have U:=yw G;clear G;have H:=yw B;clear B;obtain⟨O,I,J,R⟩:=D.out.cells;obtain⟨N,M,V⟩:=D.out.lt;obtain⟨c,X⟩:=H.out.c2;have fy:=H.out.OH;have b:=H.out.lt;go_wp2;refine bodyPost_ret (v:=zi #[zg #[zd zj 0,zd zj 0],zh zt]) (by simp[results,results122,go_sem,c,X,b]) rfl ⟨rfl,?_⟩;exact((E.out.setCell (by show w.heap.size<=y;rw[U.out];exact yA _) _).setCell (by show w.heap.size<=y;rw[U.out];exact yA _) _).alloc (by have:=E.out.size;simpa using this) _
theorem EB(i g:Int)(x:SZ)(w:zu)(a hb ob:Nat)(tv:Option Addr)(h:TK w a hb ob tv i g zt)
 (T:∀W,Below w.heap.size w W->zw prog 64 #[ze tv,zg #[zd zj i,zd zj g]] W fun e w'=>e=zm (zi #[zg (yU x),zd zj 2])/\Below W.heap.size W w'):
 zw prog 122 #[ze (zo ⟨a,0,zp⟩),ze (zo ⟨hb,0,zp⟩),ze (zo ⟨ob,0,zp⟩)] w fun e w'=>e=zm (zi #[zg #[zd zj 0,zd zj 0],zh zt])/\Below w.heap.size w w':=by
 obtain⟨x0,x1,x2,x3⟩:=x;have Z:=yw (T (w.alloc (yX 0 0)) (yE w _));clear T;have Y:=yw h;obtain⟨O,I,J,R⟩:=h.cells;obtain⟨N,M,V⟩:=h.lt;clear h;go_enter func122,ntmps122;go_wp2_with fail;refine Z.out.mono ?_;rintro e w2 ⟨rfl,A⟩;have D:=yw ((Y.out.behind (yE w (yX 0 0))).behind A);have E:=yw (yC (yE w (yX 0 0)) A (by simp));have B:=(Hx.new w 0 0).behind A;clear A O I J R N M V;obtain⟨y,G⟩:=yB w.heap.size
 rw[<-G]at B ⊢;have U:=yw G;clear G;have H:=yw B;clear B;obtain⟨O,I,J,R⟩:=D.out.cells;obtain⟨N,M,V⟩:=D.out.lt;obtain⟨c,X⟩:=H.out.c2;have fy:=H.out.OH;have b:=H.out.lt;go_wp2;refine bodyPost_ret (v:=zi #[zg #[zd zj 0,zd zj 0],zh zt]) (by simp[results,results122,go_sem,c,X,b]) rfl ⟨rfl,?_⟩;exact((E.out.setCell (by show w.heap.size<=y;rw[U.out];exact yA _) _).setCell (by show w.heap.size<=y;rw[U.out];exact yA _) _).alloc (by have:=E.out.size;simpa using this) _
def bY(w:zu)(r:Nat)(B A n dV:Int)(d o:Bool):Prop:=w.heap[r]?=zo (zn #[zd zk B,zd zj A,zd zj n,zd zj dV,zh d,zh o] 323 (0,0))
theorem bY.c6{B A dV:Int}(h:bY w r B A n dV d o):w.cell? ⟨r,0,zp⟩=zo (zd zk B)/\w.cell? ⟨r,1,zp⟩=zo (zd zj A)/\w.cell? ⟨r,2,zp⟩=zo (zd zj n)/\w.cell? ⟨r,3,zp⟩=zo (zd zj dV)/\w.cell? ⟨r,4,zp⟩=zo (zh d)/\w.cell? ⟨r,5,zp⟩=zo (zh o):=by unfold bY at h;refine⟨?_,?_,?_,?_,?_,?_⟩<;>simp[zN,h]
theorem bY.OH{B A dV:Int}(h:bY w r B A n dV d o):∀j,w.frozen? ⟨r,j,zp⟩=zt:=by intro j;unfold bY at h;simp[zY,h]
theorem bY.lt{B A dV:Int}(h:bY w r B A n dV d o):r<w.heap.size:=(yx h).1
theorem BH(w:zu)(r:Nat)(h:bY w r 0 0 0 0 zt zt):
 zw prog 244 #[ze (zo ⟨r,0,zp⟩),zd .i32 48] w fun z w'=>z=zm (zh zq)/\bY w' r 0 0 0 1 zt zt/\OA (fun k=>k=r) w w':=by
 obtain⟨c0,c1,c2,c3,c4,c5⟩:=h.c6;have hf:=h.OH;have A:=yw h;clear h;go_enter func244,ntmps244;go_wp2;go_ret;exact⟨rfl,yD (i:=3) (u:=zd zj 1) (yD (i:=2) (u:=zd zj 0) A.out),((OA.refl (fun k=>k=r) w).setCell (p:=⟨r,_,zp⟩) (.inl rfl) _).setCell (p:=⟨r,_,zp⟩) (.inl rfl) _⟩
theorem BI(w:zu)(r:Nat)(h:bY w r 0 0 0 1 zt zt):
 zw prog 245 #[ze (zo ⟨r,0,zp⟩)] w fun z w'=>z=zm (zh zq)/\bY w' r 0 0 0 0 zt zt/\OA (fun k=>k=r) w w':=by
 obtain⟨c0,c1,c2,c3,c4,c5⟩:=h.c6;have hf:=h.OH;have A:=yw h;clear h;go_enter func245,ntmps245;go_wp2;go_ret;exact⟨rfl,yD (i:=3) (u:=zd zj 0) (yD (i:=5) (u:=zh zt) A.out),((OA.refl (fun k=>k=r) w).setCell (p:=⟨r,_,zp⟩) (.inl rfl) _).setCell (p:=⟨r,_,zp⟩) (.inl rfl) _⟩
theorem LK(w:zu)(r:Nat)(h:bY w r 0 0 0 0 zt zt):
 zw prog 218 #[ze (zo ⟨r,0,zp⟩),zd .i32 48] w fun z w'=>z=zm (zh zq)/\bY w' r 0 0 0 1 zt zt/\OA (fun k=>k=r) w w':=by
 have E:=yw (BH w r h);clear h;go_enter func218,ntmps218;go_wp2_with fail;refine E.out.mono ?_;rintro z w1 ⟨rfl,D,B⟩;have A:=yw (zQ D B);clear D B;go_wp2;go_ret;exact⟨rfl,A.out.1,A.out.2⟩
theorem LL(w:zu)(r:Nat)(h:bY w r 0 0 0 1 zt zt):
 zw prog 219 #[ze (zo ⟨r,0,zp⟩)] w fun z w'=>z=zm (zh zq)/\bY w' r 1 0 0 0 zt zt/\OA (fun k=>k=r) w w':=by
 have d:=yw (BI w r h);clear h;go_enter func219,ntmps219;go_wp2_with fail;refine d.out.mono ?_;rintro z w1 ⟨rfl,O,a⟩;obtain⟨U,H,I,M,T,N⟩:=O.c6;have J:=O.OH;have Z:=yw (zQ O a);clear O a;go_upto_region 5 with(fail)
 obtain⟨R,G⟩:=yB (w1.setCell ⟨r,1,zp⟩ (zd zj 0))
 have E:bY R r 0 0 0 0 zt zt:=by rw[G];exact yD Z.out.1
 have Y:Hid (OA (fun k=>k=r) w R):=yw (by rw[G];exact Z.out.2.setCell (p:=⟨r,1,zp⟩) (.inl rfl) _);have X:=yw E;rw[<-G];clear G U H I M T N J Z;obtain⟨U,H,I,M,T,N⟩:=E.c6;have J:=E.OH;clear E;go_quiet (fail);go_wp2_with fail;go_loopw [3] (fun i wr=>(i=zd zj 0/\bY wr r 0 0 0 0 zt zt/\OA (fun k=>k=r) w wr)∨(i=zd zj 1/\bY wr r 1 0 0 0 zt zt/\OA (fun k=>k=r) w wr)) (fun i _=>1-(intOf i).toNat)
 case atStart=>exact .inl ⟨rfl,X.out,Y.out.drewN _⟩
 case round=>
  rcases hrel with⟨rfl,A,D⟩|⟨rfl,A,D⟩
  .obtain⟨g,f,b,c,l,j⟩:=A.c6;have V:=A.OH;have B:=yw (zQ A D);clear A D U H I M T N J;go_wp2;go_roundw
   case rel=>exact .inr ⟨rfl,yD (i:=0) (u:=zd zk 1) B.out.1,B.out.2.setCell (p:=⟨r,0,zp⟩) (.inl rfl) _⟩
   case measure=>simp[intOf]
  .obtain⟨g,f,b,c,l,j⟩:=A.c6;have V:=A.OH;have B:=yw (zQ A D);clear A D U H I M T N J;go_wp2;go_ret;exact⟨rfl,yD (i:=2) (u:=zd zj 0) (yD (i:=4) (u:=zh zt) B.out.1),(B.out.2.setCell (p:=⟨r,4,zp⟩) (.inl rfl) _).setCell (p:=⟨r,2,zp⟩) (.inl rfl) _⟩
theorem Aq(w:zu):zw prog 175 #[.string ⟨#[48]⟩] w fun z w'=>z=zm (zi #[zd zk 1,zd zj 0])/\Below w.heap.size w w':=by
 obtain⟨w1,E⟩:=yB (w.alloc (zn #[zd zk 0,zd zj 0,zd zj 0,zd zj 0,zh zt,zh zt] 323))
 have b:Below w.heap.size w w1:=by rw[E];exact yE w _
 have Y:bY w1 w.heap.size 0 0 0 0 zt zt:=by rw[E];exact heap_alloc_new w _
 have R:=yw (zQ Y b);clear Y b;obtain⟨K,m⟩:=yB w1.heap.size
 have c:w.heap.size+1=K:=by rw[m,E];simp
 have h:=yw (zQ m c);clear m c;go_enter func175,ntmps175;go_wp2_with fail;rw[h.out.2,show w.alloc (zn #[zd zk 0,zd zj 0,zd zj 0,zd zj 0,zh zt,zh zt] 323)=w1 from E.symm];clear E;obtain⟨r,n⟩:=yB w.heap.size
 have f:=yw n;rw[<-n];clear n;go_loopw [6] (fun _ wr=>∃(q:Nat) (g:Int),((q=0/\g=0)∨(q=1/\g=1))/\wr.heap[K]?=zo (.stringIter ⟨#[48]⟩ q)/\bY wr r 0 0 0 g zt zt/\Below w.heap.size w wr) (fun _ wr=>1-wr.iterPos K)
 case atStart=>
  refine⟨0,0,.inl ⟨rfl,rfl⟩,by rw[h.out.1];exact World.iter_heap _ _ _,?_,?_⟩
  .have N:=R.out.1;rw[f.out];have:(w1.iter ⟨#[48]⟩ 0).heap[w.heap.size]?=w1.heap[w.heap.size]?:=(yE w1 _).block _ (yx N).1;exact this.trans N
  .exact yC R.out.2 (yE w1 _) R.out.2.size
 case round=>
  obtain⟨q,g,j,hk,N,hb⟩:=hrel;have X:r≠K:=by have:=f.out;have:=h.out.2;omega
  rcases j with⟨rfl,rfl⟩|⟨rfl,rfl⟩
  .have J:∀M,(Instr.next (ze (zo ⟨K,0,zp⟩)) zq M).run prog wr=.ok (zi #[zh zq,zd zj 0,zd .i32 48]) (wr.iterAt K ⟨#[48]⟩ 1):=fun M=>Lib.run_next_ascii_at wr K ⟨#[48]⟩ 0 M hk (by decide) (by decide);have I:bY (wr.iterAt K ⟨#[48]⟩ 1) r 0 0 0 0 zt zt:=(Lib.iterAt_other wr K r ⟨#[48]⟩ 1 X).trans N;have Z:Below w.heap.size w (wr.iterAt K ⟨#[48]⟩ 1):=Lib.below_iterAt hb (by have:=h.out.2;omega) _ _;have T:=Lib.iterAt_heap wr K ⟨#[48]⟩ 0 1 hk;have V:wr.iterPos K=0:=iterPos_of hk;have a:=yw (zQ I (zQ Z (zQ T V)));have s:=yw (LK _ r I);clear I Z T V N hb hk;go_wp2_with fail
   refine s.out.mono ?_;rintro z U ⟨rfl,D,A⟩;have O:U.heap[K]?=zo (.stringIter ⟨#[48]⟩ 1):=(A.block K (yx a.out.2.2.1).1 (fun e=>X e.symm)).trans a.out.2.2.1;have G:Below w.heap.size w U:=yC a.out.2.1 (A.below (B:=w.heap.size) a.out.2.1.size (fun k hk=>by rw[hk];exact Nat.le_of_eq f.out.symm)) (yA _);have H:U.iterPos K=1:=iterPos_of O;have d:=yw (zQ O (zQ D (zQ G H)));clear O D G H A J;go_wp2_with fail;go_roundw
   case rel=>exact⟨1,1,.inr ⟨rfl,rfl⟩,d.out.1,d.out.2.1,d.out.2.2.1⟩
   case measure=>rw[d.out.2.2.2,a.out.2.2.2];omega
  .have J:∀M,(Instr.next (ze (zo ⟨K,0,zp⟩)) zq M).run prog wr=_:=fun M=>Lib.run_next_end_at wr K ⟨#[48]⟩ 1 M hk (by decide);have p:=yw (LL _ r N);have o:=yw hb;clear N hb hk;go_wp2_with fail;refine p.out.mono ?_;rintro z U ⟨rfl,D,A⟩;have G:Below w.heap.size w U:=yC o.out (A.below (B:=w.heap.size) o.out.size (fun k hk=>by rw[hk];exact Nat.le_of_eq f.out.symm)) (yA _);obtain⟨c0,c1,c2,c3,c4,c5⟩:=D.c6;have l:=yw G;clear D A G J;go_wp2;go_ret2;exact⟨rfl,l.out⟩
def UE(s:Ps)(i g A B:Int):Bool:=match s.find A B with
 | none=>zt
 | some j=>match s.find i g with
  | none=>zt
  | some k=>RI s.l k j
theorem qc(h:s.find i g=zo k):∃q,i=(k:Int)/\s.l[k]?=zo q/\q.used=zq/\q.gen=g/\s.SJ i g=q.x/\s.RS i g=0:=by
 obtain⟨q,⟨D,A,G,B⟩,E⟩:=ud h;refine⟨q,D,A,G,B,?_,?_⟩
 .unfold Ps.SJ;rw[h];simp only[E]
 .unfold Ps.RS;rw[h]
theorem uS(A:s.l[k]?=zo q)(E:q.used=zq):s.find k q.gen=zo k/\s.SJ k q.gen=q.x/\s.RS k q.gen=0:=by
 have e:s.find k q.gen=zo k:=by unfold Ps.find;simp[A,E]
 obtain⟨q',_,B,_,_,G,D⟩:=qc e;rw[A]at B;cases B;exact⟨e,G,D⟩
theorem xJ(k:Nat)(q:Pl)(b:Nat)(w:zu)(base t p:Nat)(s:Ps)(h:PQ w base t p s)(D:s.Ok 32 b)(hb:b<=1000)(B:s.l[k]?=zo q)(A:q.used=zq):
 zw prog 64 #[ze (zo ⟨t,0,zp⟩),zg #[zd zj k,zd zj q.gen]] w fun e w'=>e=zm (zi #[zg (yU q.x),zd zj 0])/\Below w.heap.size w w':=by
 have:=qT k q.gen b w base t p s h D hb;rwa[(uS B A).2.1,(uS B A).2.2]at this
theorem Tr.eI(h:Tr l)(A:l[c]?=zo q)(E:q.used=zq)(G:c≠0):∃(d:Nat) (p:Pl),l[d]?=zo p/\p.used=zq/\q.x.ui=d/\q.x.ug=p.gen/\TA l c=d/\dep l c=dep l d+1:=by
 obtain⟨d,p,H,D,B,_⟩:=h.fW c q A E G;have e:TA l c=d:=by unfold TA;rw[xD A,B];simp
 have:=(h.up ⟨q,A,E⟩ G).2;rw[e]at this;exact⟨d,p,H,D,by rw[B],by rw[B],e,this⟩
theorem Tr.isRoot(h:Tr l){d:Nat}{p:Pl}(B:l[d]?=zo p):decide ((d:Int)=0/\p.gen=0)=decide (d=0):=by
 by_cases hd:d=0
 .subst hd;obtain⟨q,A,_,D,_⟩:=h.root;rw[B]at A;cases A;simp[D]
 .simp[hd]
theorem Wp(c:Nat)(q:Pl)(over:Bool)(b:Nat)(w:zu)(base t p a hb ob:Nat)(s:Ps)(G:PQ w base t p s)(I:s.Ok 32 b)(A:b<=1000)(B:Tr s.l)(D:s.l[c]?=zo q)(E:q.used=zq)
 (h:TK w a hb ob (zo ⟨t,0,zp⟩) c q.gen zt):
 zw prog 122 #[ze (zo ⟨a,0,zp⟩),ze (zo ⟨hb,0,zp⟩),ze (zo ⟨ob,0,zp⟩)] w fun e w'=>e=zm (zi #[zg #[zd zj c,zd zj q.gen],zh zq])/\TK w' a hb ob (zo ⟨t,0,zp⟩) q.x.ui q.x.ug (decide (c=0))/\OA (fun z=>z=hb∨z=ob) w w':=by
 have:=EA c q.gen q.x w a hb ob (zo ⟨t,0,zp⟩) h (fun W H=>xJ c q b W base t p s (G.behind H) I A D E);rwa[B.isRoot D]at this
theorem EC(i g:Int)(b:Nat)(w:zu)(base t p a hb ob:Nat)(s:Ps)(B:PQ w base t p s)(E:s.Ok 32 b)(A:b<=1000)(h:TK w a hb ob (zo ⟨t,0,zp⟩) i g zq):
 zw prog 122 #[ze (zo ⟨a,0,zp⟩),ze (zo ⟨hb,0,zp⟩),ze (zo ⟨ob,0,zp⟩)] w fun e w'=>e=zm (zi #[zg #[zd zj 0,zd zj 0],zh zt])/\Below w.heap.size w w':=
 UD i g _ _ w a hb ob (zo ⟨t,0,zp⟩) h (fun W D=>qT i g b W base t p s (B.behind D) E A)
theorem Hx.RB(h:Hx w k i g)(A:OA F w w')(hk:¬F k):Hx w' k i g:=by unfold Hx;rw[A.block k h.lt hk];exact h
theorem Oi(tv:Option Addr)(i g:Int)(w:zu):
 zw prog 70 #[ze tv,zg #[zd zj i,zd zj g]] w fun e w'=>∃a hb ob,e=zm (itv a hb ob)/\(w.heap.size<=a/\w.heap.size<=hb/\w.heap.size<=ob)/\TK w' a hb ob tv i g zt/\Below w.heap.size w w':=
 (MW tv i g w).mono fun e w' ⟨B,A,D⟩=>⟨_,_,_,B,⟨by omega,by omega,by omega⟩,A,D⟩
theorem Tr.fI(h:Tr l)(A:l[k]?=zo q)(B:q.used=zq):dep l k<=8:=(h.bZ ⟨q,A,B⟩).1
structure Wk(w1 wr:zu)(t a hb ob xb:Nat)(l:List Pl)(c:Nat)(q:Pl):Prop where
 at_:l[c]?=zo q
 cB:q.used=zq
 x:Hx wr xb c q.gen
 it:TK wr a hb ob (zo ⟨t,0,zp⟩) q.x.ui q.x.ug (decide (c=0))
 new:w1.heap.size<=a/\w1.heap.size<=hb/\w1.heap.size<=ob/\w1.heap.size<=xb
 ne:xb≠hb/\xb≠ob
theorem Lp(k j:Nat)(N C:Pl)(b:Nat)(w:zu)(base t p:Nat)(s:Ps)(h:PQ w base t p s)(ho:s.Ok 32 b)(hb:b<=1000)(h9:Tr s.l)
 (hk:s.l[k]?=zo N) (hf:N.used=zq) (hj:s.l[j]?=zo C) (h6:C.used=zq):
 zw prog 38 #[ze (zo ⟨t,0,zp⟩),zg #[zd zj k,zd zj N.gen],zg #[zd zj j,zd zj C.gen]] w fun e w'=>e=zm (zh (RI s.l k j))/\Below w.heap.size w w':=by
 obtain⟨HC,HT,HO,M,HK,HJ⟩:=Qh (xJ j C b ((w.alloc (yX k N.gen)).alloc (yX j C.gen)) base t p s ((h.alloc _).alloc _) ho hb hj h6) h ho h9 (zQ hk hf) (zQ hj h6);obtain⟨E,T⟩:=yB (RI s.l k j)
 rw[<-T];have H4:=yw T;clear h ho h9 hk hf hj h6 T;go_enter func38,ntmps38;go_wp2_with fail;refine HC.out.mono ?_;rintro e D ⟨rfl,f⟩;have J:Hid (Below w.heap.size w D):=yw (yC ((yE w _).alloc (by simp) _) f (by simp;omega));have W:Hid (Hx D w.heap.size k N.gen):=yw (((Hx.new w _ _).alloc _).behind f);have L:Hid (Hx D (w.heap.size+1) j C.gen):=yw ((Hx.AP w _ _ _).behind f);obtain⟨kb,F⟩:=yB w.heap.size
 obtain⟨jb,S⟩:=yB (w.heap.size+1)
 rw[<-S,<-F];rw[<-S]at L;rw[<-F]at W;clear f F S;obtain⟨j0,u⟩:=L.out.c2;obtain⟨k0,k1⟩:=W.out.c2;have kl:=W.out.lt;go_wp2_with fail;refine(Oi _ _ _ _).mono ?_;rintro e w3 ⟨a,r,ob,rfl,hn,H2,ha⟩;have O:Below D.heap.size D w3:=yC (yE D _) ha (by simp);have HN:Hid (D.heap.size<=a/\D.heap.size<=r/\D.heap.size<=ob):=yw (by simp at hn;omega);obtain⟨ht,Hg,hm⟩:=Qe H2 ((HT.out.behind J.out).behind O) O;clear ha O hn H2 j0 u k0 k1 kl;go_wp2_with fail;refine(Wp k N zt b _ base t p a r ob s Hg.out HO.out hb M.out HK.out.1 HK.out.2 ht.out).mono ?_;rintro e Z ⟨rfl,X,H1⟩
 have y:=yw (X.behind (yE Z (yX k N.gen)));have m:Below D.heap.size D Z:=yC hm.out (H1.below (B:=D.heap.size) hm.out.size (by have:=HN.out;rintro z (rfl|rfl)<;>omega)) (yA _);have hx:=yw (m.alloc m.size (yX k N.gen));have h4:=yw (Hx.new Z k N.gen);have V:Hid (D.heap.size<=Z.heap.size/\Z.heap.size≠r/\Z.heap.size≠ob):=yw ⟨m.size,by have:=X.lt.2.1;omega,by have:=X.lt.2.2;omega⟩;obtain⟨w5,Y⟩:=yB (Z.alloc (yX k N.gen))
 obtain⟨xb,g⟩:=yB Z.heap.size
 rw[<-Y,<-g]at h4;rw[<-Y]at y hx;rw[<-g]at V;go_wp2_with fail;rw[show Z.alloc (zn #[zd zj k,zd zj N.gen] 78)=w5 from Y.symm,<-g];have h7:Hid (∃c q,(9:Nat)=9/\dep s.l c+1<=9/\Wk D w5 t a r ob xb s.l c q/\RI s.l c j=E):=yw ⟨k,N,rfl,by have:=M.out.fI HK.out.1 HK.out.2;omega,⟨HK.out.1,HK.out.2,h4.out,y.out,⟨HN.out.1,HN.out.2.1,HN.out.2.2,V.out.1⟩,V.out.2⟩,H4.out.symm⟩;clear X H1 m Y g y h4 V ht HC
 go_loopg [10,11] 9 (fun n vx vi wr=>∃(xb:Nat) (is:Bool),vx=ze (zo ⟨xb,0,zp⟩)/\vi=zh is/\Below D.heap.size D wr/\((is=zq/\∃c q,dep s.l c+1<=n/\Wk D wr t a r ob xb s.l c q/\RI s.l c j=E)∨(is=zt/\E=zt)))
 case atStart=>
  obtain⟨c,q,_,h1,h2,h3⟩:=h7.out;exact⟨xb,zq,rfl,rfl,hx.out,.inl ⟨rfl,c,q,h1,h2,h3⟩⟩
 case round=>
  obtain⟨xr,is,rfl,rfl,hg,H7⟩:=hrel;have A:=yw hg;clear hg;rcases H7 with⟨rfl,c,q,hn,hw,hu⟩|⟨rfl,hr⟩
  .obtain⟨H,HU,H0⟩:=Qe hw hu hn;clear hw hu hn;have hz:=yw ((HT.out.behind J.out).behind A.out);have P:=yw (L.out.behind A.out);obtain⟨x0,x1⟩:=H.out.x.c2;obtain⟨j0,u⟩:=P.out.c2;by_cases v:c=j
   .subst v;have hq:q=C:=by have h1:=H.out.at_;rw[HJ.out.1]at h1;cases h1;rfl
    subst hq;have hr:E=zq:=by rw[<-HU.out];exact decide_eq_true (Sl M.out ⟨_,H.out.at_,H.out.cB⟩)
    subst hr;go_wp2;go_ret;exact⟨rfl,yC J.out A.out J.out.size⟩
   .have H8:((c:Int) == (j:Int))=zt:=beq_eq_false_iff_ne.2 (by omega);have U:=yw v;clear v;clear x0 x1 j0 u H8 h7;by_cases R:c=0
    .subst R;have hr:E=zt:=by rw[<-HU.out,vA];exact decide_eq_false (fun e=>U.out e.symm)
     have hI:=H.out.it.behind (yE wr (yX (0:Nat) q.gen));simp only[decide_true]at hI;have HI:=yw hI;have HR:=yw hr;clear hI hr;obtain⟨x0,x1⟩:=H.out.x.c2;obtain⟨j0,u⟩:=P.out.c2;have hh:((0:Int) == (j:Int))=zt:=beq_eq_false_iff_ne.2 (by have:=U.out;omega);go_wp2_with fail;refine(EC _ _ b _ base t p a r ob s (hz.out.behind (yE wr _)) HO.out hb HI.out).mono ?_;rintro e w7 ⟨rfl,Q⟩;have h0:=yw (yC (A.out.alloc A.out.size _) Q (by have:=A.out.size;simp;omega));have G:=yw ((Hx.new wr _ _).behind Q);clear Q;obtain⟨o,I⟩:=yB wr.heap.size
     rw[<-I]at G ⊢;have hv:Hid (D.heap.size<=o):=yw (by rw[I];exact A.out.size);clear I;have xf:=G.out.OH;obtain⟨c0,c1⟩:=G.out.c2;clear x0 x1 j0 u;go_wp2_with fail;go_roundg 0
     case measure=>have:=H0.out;omega
     case rel=>exact⟨o,zt,rfl,rfl,(h0.out.setCell hv.out _).setCell hv.out _,.inr ⟨rfl,HR.out⟩⟩
    .obtain⟨d,pd,hp,hi,h8,hy,hc,H3⟩:=M.out.eI H.out.at_ H.out.cB R;have hI:=H.out.it.behind (yE wr (yX c q.gen));rw[decide_eq_false R,h8,hy]at hI;have HI:=yw hI;have HD:=yw (zQ hp hi);have HR:Hid (RI s.l d j=E):=yw (by rw[<-HU.out,SC M.out ⟨q,H.out.at_,H.out.cB⟩ R,hc,decide_eq_false (fun e=>U.out e.symm),Bool.false_or])
     have H9:Hid (dep s.l d+2<=gk):=yw (by have:=H0.out;omega);clear hI hp hi h8 hy hc H3 R;obtain⟨x0,x1⟩:=H.out.x.c2;obtain⟨j0,u⟩:=P.out.c2;have hh:((c:Int) == (j:Int))=zt:=beq_eq_false_iff_ne.2 (by have:=U.out;omega);go_wp2_with fail;refine(Wp d pd zt b _ base t p a r ob s (hz.out.behind (yE wr _)) HO.out hb M.out HD.out.1 HD.out.2 HI.out).mono ?_;rintro e w7 ⟨rfl,he,h5⟩;obtain⟨n0,n1,n2,n3⟩:=H.out.new;have H5:=H.out.it.lt;have K:Below D.heap.size D (wr.alloc (yX c q.gen)):=A.out.alloc A.out.size _;have h0:=yw (yC K (h5.below (B:=D.heap.size) K.size (by rintro z (rfl|rfl)<;>omega)) (yA _))
     have G:=yw ((Hx.new wr c q.gen).RB h5 (by rintro(e|e)<;>omega));have H6:=yw he;have hl:Hid (wr.heap.size≠a/\wr.heap.size≠r/\wr.heap.size≠ob/\D.heap.size<=wr.heap.size):=yw (by have:=A.out.size;omega);clear K h5 he n0 n1 n2 n3 H5;obtain⟨o,I⟩:=yB wr.heap.size
     rw[<-I]at G hl ⊢;clear I;have xf:=G.out.OH;obtain⟨c0,c1⟩:=G.out.c2;clear x0 x1 j0 u hh;go_wp2_with fail;go_roundg (dep s.l d+1)
     case measure=>have:=H9.out;omega
     case rel=>
      obtain⟨n0,n1,n2,n3⟩:=H.out.new;obtain⟨m0,m1,m2,m3⟩:=hl.out;exact⟨o,zq,rfl,rfl,(h0.out.setCell m3 _).setCell m3 _,.inl ⟨rfl,d,pd,yA _,⟨HD.out.1,HD.out.2,(G.out.eT _).fG _,(H6.out.PR m0 m1 m2).PR m0 m1 m2,⟨n0,n1,n2,m3⟩,⟨m1,m2⟩⟩,HR.out⟩⟩
  .subst hr;go_wp2;go_ret;exact⟨rfl,yC J.out A.out J.out.size⟩
theorem UF(i g D E:Int)(w:zu)(tv:Option Addr)(G:∀W,Below w.heap.size w W->zw prog 64 #[ze tv,zg #[zd zj D,zd zj E]] W fun e w'=>e=zm (zi #[zg (yU .zero),zd zj 2])/\Below W.heap.size W w'):
 zw prog 38 #[ze tv,zg #[zd zj i,zd zj g],zg #[zd zj D,zd zj E]] w fun e w'=>e=zm (zh zt)/\Below w.heap.size w w':=by
 have I:=yw (G ((w.alloc (yX i g)).alloc (yX D E)) ((yE w _).alloc (by simp) _));clear G;go_enter func38,ntmps38;go_wp2_with fail;refine I.out.mono ?_;rintro e H ⟨rfl,A⟩;have B:Hid (Below w.heap.size w H):=yw (yC ((yE w _).alloc (by simp) _) A (by simp;omega));clear A;go_wp2_with fail;go_ret;exact⟨rfl,B.out.alloc B.out.size _⟩
theorem UG(i g:Int)(j:Nat)(I:Pl)(b:Nat)(w:zu)(base t p:Nat)(s:Ps)(h:PQ w base t p s)(c:s.Ok 32 b)(hb:b<=1000)
 (hk:s.find i g=zp) (k:s.l[j]?=zo I) (T:I.used=zq):
 zw prog 38 #[ze (zo ⟨t,0,zp⟩),zg #[zd zj i,zd zj g],zg #[zd zj j,zd zj I.gen]] w fun e w'=>e=zm (zh zt)/\Below w.heap.size w w':=by
 obtain⟨z,Q,C,f⟩:=Qf (xJ j I b ((w.alloc (yX i g)).alloc (yX j I.gen)) base t p s ((h.alloc _).alloc _) c hb k T) h c hk;clear h c hk k T;go_enter func38,ntmps38;go_wp2_with fail;refine z.out.mono ?_;rintro e J ⟨rfl,B⟩;have H:Hid (Below w.heap.size w J):=yw (yC ((yE w _).alloc (by simp) _) B (by simp;omega));have E:Hid (Hx J w.heap.size i g):=yw (((Hx.new w _ _).alloc _).behind B);have N:Hid (Hx J (w.heap.size+1) j I.gen):=yw ((Hx.AP w _ _ _).behind B);obtain⟨o,G⟩:=yB w.heap.size
 obtain⟨m,D⟩:=yB (w.heap.size+1)
 rw[<-D,<-G];rw[<-D]at N;rw[<-G]at E;clear B G D;obtain⟨K,r⟩:=N.out.c2;obtain⟨x,q⟩:=E.out.c2;have P:=E.out.lt;go_wp2_with fail;refine(Oi _ _ _ _).mono ?_;rintro e u ⟨a,y,ob,rfl,F,X,U⟩;have A:Below J.heap.size J u:=yC (yE J _) U (by simp);obtain⟨Y,Z,M⟩:=Qe X ((Q.out.behind H.out).behind A) (yC H.out A H.out.size);clear U A F X K r x q P;go_wp2_with fail;refine(EB i g .zero _ a y ob (zo ⟨t,0,zp⟩) Y.out (fun W v=>by have:=qT i g b W base t p s (Z.out.behind v) C.out hb;rwa[(qU f.out).1,(qU f.out).2]at this)).mono ?_
 rintro e w4 ⟨rfl,O⟩;have V:=yw (yC M.out O M.out.size);clear O;go_wp2_with fail;go_loopg [10,11] 1 (fun n vx L wr=>L=zh zt/\Below w.heap.size w wr)
 case atStart=>exact⟨rfl,V.out.alloc V.out.size _⟩
 case round=>
  obtain⟨rfl,R⟩:=hrel;have d:=yw R;clear R;go_wp2;go_ret;exact⟨rfl,d.out⟩
theorem Dt(i g D B:Int)(b:Nat)(w:zu)(base t p:Nat)(s:Ps)(h:PQ w base t p s)(I:s.Ok 32 b)(hb:b<=1000)(J:Tr s.l):
 zw prog 38 #[ze (zo ⟨t,0,zp⟩),zg #[zd zj i,zd zj g],zg #[zd zj D,zd zj B]] w fun e w'=>e=zm (zh (UE s i g D B))/\Below w.heap.size w w':=by
 unfold UE;cases hj:s.find D B with
 | none=>
  exact UF i g D B w _ (fun W O=>by have:=qT D B b W base t p s (h.behind O) I hb;rwa[(qU hj).1,(qU hj).2]at this)
 | some j=>
  obtain⟨M,rfl,A,E,rfl,_⟩:=qc hj;cases hk:s.find i g with
  | none=>exact UG i g j M b w base t p s h I hb hk A E
  | some k=>
   obtain⟨N,rfl,H,G,rfl,_⟩:=qc hk;exact Lp k j N M b w base t p s h I hb J H G A E
theorem Qz{G:zz}{A:Nat}{B n:Nat}(I:w.grownBy w' G.ownBlock)(H:w.ownsRow A e B G n xs){cs:Array zz}{t:TypeId}{fr:Nat×Nat}(hk:w.heap[k]?=zo (zn cs t fr))(J:t≠e):w'.heap[k]?=zo (zn cs t fr):=by
 rw[I.block k (yx hk).1 ?_]
 .exact hk
 .intro E;rcases H.2 with⟨rfl,_⟩|⟨g,h0,cur,rfl,_,D,_⟩
  .simp[zX]at E
  .simp[zX]at E;subst E;rw[hk]at D;simp only[ya,yo]at D;exact J D.2.1
theorem TK.grown{over:Bool}(h:TK w a hb ob tv i g over){G:zz}{A:Nat}{B n:Nat}(E:w.grownBy w' G.ownBlock)(D:w.ownsRow A e B G n xs)(I:55≠e)(H:78≠e)(J:4≠e):TK w' a hb ob tv i g over:=
 ⟨Qz E D h.ta I,Qz E D h.hx H,Qz E D h.ox J⟩
theorem Sp{base:Nat}{A:Nat}{v:zz}{n:Nat}(h:w.ownsRow base e A v n xs)(H:OA F w w')(J:∀k,F k->∃cs t fr,w.heap[k]?=zo (zn cs t fr)/\t≠e):w'.ownsRow base e A v n xs:=by
 refine⟨h.1,?_⟩;rcases h.2 with O|⟨g,D,cur,R,E,B,N⟩
 .exact .inl O
 .refine .inr ⟨g,D,cur,R,E,?_,N⟩;rw[H.block g (yx B).1 ?_]
  .exact B
  .intro M;obtain⟨cs,t,fr,I,G⟩:=J g M;rw[I]at B;simp only[ya,yo]at B;exact G B.2.1
theorem TK.types{over:Bool}(h:TK w a hb ob tv i g over)(e:TypeId)(A:78≠e)(B:4≠e):∀k,(k=hb∨k=ob)->∃cs t fr,w.heap[k]?=zo (zn cs t fr)/\t≠e:=by
 rintro k (rfl|rfl)
 .exact⟨_,_,_,h.hx,A⟩
 .exact⟨_,_,_,h.ox,B⟩
def zs(l:List Nat):List Int:=l.map (fun n:Nat=>(n:Int))
theorem UH(l:List Nat):(zs l).length=l.length:=by simp[zs]
theorem ED(k:Nat)(J:Pl)(b:Nat)(w:zu)(base t p:Nat)(s:Ps)(h:PQ w base t p s)(ho:s.Ok 32 b)(hb:b<=1000)(hc:Tr s.l)
 (hk:s.l[k]?=zo J) (S:J.used=zq):
 zw prog 149 #[ze (zo ⟨t,0,zp⟩),zg #[zd zj k,zd zj J.gen]] w fun e w'=>∃a c,e=zm (zi #[zf a (AF s.l k).length c,zd zj 0])/\w'.ownsRow w.heap.size 3 1 (zf a (AF s.l k).length c) (AF s.l k).length (iv (zs (AF s.l k)))/\Below w.heap.size w w':=by
 obtain⟨i0,hi,ht,Hg,H2⟩:=info_parts WF;obtain⟨HC,HT,HO,T,HK⟩:=Qg (xJ k J b (w.alloc (yX k J.gen)) base t p s (h.alloc _) ho hb hk S) h ho hc (zQ hk S);obtain⟨P,hP⟩:=yB (AF s.l k)
 rw[<-hP];have HP:=yw hP;clear h ho hc hk S hP;go_enter func149,ntmps149;go_wp2_with fail;refine HC.out.mono ?_;rintro e D ⟨rfl,h1⟩;have G:Hid (Below w.heap.size w D):=yw (yC (yE w _) h1 (by simp));have h0:Hid (Hx D w.heap.size k J.gen):=yw ((Hx.new w _ _).behind h1);obtain⟨kb,L⟩:=yB w.heap.size
 rw[<-L];rw[<-L]at h0;clear h1 L;obtain⟨k0,k1⟩:=h0.out.c2;have kl:=h0.out.lt;go_wp2_with fail;refine(Oi _ _ _ _).mono ?_;rintro e w3 ⟨a,v,ob,rfl,hn,k2,he⟩;have N:Below D.heap.size D w3:=yC (yE D _) he (by simp);have HN:Hid (D.heap.size<=a/\D.heap.size<=v/\D.heap.size<=ob):=yw (by simp at hn;omega);obtain⟨H7,kh,H5⟩:=Qe k2 ((HT.out.behind G.out).behind N) N;clear he N hn k2 k0 k1 kl;go_wp2_with fail;refine(Wp k J zt b _ base t p a v ob s kh.out HO.out hb T.out HK.out.1 HK.out.2 H7.out).mono ?_;rintro e f ⟨rfl,X,Hy⟩;have F:=yw (X.behind (yE f (yX k J.gen)))
 have r:Below D.heap.size D f:=yC H5.out (Hy.below (B:=D.heap.size) H5.out.size (by have:=HN.out;rintro z (rfl|rfl)<;>omega)) (yA _);have h2:=yw (r.alloc r.size (yX k J.gen));have h3:=yw (Hx.new f k J.gen);have V:Hid (D.heap.size<=f.heap.size/\f.heap.size≠v/\f.heap.size≠ob):=yw ⟨r.size,by have:=X.lt.2.1;omega,by have:=X.lt.2.2;omega⟩;obtain⟨w5,Z⟩:=yB (f.alloc (yX k J.gen))
 obtain⟨xb,j⟩:=yB f.heap.size
 rw[<-Z,<-j]at h3;rw[<-Z]at F h2;rw[<-j]at V;go_wp2_with fail;rw[show f.alloc (zn #[zd zj k,zd zj J.gen] 78)=w5 from Z.symm,<-j];have hf:Hid (Wk D w5 t a v ob xb s.l k J):=yw ⟨HK.out.1,HK.out.2,h3.out,F.out,⟨HN.out.1,HN.out.2.1,HN.out.2.2,V.out.1⟩,V.out.2⟩;clear X Hy r Z j F h3 V H7 HC
 go_loopg [8,10,11] 9 (fun n vl vx vi wr=>∃(xb c m:Nat) (q:Pl) (A:List Nat) (ar:Option Addr) (cr:Nat),vl=zf ar m cr/\vx=ze (zo ⟨xb,0,zp⟩)/\vi=zh zq/\m=A.length/\m+n<=9/\dep s.l c+1<=n/\Below D.heap.size D wr/\Wk D wr t a v ob xb s.l c q/\AF s.l k=AF s.l c++A.reverse/\wr.ownsRow D.heap.size 3 1 (zf ar m cr) m (iv (zs A)))
 case atStart=>exact⟨xb,k,0,J,[],zp,0,rfl,rfl,rfl,rfl,by omega,by have:=T.out.fI HK.out.1 HK.out.2;omega,h2.out,hf.out,by simp,ym _ _ _ _⟩
 case round=>
  obtain⟨xr,c,m,q,A,ar,cr,rfl,rfl,rfl,hm,kj,hn,hv,hw,hp,y⟩:=hrel;obtain⟨U,Y,H1,C,HM,kf⟩:=Qh hv hw hp y hm hn;clear hv hw hp y hm hn hf h2;obtain⟨x0,x1⟩:=Y.out.x.c2;by_cases O:c=0
  .subst O;have h5:Hid (P=A.reverse):=yw (by rw[HP.out,H1.out,Jp,List.nil_append]);clear hi ht Hg H2;by_cases ka:m=0
   .subst ka;go_wp2_with fail;refine(So _ _ _).mono ?_;rintro e I ⟨rfl,rfl⟩;go_wp2;go_ret2;have k4:P= []:=by rw[h5.out];have:A= []:=List.eq_nil_of_length_eq_zero HM.out.symm;rw[this];rfl
    rw[k4];have hr:=C.out;have ha:A= []:=List.eq_nil_of_length_eq_zero HM.out.symm;rw[ha]at hr;exact⟨ar,cr,rfl,vV hr G.out.size,yC G.out U.out G.out.size⟩
   .obtain⟨g,hg⟩:=Xp C.out (by omega);subst hg;go_wp2_with fail;refine(Sn D.heap.size g m cr (zs A) wr C.out (by rw[UH];exact HM.out) (by omega)).mono ?_;rintro e I ⟨rfl,hq,h9⟩;have K:=yw hq;have M:=yw (yC G.out (yC U.out (h9.below (B:=D.heap.size) U.out.size (by rintro z rfl;exact(C.out.lt z rfl).1)) (yA _)) G.out.size);clear hq h9;go_wp2;go_ret2;have hz:zs P=(zs A).reverse:=by rw[h5.out];simp[zs]
    have hl:P.length=m:=by rw[h5.out,List.length_reverse];exact HM.out.symm
    rw[hz,hl];exact⟨_,cr,rfl,vV K.out G.out.size,M.out⟩
  .obtain⟨d,pd,H6,H3,h8,H9,hh,k5⟩:=T.out.eI Y.out.at_ Y.out.cB O;have hI:=Y.out.it;rw[decide_eq_false O,h8,H9]at hI;have HI:=yw hI;have HD:=yw (zQ H6 H3);have ke:Hid (AF s.l k=AF s.l d++(A++ [c]).reverse):=yw (by rw[H1.out,Jq T.out ⟨q,Y.out.at_,Y.out.cB⟩ O,hh];simp);have h6:Hid (dep s.l d+2<=gk):=yw (by have:=kf.out;omega);have k8:((c:Int) != 0)=zq:=by simp;omega
   have ki:m<=7:=by have:=h6.out;omega
   clear hI H6 H3 h8 H9 hh k5 O;have H8:=U.out.size;go_wp2_with (at_builtin;go_loud (refine wpList_append_own _ rfl _ _ 43 rfl D.heap.size 3 i0 (zd zj 0) 1 8 underlying43 hi ht Hg H2 rfl (by decide) _ m (iv (zs A)) rfl (C.out.alloc _) ⟨wr.heap.size,0,zp⟩ 1 1 [zd zj c] rfl rfl ?c1 ?c2 ?c3 ?c4 ?c5 ?_))
   case c1=>
    intro jj u h4;have k6:jj=0:=by have:=(yy h4).1;simp at this;omega
    subst k6;simp at h4;subst h4;simp[go_sem]
   case c2=>intro u hu;simp at hu;subst hu;rfl
   case c3=>unfold maxLen;omega
   case c4=>omega
   case c5=>simp;omega
   intro v6 I H E _;have K:Hid (I.ownsRow D.heap.size 3 1 v6 (m+1) (iv (zs (A++ [c])))):=yw (by
    have e:iv (zs A)++ [zd zj (c:Int)]=iv (zs (A++ [c])):=by simp[iv,zs]
    rw[<-e];exact H)
   have M:=yw (Below.grown (U.out.alloc H8 (zn #[zd zj c] 3)) E (by simp;omega) (fun kk k3=>(C.out.lt kk k3).1));have kc:Hid (Hx I xr c q.gen):=yw (Qz E (C.out.alloc _) (Y.out.x.alloc _) (by decide));have W:Hid (TK I a v ob (zo ⟨t,0,zp⟩) d pd.gen zt):=yw (TK.grown (HI.out.behind (yE wr _)) E (C.out.alloc _) (by decide) (by decide) (by decide));have kg:=yw ((HT.out.behind G.out).behind M.out);obtain⟨a6,c6,rfl⟩:=Jo H;clear H E x0 x1 k8 H8;obtain⟨x0,x1⟩:=kc.out.c2;go_wp2_with fail
   refine(Wp d pd zt b _ base t p a v ob s (kg.out.behind (yE I _)) HO.out hb T.out HD.out.1 HD.out.2 (W.out.behind (yE I (yX c q.gen)))).mono ?_;rintro e w7 ⟨rfl,hj,o⟩;obtain⟨n0,n1,n2,n3⟩:=Y.out.new;have k7:=W.out.lt;have Q:Below D.heap.size D (I.alloc (yX c q.gen)):=M.out.alloc M.out.size _;have kd:=yw (yC Q (o.below (B:=D.heap.size) Q.size (by rintro z (rfl|rfl)<;>omega)) (yA _));have R:=yw ((Hx.new I c q.gen).RB o (by rintro(e|e)<;>omega))
   have hy:=yw (Sp (K.out.alloc (yX c q.gen)) o ((W.out.behind (yE I (yX c q.gen))).types 3 (by decide) (by decide)));have k9:=yw hj;have H4:Hid (I.heap.size≠a/\I.heap.size≠v/\I.heap.size≠ob/\D.heap.size<=I.heap.size):=yw (by have:=M.out.size;omega);clear Q o hj n0 n1 n2 n3 k7;obtain⟨xn,H0⟩:=yB I.heap.size
   rw[<-H0]at R H4 ⊢;clear H0;have xf:=R.out.OH;obtain⟨c0,c1⟩:=R.out.c2;clear x0 x1;go_wp2_with fail;go_roundg (dep s.l d+1)
   case measure=>have:=h6.out;omega
   case rel=>
    obtain⟨n0,n1,n2,n3⟩:=Y.out.new;obtain⟨m0,m1,m2,m3⟩:=H4.out;have hx:=R.out;have h7:(zf a6 (m+1) c6).ownBlock≠zo xn:=MT hy.out hx (by decide);exact⟨xn,d,m+1,pd,A++ [c],a6,c6,rfl,rfl,rfl,by rw[zE,<-HM.out];rfl,by have:=h6.out;omega,yA _,(kd.out.setCell m3 _).setCell m3 _,⟨HD.out.1,HD.out.2,(R.out.eT _).fG _,(k9.out.PR m0 m1 m2).PR m0 m1 m2,⟨n0,n1,n2,m3⟩,⟨m1,m2⟩⟩,ke.out,Df (Df hy.out h7) h7⟩
theorem EE(i g:Int)(w:zu)(tv:Option Addr)(D:∀W,Below w.heap.size w W->zw prog 64 #[ze tv,zg #[zd zj i,zd zj g]] W fun e w'=>e=zm (zi #[zg (yU .zero),zd zj 2])/\Below W.heap.size W w'):
 zw prog 149 #[ze tv,zg #[zd zj i,zd zj g]] w fun e w'=>e=zm (zi #[zf zp 0 0,zd zj 2])/\Below w.heap.size w w':=by
 have G:=yw (D (w.alloc (yX i g)) (yE w _));clear D;go_enter func149,ntmps149;go_wp2_with fail;refine G.out.mono ?_;rintro e E ⟨rfl,A⟩;have B:Hid (Below w.heap.size w E):=yw (yC (yE w _) A (by simp));clear A;go_wp2;go_ret2;exact⟨rfl,B.out.alloc B.out.size _⟩
def Gg(s:Ps)(i g:Int):List Nat:=match s.find i g with
 | none=> []
 | some k=>AF s.l k
theorem EF(i g:Int)(b:Nat)(w:zu)(base t p:Nat)(s:Ps)(h:PQ w base t p s)(E:s.Ok 32 b)(hb:b<=1000)(D:Tr s.l):
 zw prog 149 #[ze (zo ⟨t,0,zp⟩),zg #[zd zj i,zd zj g]] w fun e w'=>∃a c,e=zm (zi #[zf a (Gg s i g).length c,zd zj (s.RS i g)])/\w'.ownsRow w.heap.size 3 1 (zf a (Gg s i g).length c) (Gg s i g).length (iv (zs (Gg s i g)))/\Below w.heap.size w w':=by
 unfold Gg;cases hk:s.find i g with
 | none=>
  refine(EE i g w _ (fun W H=>?_)).mono ?_
  .have:=qT i g b W base t p s (h.behind H) E hb;rwa[(qU hk).1,(qU hk).2]at this
  .rintro e w' ⟨rfl,I⟩;rw[(qU hk).2];exact⟨zp,0,rfl,ym _ _ _ _,I⟩
 | some k=>
  obtain⟨G,rfl,B,A,rfl,_,J⟩:=qc hk;rw[J];exact ED k G b w base t p s h E hb D B A
theorem Hx.step{base:Nat}(h:Hx w k i g)(hs:OB base p w w')(A:k≠p):Hx w' k i g:=hs.same h A (by decide)
theorem Gx.step{base:Nat}{x:SZ}(h:Gx w k x)(hs:OB base p w w')(A:k≠p):Gx w' k x:=hs.same h A (by decide)
theorem OB.set{base o:Nat}(h:OB base p w w')(hb:base<=w.heap.size)(B:w.heap.size<=y):OB base p w (w'.setCell ⟨y,o,zp⟩ u):=
 ⟨h.RB.setCell (.inr B) _,h.below.setCell (by show base<=y;omega) _,fun A z E D=>h.row A z E (D.same (zR _ _ _ _ (by exact fun e=>by have:p=y:=e;omega)))⟩
theorem PQ.PR{base:Nat}(h:PQ w base t p s){cs:Array zz}{B:TypeId}{fr:Nat×Nat}(A:w.heap[y]?=zo (zn cs B fr))(M:B≠144)(J:B≠209)(N:B≠211)(o:Nat)(u:zz):PQ (w.setCell ⟨y,o,zp⟩ u) base t p s:=by
 obtain⟨v,E⟩:=h.has;have H:t≠y:=by rintro rfl;rw[h.tb]at A;simp only[ya,yo]at A;exact M A.2.1.symm
 have D:y≠p:=by rintro rfl;rw[E.RO]at A;simp only[ya,yo]at A;exact J A.2.1.symm
 refine⟨by rw[zR _ _ _ _ (by exact H)];exact h.tb,⟨v,E.PR D ?_⟩,h.lo⟩;rcases E.own.2 with⟨rfl,_⟩|⟨g,h0,cur,rfl,_,G,_⟩
 .simp[zX]
 .intro I;simp[zX]at I;subst I;rw[A]at G;simp only[ya,yo]at G;exact N G.2.1
theorem PQ.farH{base:Nat}(h:PQ w base t p s)(A:Hx w y i g)(o:Nat)(u:zz):PQ (w.setCell ⟨y,o,zp⟩ u) base t p s:=h.PR A (by decide) (by decide) (by decide) o u
theorem EG(w:zu):
 zw prog 33 #[] w fun e w'=>∃t p,e=zm (ze (zo ⟨t,0,zp⟩))/\PQ w' w.heap.size t p eY/\Below w.heap.size w w':=by
 have G:=yw (yF.made w 32 w.heap.size (yA _));go_enter func33,ntmps33;go_wp2_with fail;refine(AJ 32 w (by omega)).mono ?_;rintro e w1 ⟨rfl,rfl⟩;go_wp2_with fail;refine(bO ⟨-1,0,0,0⟩ 0 _ w.heap.size w.heap.size 32 ⟨[],-1,[],0⟩ ⟨_,G.out⟩ (Ps.Ok.start 32 (by omega)) (by omega) (by simp)).mono ?_;rintro e E ⟨rfl,D,B⟩;rw[JE]at D;go_wp2;go_ret;have H:=B.RB.size;simp at H;have A:=(yE w (zn #[zd zj 32,zd zj 0,zf zp 0 0,zd zj (-1)] 209)).trans B.below;exact⟨E.heap.size,w.heap.size,rfl,⟨heap_alloc_new E _,D.behind (yE E _),by omega⟩,A.alloc A.size _⟩
theorem QW(i g:Int)(w:zu)(tv:Option Addr)(I:∀W,Below w.heap.size w W->zw prog 64 #[ze tv,zg #[zd zj i,zd zj g]] W fun e w'=>e=zm (zi #[zg (yU .zero),zd zj 2])/\Below W.heap.size W w'):
 zw prog 72 #[ze tv,zg #[zd zj i,zd zj g]] w fun e w'=>e=zm (zi #[zg #[zd zj 0,zd zj 0],zd zj 2])/\Below w.heap.size w w':=by
 have N:=yw (I ((w.alloc (yX i g)).alloc (yX 0 0)) (((zU _ w).alloc (yA _) _).alloc (by simp) _));clear I;go_enter func72,ntmps72;go_wp2_with fail;refine N.out.mono ?_;rintro e H ⟨rfl,A⟩;have E:Below w.heap.size w H:=yC (((zU _ w).alloc (yA _) (yX i g)).alloc (by simp) (yX 0 0)) A (by simp;omega);have B:Hx H (w.heap.size+1) 0 0:=(Hx.AP w (yX i g) 0 0).behind A;obtain⟨y,G⟩:=yB (w.heap.size+1)
 rw[<-G]at B ⊢;have D:=yw E;have J:=yw G;clear E A G;obtain⟨R,M⟩:=B.c2;have yf:=B.OH;have O:=B.lt;clear B;go_wp2;refine bodyPost_ret (v:=zi #[zg #[zd zj 0,zd zj 0],zd zj 2]) (by simp[results,results72,go_sem,R,M,O]) rfl ⟨rfl,?_⟩;exact((D.out.setCell (by show w.heap.size<=y;rw[J.out];omega) _).setCell (by show w.heap.size<=y;rw[J.out];omega) _).alloc (by have:=D.out.size;simpa using this) _
theorem Sq(k:Nat)(q:Pl)(b:Nat)(w:zu)(base t p:Nat)(s:Ps)(h:PQ w base t p s)(N:s.Ok 32 b)(hb:b<=1000)(hk:s.l[k]?=zo q)(B:q.used=zq)(hd:q.x.dp=8):
 zw prog 72 #[ze (zo ⟨t,0,zp⟩),zg #[zd zj k,zd zj q.gen]] w fun e w'=>e=zm (zi #[zg #[zd zj 0,zd zj 0],zd zj 5])/\Below w.heap.size w w':=by
 have I:=yw (xJ k q b ((w.alloc (yX k q.gen)).alloc (yX 0 0)) base t p s ((h.alloc _).alloc _) N hb hk B);obtain⟨g,M⟩:=yB q.gen
 rw[<-M]at I ⊢;generalize q.x=x at I hd;obtain⟨x0,x1,x2,T⟩:=x;have H:T=8:=hd;subst H;clear hd h N hk B M;go_enter func72,ntmps72;go_wp2_with fail;refine I.out.mono ?_;rintro e O ⟨rfl,A⟩;have G:Below w.heap.size w O:=yC (((zU _ w).alloc (yA _) (yX k g)).alloc (by simp) (yX 0 0)) A (by simp;omega);have D:Hx O (w.heap.size+1) 0 0:=(Hx.AP w (yX k g) 0 0).behind A;obtain⟨y,J⟩:=yB (w.heap.size+1)
 rw[<-J]at D ⊢;have E:=yw G;have R:=yw J;clear G A J;obtain⟨X,U⟩:=D.c2;have yf:=D.OH;have V:=D.lt;clear D;go_wp2;refine bodyPost_ret (v:=zi #[zg #[zd zj 0,zd zj 0],zd zj 5]) (by simp[results,results72,go_sem,X,U,V]) rfl ⟨rfl,?_⟩;exact((E.out.setCell (by show w.heap.size<=y;rw[R.out];omega) _).setCell (by show w.heap.size<=y;rw[R.out];omega) _).alloc (by have:=E.out.size;simpa using this) _
theorem QX(k:Nat)(q:Pl)(b:Nat)(w:zu)(base t p:Nat)(s:Ps)(h:PQ w base t p s)(Q:s.Ok 32 b)(hb:b<=1000)(d:Tr s.l)(hk:s.l[k]?=zo q)(V:q.used=zq)(hd:q.x.dp≠8):
 zw prog 72 #[ze (zo ⟨t,0,zp⟩),zg #[zd zj k,zd zj q.gen]] w fun e w'=>e=zm (zi #[zg #[zd zj (s.RL 32:Nat),zd zj (s.SU 32)],zd zj (s.SD 32)])/\PQ w' base t p (s.put 32 ⟨k,k,q.gen,q.x.dp+1⟩)/\OB base p w w':=by
 obtain⟨HC,m,HO⟩:=Qe (xJ k q b ((w.alloc (yX k q.gen)).alloc (yX 0 0)) base t p s ((h.alloc _).alloc _) Q hb hk V) h Q;have I:=d.dp hk V;obtain⟨g,hg⟩:=yB q.gen
 rw[<-hg]at HC ⊢;generalize q.x=x at HC hd I ⊢;obtain⟨c,a,U,A⟩:=x;have h9:(A == 8)=zt:=beq_eq_false_iff_ne.2 hd;have h8:0<=A/\A<=8:=⟨I.1,I.2.1⟩
 clear hd h Q hk V hg d I;simp only;have J:=yw (fun(W:zu) (hW:PQ W base t p s)=>bO ⟨k,k,g,A+1⟩ b W base p 32 s hW.has HO.out hb hW.OS);generalize s.RL 32=pi at J ⊢;generalize s.SU 32=pg at J ⊢;generalize s.SD 32=pe at J ⊢;go_enter func72,ntmps72;go_wp2_with fail;refine HC.out.mono ?_;rintro e T ⟨rfl,E⟩;go_upto_region 6 with(fail)
 have N:Below w.heap.size w T:=yC (((zU _ w).alloc (yA _) (yX k g)).alloc (by simp) (yX 0 0)) E (by simp;omega);have O:Below w.heap.size w (T.alloc (xN ⟨c,a,U,A⟩)):=N.alloc N.size _;have K:Hx (T.alloc (xN ⟨c,a,U,A⟩)) w.heap.size k g:=(((Hx.new w k g).alloc _).behind E).alloc _;have C:Hx (T.alloc (xN ⟨c,a,U,A⟩)) (w.heap.size+1) 0 0:=((Hx.AP w (yX k g) 0 0).behind E).alloc _;have r:=Gx.new T ⟨c,a,U,A⟩;obtain⟨B,X⟩:=yB (T.alloc (xN ⟨c,a,U,A⟩))
 obtain⟨z,P⟩:=yB w.heap.size
 obtain⟨y,F⟩:=yB (w.heap.size+1)
 obtain⟨u,hu⟩:=yB T.heap.size
 rw[show T.alloc (zn #[zd zj a,zd zj U,zd zj A] 130)=B from X.symm];rw[<-X]at O K C r;rw[<-F,<-P,<-hu];rw[<-P]at K;rw[<-F]at C;rw[<-hu]at r;have h2:=m.out.has.lt;have h6:=m.out.lt;have h5:=N.size;have nz:¬z=p:=by omega
 have ny:¬y=p:=by omega
 have nu:¬u=p:=by omega
 have H:¬y=z:=by omega
 have n:¬y=u:=by have:=E.size;simp at this;omega
 have f:¬y=t:=by omega
 obtain⟨h0,h3,HZ,HY,HU,Hy⟩:=Qh (zQ nz (zQ ny nu)) O K C r F;have D:Hid (PQ B.drew base t p s):=yw ((m.out.behind O).behind (yI (zU _ B)));clear E X P F hu O K C r N h2 h6 h5 nz ny nu;obtain⟨z0,z1⟩:=HZ.out.c2;obtain⟨u0,u1,u2⟩:=HU.out.c3;have ha:IntKind.i64.wrap (A+1)=A+1:=IntWalk.i64_in _ (by omega);have tc:B.cell? ⟨t,0,zp⟩=zo (ze (zo ⟨p,0,zp⟩)):=D.out.cell;have j:=yw (J.out B.drew D.out)
 have HS:=yw (fun(R:zu) (hs:OB base p B.drew R)=>show((R.cell? ⟨t,0,zp⟩=zo (ze (zo ⟨p,0,zp⟩))/\R.cell? ⟨z,0,zp⟩=zo (zd zj k)/\R.cell? ⟨z,1,zp⟩=zo (zd zj g)/\R.cell? ⟨u,2,zp⟩=zo (zd zj A))/\Hx R y 0 0)from by obtain⟨n1,n2,n3⟩:=h0.out;have o:=Hx.step (w:=B.drew) HZ.out.drew hs n1;have h4:=Gx.step (w:=B.drew) (x:=⟨c,a,U,A⟩) HU.out hs n3;have L:=Hx.step (w:=B.drew) HY.out.drew hs n2;have h7:R.heap[t]?=_:=hs.same D.out.tb D.out.ne (by decide);exact⟨⟨by simp[zN,h7],o.c2.1,o.c2.2,h4.c3.2.2⟩,L⟩)
 go_region_held3 (fun w'=>w'.cell? ⟨t,0,zp⟩=zo (ze (zo ⟨p,0,zp⟩))/\w'.cell? ⟨z,0,zp⟩=zo (zd zj k)/\w'.cell? ⟨z,1,zp⟩=zo (zd zj g)/\w'.cell? ⟨u,2,zp⟩=zo (zd zj A))
  (first|exact⟨tc,z0,z1,u2⟩|assumption|(refine⟨?_,?_,?_,?_⟩;(rw[xF _ _ _ _ _ _ f,xF _ _ _ _ _ _ f];exact G.1);(rw[xF _ _ _ _ _ _ H,xF _ _ _ _ _ _ H];exact G.2.1);(rw[xF _ _ _ _ _ _ H,xF _ _ _ _ _ _ H];exact G.2.2.1);(rw[xF _ _ _ _ _ _ n,xF _ _ _ _ _ _ n];exact G.2.2.2)))
  (first|(go_at_call 68;refine j.out.mono ?_;rintro e R ⟨rfl,S,Z⟩;obtain⟨G,M⟩:=HS.out R Z;obtain⟨y0,y1⟩:=M.c2;have yf:=M.OH))
 clear G;go_wp2;refine bodyPost_ret (v:=zi #[zg #[zd zj (pi:Nat),zd zj pg],zd zj pe]) (by simp[results,results72,go_sem,y0,y1]) rfl ⟨rfl,?_,?_⟩
 .exact((D.out.step Z S).farH M _ _).farH (M.eT _) _ _
 .have Y:=m.out.OS;have h1:OB base p w B.drew:=OB.NZ (yI h3.out) Y;exact((h1.trans Z m.out.has.lt).set Y (by rw[Hy.out];omega)).set Y (by rw[Hy.out];omega)
theorem Gh(i g:Int)(b:Nat)(w:zu)(base t p:Nat)(s:Ps)(h:PQ w base t p s)(E:s.Ok 32 b)(hb:b<=1000)(D:Tr s.l):
 zw prog 72 #[ze (zo ⟨t,0,zp⟩),zg #[zd zj i,zd zj g]] w fun e w'=>e=zm (zi #[zg #[zd zj (s.TO i g:Nat),zd zj (s.cA i g)],zd zj (s.AK i g)])/\PQ w' base t p (s.cT i g)/\OB base p w w':=by
 unfold Ps.cT Ps.TO Ps.cA Ps.AK;cases hk:s.find i g with
 | none=>
  refine(QW i g w _ (fun W I=>?_)).mono ?_
  .have:=qT i g b W base t p s (h.behind I) E hb;rwa[(qU hk).1,(qU hk).2]at this
  .rintro e w' ⟨rfl,H⟩;exact⟨rfl,h.behind H,OB.NZ H h.OS⟩
 | some k=>
  obtain⟨q,rfl,B,A,rfl,_,h6⟩:=qc hk;obtain⟨d1,d2,d3,M⟩:=D.dp B A;by_cases hd:dep s.l k=8
  .simp only[if_pos hd];exact(Sq k q b w base t p s h E hb B A (by omega)).mono fun e w' ⟨J,G⟩=>⟨J,h.behind G,OB.NZ G h.OS⟩
  .simp only[if_neg hd];rw[<-M];exact QX k q b w base t p s h E hb D B A (by omega)
theorem JF(b:Nat)(w:zu)(base t p:Nat)(s:Ps)(h:PQ w base t p s)(H:s.Ok 32 b)(hb:b<=1000):
 zw prog 222 #[ze (zo ⟨t,0,zp⟩)] w fun e w'=>∃a c,e=zm (zf a (Yx s.l).length c)/\w'.ownsRow w.heap.size 78 2 (zf a (Yx s.l).length c) (Yx s.l).length (RK (Yx s.l))/\Below w.heap.size w w':=by
 obtain⟨v,G⟩:=h.has;have hc:=h.cell;have J:=(H.lo hb).1;obtain⟨L,D⟩:=yB (Yx s.l)
 have E:=yw (CY w base p v 32 s.many s.free s.l G (by omega));rw[<-D]at E ⊢;clear h H G J D;go_enter func222,ntmps222;go_wp2_with fail;refine E.out.mono ?_;rintro e w' ⟨v',rfl,A,B⟩;obtain⟨a,c,rfl⟩:=Jo A;have I:=yw A;have M:=yw B;clear A B;go_wp2;go_ret;exact⟨a,c,rfl,I.out,M.out⟩
theorem Lr(l:List Pl):∀n,n<=l.length->∀k g,(k,g)∈qE (OO l) (xX l) n->∃q,l[k]?=zo q/\q.used=zq/\q.gen=g
 | 0,_,k,g,h=>by simp[qE]at h
 | n+1,hn,k,g,h=>by
  have A:l[n]?=zo l[n]:=zy (by omega);have B:(OO l).getD n zt=l[n].used:=by rw[OO,zH,zG,A];rfl
  have E:(xX l).getD n 0=l[n].gen:=by rw[xX,zH,zG,A];rfl
  simp only[qE,B,E]at h;rcases List.mem_append.1 h with h|h
  .exact Lr l n (by omega) k g h
  .split at h
   .rename_i D;have:=List.mem_singleton.1 h;cases this;exact⟨l[n],A,D,rfl⟩
   .simp at h
theorem Gi(h:(k,g)∈Yx l):∃q,l[k]?=zo q/\q.used=zq/\q.gen=g:=Lr l _ (yA _) k g h
theorem Be(l:List Pl):(Yx l).length<=l.length:=by have:=Cq l l.length (yA _);rw[Yx,this];exact Nat.le_trans List.countP_le_length (by simp)
def qV(l:List Pl)(P:Nat->Bool):List (Nat×Int):=(Yx l).filter (fun x=>P x.1)
theorem UI(c0:Nat)(P:Nat->Bool)(b:Nat)(w:zu)(base t p:Nat)(s:Ps)(h:PQ w base t p s)(ho:s.Ok 32 b)(hb:b<=1000)
 (hr:∀W,Below w.heap.size w W->∀(k:Nat) (q:Pl),s.l[k]?=zo q->q.used=zq->zw prog 179 #[zg #[zd zj k,zd zj q.gen],zg (yU q.x),ze (zo ⟨c0,0,zp⟩)] W fun e w'=>e=zm (zh (P k))/\Below W.heap.size W w'):
 zw prog 178 #[ze (zo ⟨t,0,zp⟩),.func (.func 179) #[] #[ze (zo ⟨c0,0,zp⟩)]] w fun e w'=>∃a c,e=zm (zf a (qV s.l P).length c)/\w'.ownsRow w.heap.size 78 2 (zf a (qV s.l P).length c) (qV s.l P).length (RK (qV s.l P))/\Below w.heap.size w w':=by
 obtain⟨i0,hi,hg,hp,hh⟩:=info_parts uR;obtain⟨HA,HT,HO,Z⟩:=Qf (JF b w base t p s h ho hb) h ho hr;have z:=Be s.l;have h9:=(ho.lo hb).1;obtain⟨L,hL⟩:=yB (Yx s.l)
 have hM:∀k g,(k,g)∈L->∃q,s.l[k]?=zo q/\q.used=zq/\q.gen=g:=by rw[hL];exact fun k g=>Gi
 have HM:=yw hM;unfold qV;rw[<-hL]at HA z ⊢;have ha:L.length<=1000:=by omega
 clear h ho hr hM hL z h9;go_enter func178,ntmps178;go_wp2_with fail;refine HA.out.mono ?_;rintro e w1 ⟨a1,hw,rfl,C,h3⟩;have d:=yw C;have D:=yw h3;clear C h3;obtain⟨N,hN⟩:=yB L.length
 rw[<-hN]at d ha ⊢;have HN:=yw hN;clear hN HA;go_wp2_with fail;go_loopg [5,13] N (fun n vl vi wr=>∃(j m:Nat) (ar:Option Addr) (K:Nat),vl=zf ar m K/\vi=zd zj j/\j<=N/\N-j<=n/\m<=j/\m=((L.take j).filter (fun x=>P x.1)).length/\wr.ownsRow w1.heap.size 78 2 (zf ar m K) m (RK ((L.take j).filter (fun x=>P x.1)))/\Below w1.heap.size w1 wr)
 case atStart=>exact⟨0,0,zp,0,rfl,rfl,by omega,by omega,by omega,by simp,by simpa[RK]using ym _ _ _ _,zU _ _⟩
 case round=>
  obtain⟨j,m,ar,K,rfl,rfl,hj,hn,hv,S,X,Q⟩:=hrel;obtain⟨r,HR,J,h4⟩:=Qf S X Q hn;clear S X Q hn;by_cases h7:j<N
  .obtain⟨kg,E⟩:∃kg,L[j]?=zo kg:=⟨_,zy (by have:=HN.out;omega)⟩
   obtain⟨k,g⟩:=kg;obtain⟨q,Y,T,h0⟩:=HM.out k g (zW E);subst h0;obtain⟨tt,rfl⟩:=Xp d.out (by omega);have y:=yw (qo d.out J.out);obtain⟨y0,y1,yl⟩:=Vy y.out j k q.gen E h7;have U:(L.take (j+1)).filter (fun x=>P x.1)=(L.take j).filter (fun x=>P x.1)++(if P k=zq then [(k,q.gen)]else []):=by
    have v:j<L.length:=(yy E).1;have e:L[j]=(k,q.gen):=by have:=zy v;rw[E]at this;simpa using this.symm
    rw[<-List.take_append_getElem v,List.filter_append,e];cases hP:P k<;>simp[hP]
   obtain⟨V,HQ,hl⟩:=Qe U (zQ Y T) ((HT.out.behind D.out).behind J.out);have hc:=J.out.size;clear U E Y T;go_wp2_with fail;refine(xJ k q b _ base t p s (hl.out.alloc _) HO.out hb HQ.out.1 HQ.out.2).mono ?_;rintro e w2 ⟨rfl,O⟩;have G:=yw (yC (J.out.alloc hc (yX k q.gen)) O (by simp;omega));have R:=yw ((Hx.new wr k q.gen).behind O);have I:Hid (Below wr.heap.size wr w2):=yw (yC (yE wr (yX k q.gen)) O (by simp));clear O y0 y1 yl;obtain⟨xb,h2⟩:=yB wr.heap.size
   rw[<-h2]at R ⊢;clear h2;obtain⟨x0,x1⟩:=R.out.c2;have xl:=R.out.lt;go_wp2_with fail;refine(Z.out _ (yC D.out (G.out.alloc G.out.size (xN q.x)) D.out.size) k q HQ.out.1 HQ.out.2).mono ?_;rintro e w3 ⟨rfl,M⟩;have f:=yw (yC (G.out.alloc G.out.size (xN q.x)) M (by have:=G.out.size;simp;omega));have h1:=yw ((R.out.alloc (xN q.x)).behind M);have o:=yw (qo HR.out (yC (I.out.alloc I.out.size (xN q.x)) M (by have:=I.out.size;simp;omega)));clear M x0 x1 xl;obtain⟨x0,x1⟩:=h1.out.c2;have xl:=h1.out.lt;have F:=f.out.size;cases hP:P k
   .have HE:Hid ((L.take (j+1)).filter (fun x=>P x.1)=(L.take j).filter (fun x=>P x.1)):=yw (by rw[V.out,hP];simp);clear hP;go_wp2_with fail;go_roundg (N-(j+1))
    case measure=>have:=h4.out;omega
    case rel=>exact⟨j+1,m,ar,K,rfl,by go_num,by omega,yA _,by omega,by rw[HE.out];exact r.out,by rw[HE.out];exact o.out,f.out⟩
   .have HE:Hid ((L.take (j+1)).filter (fun x=>P x.1)=(L.take j).filter (fun x=>P x.1)++ [(k,q.gen)]):=yw (by rw[V.out,hP];simp);clear hP;go_wp2_with (at_builtin;go_loud (refine wpList_append_own _ rfl _ _ 220 rfl w1.heap.size 78 i0 (zg #[zd zj 0,zd zj 0]) 2 16 underlying220 hi hg hp hh rfl (by decide) _ m (RK ((L.take j).filter (fun x=>P x.1))) rfl (o.out.alloc _) ⟨w3.heap.size,0,zp⟩ 1 1 [zd zj k,zd zj q.gen] rfl rfl ?c1 ?c2 ?c3 ?c4 ?c5 ?_))
    case c1=>
     intro jj u H;have h8:jj=0∨jj=1:=by have:=(yy H).1;simp at this;omega
     rcases h8 with rfl|rfl
     .simp at H;subst H;simp[go_sem]
     .simp at H;subst H;simp[go_sem]
    case c2=>intro u hu;simp at hu;rcases hu with rfl|rfl<;>rfl
    case c3=>unfold maxLen;omega
    case c4=>omega
    case c5=>simp;omega
    intro v6 w6 A B _;have h6:Hid (w6.ownsRow w1.heap.size 78 2 v6 (m+1) (RK ((L.take (j+1)).filter (fun x=>P x.1)))):=yw (by rw[HE.out,<-Og];exact A);have he:=yw (Below.grown (f.out.alloc F (zn #[zd zj k,zd zj q.gen] 78)) B (by simp;omega) (fun kk h5=>(o.out.lt kk h5).1));obtain⟨a6,c6,rfl⟩:=Jo A;clear A B;go_wp2_with fail;go_roundg (N-(j+1))
    case measure=>have:=h4.out;omega
    case rel=>exact⟨j+1,m+1,a6,c6,rfl,by go_num,by omega,yA _,by omega,by rw[HE.out,zE,<-r.out];rfl,h6.out,he.out⟩
  .have hq:j=N:=by omega
   subst hq;go_wp2;go_ret;have hf:=HR.out;have S:=r.out;have ht:L.take j=L:=by rw[HN.out,List.take_length]
   rw[ht]at hf S;subst S;exact⟨ar,K,rfl,vV hf D.out.size,yC D.out J.out D.out.size⟩
theorem QY(c0 c1:Nat)(P:Nat->Bool)(b:Nat)(w:zu)(base t p:Nat)(s:Ps)(h:PQ w base t p s)(ho:s.Ok 32 b)(hb:b<=1000)
 (hr:∀W,Below w.heap.size w W->∀(k:Nat) (q:Pl),s.l[k]?=zo q->q.used=zq->zw prog 181 #[zg #[zd zj k,zd zj q.gen],zg (yU q.x),ze (zo ⟨c0,0,zp⟩),ze (zo ⟨c1,0,zp⟩)] W fun e w'=>e=zm (zh (P k))/\Below W.heap.size W w'):
 zw prog 178 #[ze (zo ⟨t,0,zp⟩),.func (.func 181) #[] #[ze (zo ⟨c0,0,zp⟩),ze (zo ⟨c1,0,zp⟩)]] w fun e w'=>∃a c,e=zm (zf a (qV s.l P).length c)/\w'.ownsRow w.heap.size 78 2 (zf a (qV s.l P).length c) (qV s.l P).length (RK (qV s.l P))/\Below w.heap.size w w':=by
 obtain⟨i0,hi,hg,hp,hh⟩:=info_parts uR;obtain⟨HA,HT,HO,Z⟩:=Qf (JF b w base t p s h ho hb) h ho hr;have z:=Be s.l;have h9:=(ho.lo hb).1;obtain⟨L,hL⟩:=yB (Yx s.l)
 have hM:∀k g,(k,g)∈L->∃q,s.l[k]?=zo q/\q.used=zq/\q.gen=g:=by rw[hL];exact fun k g=>Gi
 have HM:=yw hM;unfold qV;rw[<-hL]at HA z ⊢;have ha:L.length<=1000:=by omega
 clear h ho hr hM hL z h9;go_enter func178,ntmps178;go_wp2_with fail;refine HA.out.mono ?_;rintro e w1 ⟨a1,hw,rfl,C,h3⟩;have d:=yw C;have D:=yw h3;clear C h3;obtain⟨N,hN⟩:=yB L.length
 rw[<-hN]at d ha ⊢;have HN:=yw hN;clear hN HA;go_wp2_with fail;go_loopg [5,13] N (fun n vl vi wr=>∃(j m:Nat) (ar:Option Addr) (K:Nat),vl=zf ar m K/\vi=zd zj j/\j<=N/\N-j<=n/\m<=j/\m=((L.take j).filter (fun x=>P x.1)).length/\wr.ownsRow w1.heap.size 78 2 (zf ar m K) m (RK ((L.take j).filter (fun x=>P x.1)))/\Below w1.heap.size w1 wr)
 case atStart=>exact⟨0,0,zp,0,rfl,rfl,by omega,by omega,by omega,by simp,by simpa[RK]using ym _ _ _ _,zU _ _⟩
 case round=>
  obtain⟨j,m,ar,K,rfl,rfl,hj,hn,hv,S,X,Q⟩:=hrel;obtain⟨r,HR,J,h4⟩:=Qf S X Q hn;clear S X Q hn;by_cases h7:j<N
  .obtain⟨kg,E⟩:∃kg,L[j]?=zo kg:=⟨_,zy (by have:=HN.out;omega)⟩
   obtain⟨k,g⟩:=kg;obtain⟨q,Y,T,h0⟩:=HM.out k g (zW E);subst h0;obtain⟨tt,rfl⟩:=Xp d.out (by omega);have y:=yw (qo d.out J.out);obtain⟨y0,y1,yl⟩:=Vy y.out j k q.gen E h7;have U:(L.take (j+1)).filter (fun x=>P x.1)=(L.take j).filter (fun x=>P x.1)++(if P k=zq then [(k,q.gen)]else []):=by
    have v:j<L.length:=(yy E).1;have e:L[j]=(k,q.gen):=by have:=zy v;rw[E]at this;simpa using this.symm
    rw[<-List.take_append_getElem v,List.filter_append,e];cases hP:P k<;>simp[hP]
   obtain⟨V,HQ,hl⟩:=Qe U (zQ Y T) ((HT.out.behind D.out).behind J.out);have hc:=J.out.size;clear U E Y T;go_wp2_with fail;refine(xJ k q b _ base t p s (hl.out.alloc _) HO.out hb HQ.out.1 HQ.out.2).mono ?_;rintro e w2 ⟨rfl,O⟩;have G:=yw (yC (J.out.alloc hc (yX k q.gen)) O (by simp;omega));have R:=yw ((Hx.new wr k q.gen).behind O);have I:Hid (Below wr.heap.size wr w2):=yw (yC (yE wr (yX k q.gen)) O (by simp));clear O y0 y1 yl;obtain⟨xb,h2⟩:=yB wr.heap.size
   rw[<-h2]at R ⊢;clear h2;obtain⟨x0,x1⟩:=R.out.c2;have xl:=R.out.lt;go_wp2_with fail;refine(Z.out _ (yC D.out (G.out.alloc G.out.size (xN q.x)) D.out.size) k q HQ.out.1 HQ.out.2).mono ?_;rintro e w3 ⟨rfl,M⟩;have f:=yw (yC (G.out.alloc G.out.size (xN q.x)) M (by have:=G.out.size;simp;omega));have h1:=yw ((R.out.alloc (xN q.x)).behind M);have o:=yw (qo HR.out (yC (I.out.alloc I.out.size (xN q.x)) M (by have:=I.out.size;simp;omega)));clear M x0 x1 xl;obtain⟨x0,x1⟩:=h1.out.c2;have xl:=h1.out.lt;have F:=f.out.size;cases hP:P k
   .have HE:Hid ((L.take (j+1)).filter (fun x=>P x.1)=(L.take j).filter (fun x=>P x.1)):=yw (by rw[V.out,hP];simp);clear hP;go_wp2_with fail;go_roundg (N-(j+1))
    case measure=>have:=h4.out;omega
    case rel=>exact⟨j+1,m,ar,K,rfl,by go_num,by omega,yA _,by omega,by rw[HE.out];exact r.out,by rw[HE.out];exact o.out,f.out⟩
   .have HE:Hid ((L.take (j+1)).filter (fun x=>P x.1)=(L.take j).filter (fun x=>P x.1)++ [(k,q.gen)]):=yw (by rw[V.out,hP];simp);clear hP;go_wp2_with (at_builtin;go_loud (refine wpList_append_own _ rfl _ _ 220 rfl w1.heap.size 78 i0 (zg #[zd zj 0,zd zj 0]) 2 16 underlying220 hi hg hp hh rfl (by decide) _ m (RK ((L.take j).filter (fun x=>P x.1))) rfl (o.out.alloc _) ⟨w3.heap.size,0,zp⟩ 1 1 [zd zj k,zd zj q.gen] rfl rfl ?c1 ?c2 ?c3 ?c4 ?c5 ?_))
    case c1=>
     intro jj u H;have h8:jj=0∨jj=1:=by have:=(yy H).1;simp at this;omega
     rcases h8 with rfl|rfl
     .simp at H;subst H;simp[go_sem]
     .simp at H;subst H;simp[go_sem]
    case c2=>intro u hu;simp at hu;rcases hu with rfl|rfl<;>rfl
    case c3=>unfold maxLen;omega
    case c4=>omega
    case c5=>simp;omega
    intro v6 w6 A B _;have h6:Hid (w6.ownsRow w1.heap.size 78 2 v6 (m+1) (RK ((L.take (j+1)).filter (fun x=>P x.1)))):=yw (by rw[HE.out,<-Og];exact A);have he:=yw (Below.grown (f.out.alloc F (zn #[zd zj k,zd zj q.gen] 78)) B (by simp;omega) (fun kk h5=>(o.out.lt kk h5).1));obtain⟨a6,c6,rfl⟩:=Jo A;clear A B;go_wp2_with fail;go_roundg (N-(j+1))
    case measure=>have:=h4.out;omega
    case rel=>exact⟨j+1,m+1,a6,c6,rfl,by go_num,by omega,yA _,by omega,by rw[HE.out,zE,<-r.out];rfl,h6.out,he.out⟩
  .have hq:j=N:=by omega
   subst hq;go_wp2;go_ret;have hf:=HR.out;have S:=r.out;have ht:L.take j=L:=by rw[HN.out,List.take_length]
   rw[ht]at hf S;subst S;exact⟨ar,K,rfl,vV hf D.out.size,yC D.out J.out D.out.size⟩
def Ei(s:Ps)(i g:Int)(k:Nat):Bool:=match s.find i g with
 | none=>zt
 | some j=>RI s.l k j
def Yb(s:Ps)(i g:Int)(k:Nat):Bool:=match s.find i g with
 | none=>zt
 | some j=>decide (k≠0/\TA s.l k=j)
theorem QZ(A:s.l[k]?=zo q)(B:q.used=zq)(i g:Int):UE s k q.gen i g=Ei s i g k:=by
 unfold UE Ei;rw[(uS A B).1]
 all_goals cases s.find i g<;>rfl
theorem UJ(i g:Int)(k tb hb:Nat)(q:Pl)(b:Nat)(w:zu)(base t p:Nat)(s:Ps)(h:PQ w base t p s)(I:s.Ok 32 b)(G:b<=1000)(A:Tr s.l)(hk:s.l[k]?=zo q)(J:q.used=zq)
 (B:w.heap[tb]?=zo (zn #[ze (zo ⟨t,0,zp⟩)] 55 (0,0))) (H:Hx w hb i g):
 zw prog 181 #[zg #[zd zj k,zd zj q.gen],zg (yU q.x),ze (zo ⟨tb,0,zp⟩),ze (zo ⟨hb,0,zp⟩)] w fun e w'=>e=zm (zh (Ei s i g k))/\Below w.heap.size w w':=by
 have D:=yw (Dt k q.gen i g b ((w.alloc (yX k q.gen)).alloc (xN q.x)) base t p s ((h.alloc _).alloc _) I G A);rw[QZ hk J]at D;have c0:w.cell? ⟨tb,0,zp⟩=zo (ze (zo ⟨t,0,zp⟩)):=by simp[zN,B]
 have l0:tb<w.heap.size:=(yx B).1;have l1:=H.lt;obtain⟨h0,h1⟩:=H.c2;generalize Ei s i g k=r at D ⊢;clear h I A hk J B H;go_enter func181,ntmps181;go_wp2_with fail;refine D.out.mono ?_;rintro e w2 ⟨rfl,E⟩;go_wp2;go_ret;exact⟨rfl,yC (((zU _ w).alloc (yA _) (yX k q.gen)).alloc (by simp) (xN q.x)) E (by simp;omega)⟩
theorem UK(i g:Int)(b:Nat)(w:zu)(base t p:Nat)(s:Ps)(h:PQ w base t p s)(V:s.Ok 32 b)(hb:b<=1000)(O:Tr s.l):
 zw prog 127 #[ze (zo ⟨t,0,zp⟩),zg #[zd zj i,zd zj g]] w fun e w'=>∃a c,e=zm (zf a (qV s.l (Ei s i g)).length c)/\w'.ownsRow w.heap.size 78 2 (zf a (qV s.l (Ei s i g)).length c) (qV s.l (Ei s i g)).length (RK (qV s.l (Ei s i g)))/\Below w.heap.size w w':=by
 obtain⟨w1,A⟩:=yB ((w.alloc (zn #[ze (zo ⟨t,0,zp⟩)] 55)).alloc (yX i g))
 have D:Below w.heap.size w w1:=by rw[A];exact(yE w _).alloc (by simp) _
 have B:w1.heap[w.heap.size]?=zo (zn #[ze (zo ⟨t,0,zp⟩)] 55 (0,0)):=by rw[A,zZ _ _ _ (by simp)];exact heap_alloc_new w _
 have M:Hx w1 (w.heap.size+1) i g:=by rw[A];exact Hx.AP w _ i g
 have hs:=QY w.heap.size (w.heap.size+1) (Ei s i g) b w1 base t p s (h.behind D) V hb (fun W R k q Z Y=>
  UJ i g k w.heap.size (w.heap.size+1) q b W base t p s ((h.behind D).behind R) V hb O Z Y (by rw[R.block _ (yx B).1];exact B) (M.behind R))
 obtain⟨tb,E⟩:=yB w.heap.size
 obtain⟨X,G⟩:=yB (w.heap.size+1)
 have c0:w1.cell? ⟨tb,0,zp⟩=zo (ze (zo ⟨t,0,zp⟩)):=by rw[E];simp[zN,B]
 rw[<-G,<-E]at hs;obtain⟨HS,d,H,I⟩:=Qf hs A D (zQ E G);generalize qV s.l (Ei s i g)=L at HS ⊢;clear hs h V O B M A D E G;go_enter func127,ntmps127;go_upto_region 1 with(fail)
 rw[show(w.alloc (zn #[ze (zo ⟨t,0,zp⟩)] 55)).alloc (zn #[zd zj i,zd zj g] 78)=w1 from d.out.symm,<-I.out.2,<-I.out.1];go_wp2_with fail;refine HS.out.mono ?_;rintro e w2 ⟨a,c,rfl,J,N⟩;have U:=yw J;have T:=yw N;clear J N;go_wp2;go_ret;exact⟨a,c,rfl,vV U.out H.out.size,yC H.out T.out H.out.size⟩
theorem EH(j:Nat)(c:Pl)(k hb:Nat)(q:Pl)(b:Nat)(w:zu)(s:Ps)(O:Tr s.l)(hk:s.l[k]?=zo q)(hu:q.used=zq)(hj:s.l[j]?=zo c)(P:c.used=zq)(hh:Hx w hb j c.gen):
 zw prog 179 #[zg #[zd zj k,zd zj q.gen],zg (yU q.x),ze (zo ⟨hb,0,zp⟩)] w fun e w'=>e=zm (zh (decide (k≠0/\TA s.l k=j)))/\Below w.heap.size w w':=by
 have X:(k=0/\q.gen=0)∨(k≠0/\∃(d:Nat) (Z:Pl),q.x.ui=d/\q.x.ug=Z.gen/\TA s.l k=d/\(d=j->Z.gen=c.gen)):=by
  by_cases p:k=0
  .subst p;obtain⟨q0,Y,_,h2,_⟩:=O.root;rw[hk]at Y;cases Y;exact .inl ⟨rfl,h2⟩
  .obtain⟨d,Z,Y,h2,h3,h4,h5,_⟩:=O.eI hk hu p;exact .inr ⟨p,d,Z,h3,h4,h5,by rintro rfl;rw[hj]at Y;cases Y;rfl⟩
 obtain⟨I,E⟩:=yB ((w.alloc (yX k q.gen)).alloc (xN q.x))
 have T:Below w.heap.size w I:=by rw[E];exact(yE w _).alloc (by simp) _
 have H:Hx I w.heap.size k q.gen:=by rw[E];exact(Hx.new w _ _).alloc _
 have U:Gx I (w.heap.size+1) q.x:=by rw[E];have:=Gx.new (w.alloc (yX k q.gen)) q.x;simpa using this
 have n:=hh.behind T;obtain⟨z,F⟩:=yB w.heap.size
 obtain⟨u,R⟩:=yB (w.heap.size+1)
 rw[<-F]at H;rw[<-R]at U;obtain⟨HZ,HW,J⟩:=Qe (zQ F R) E T;obtain⟨W,z1⟩:=H.c2;have zl:=H.lt;obtain⟨u0,u1,u2⟩:=U.c3;obtain⟨p,Y⟩:=n.c2;generalize q.gen=kg at*;generalize q.x=x at*;obtain⟨x0,x1,Q,x3⟩:=x;obtain⟨o,f⟩:=yB c.gen
 rw[<-f]at Y X;obtain⟨r,N⟩:=yB (decide (k≠0/\TA s.l k=j))
 rw[<-N];have t:=yw X;have a:=yw N;clear O hk hu hj P hh E T H U n F R f X N;go_enter func179,ntmps179;go_upto_region 1 with(fail)
 rw[show(w.alloc (zn #[zd zj k,zd zj kg] 78)).alloc (zn #[zd zj x1,zd zj Q,zd zj x3] 130)=I from HW.out.symm,<-HZ.out.2,<-HZ.out.1];simp only at u0 u1 u2;rcases t.out with⟨D,C⟩|⟨D,d,Z,m,g,G,V⟩
 .subst D;subst C;have N:r=zt:=by rw[a.out];simp
  subst N;clear t a;refine wp_region_noPanic ?_;refine wp_region_held_drew (S:=fun w'=>w'.cell? ⟨z,0,zp⟩=zo (zd zj 0)/\w'.cell? ⟨z,1,zp⟩=zo (zd zj 0)) (by kernel_rfl) ⟨W,z1⟩ (fun B=>?_);refine wpAnyH_take (i:=0) (v:=zg #[zd zj 0,zd zj 0]) rfl (by kernel_rfl) (by kernel_rfl) (by kernel_rfl) (fun _ _ _ h=>h) (Or.inl ⟨by rfl,?_⟩) B ?_
  .intro w' y;go_simp
  refine wpAnyH_ready (rs:= [1]) (by kernel_rfl) (by simp) ?_;refine AllReadyH.cons rfl (fun K hK=>?_) AllReadyH.nil;go_simp;refine(qw _).mono ?_;rintro e w4 ⟨rfl,rfl⟩;have L:(I.drew.alloc (yX 0 0)).cell? ⟨z,0,zp⟩=zo (zd zj 0)/\(I.drew.alloc (yX 0 0)).cell? ⟨z,1,zp⟩=zo (zd zj 0):=by have h:=Lb (yE I.drew (yX 0 0));exact⟨(h.1 z 0 zl).trans W,(h.1 z 1 zl).trans z1⟩
  refine hK.out _ _ L (fun A=>?_);clear hK K;refine wpAnyH_take (i:=2) (v:=zh zt) rfl (by kernel_rfl) (by kernel_rfl) (by kernel_rfl) (fun _ _ _ h=>h) (Or.inl ⟨by rfl,?_⟩) A ?_
  .intro w' y;go_simp
  refine wpAnyH_take (i:=3) (v:=zh zt) rfl (by kernel_rfl) (by kernel_rfl) (by kernel_rfl) (fun _ _ _ h=>h) (Or.inl ⟨by rfl,?_⟩) A ?_
  .intro w' y;go_simp
  refine wpAnyH_take (i:=4) (v:=undef) rfl (by kernel_rfl) (by kernel_rfl) (by kernel_rfl) (fun _ _ _ h=>h) (Or.inr ⟨by rfl,rfl⟩) A ?_;refine wpAnyH_take (i:=5) (v:=undef) rfl (by kernel_rfl) (by kernel_rfl) (by kernel_rfl) (fun _ _ _ h=>h) (Or.inr ⟨by rfl,rfl⟩) A ?_;refine wpAnyH_take (i:=6) (v:=undef) rfl (by kernel_rfl) (by kernel_rfl) (by kernel_rfl) (fun _ _ _ h=>h) (Or.inr ⟨by rfl,rfl⟩) A ?_;refine wpAnyH_take (i:=7) (v:=undef) rfl (by kernel_rfl) (by kernel_rfl) (by kernel_rfl) (fun _ _ _ h=>h) (Or.inr ⟨by rfl,rfl⟩) A ?_;refine wpAnyH_take (i:=8) (v:=zh zt) rfl (by kernel_rfl) (by kernel_rfl) (by kernel_rfl) (fun _ _ _ h=>h) (Or.inl ⟨by rfl,?_⟩) A ?_
  .intro w' y;go_simp
  refine wpAnyH_take (i:=9) (v:=zh zt) rfl (by kernel_rfl) (by kernel_rfl) (by kernel_rfl) (fun _ _ _ h=>h) (Or.inl ⟨by rfl,?_⟩) A ?_
  .intro w' y;go_simp
  refine wpAnyH_done (by kernel_rfl) ?_ _;change NoPanic (Exit.then _ _) Exit.normal ({ tmps:=#[zg #[zd zj 0,zd zj 0],zg (yU ⟨x0,x1,Q,x3⟩),ze (zo ⟨hb,0,zp⟩),ze (zo ⟨z,0,zp⟩),ze (zo ⟨u,0,zp⟩),zh zt,zg #[zd zj 0,zd zj 0],zg #[zd zj 0,zd zj 0],zh zt,zh zt,undef,undef,undef,undef,zh zt],defers:= [] }:Act) _;refine NoPanic.normal ?_;go_wp2;go_ret;exact⟨rfl,(yI J.out).alloc J.out.size _⟩
 .have h7:((k:Int) == 0)=zt:=beq_eq_false_iff_ne.2 (by omega);have h6:((k:Int) != 0)=zq:=by simp;omega
  simp only at m g;subst m g;by_cases M:d=j
  .have hg:=V M;subst M;have N:r=zq:=by rw[a.out];exact decide_eq_true ⟨D,G⟩
   subst N;rw[hg]at u1;clear t a D G V hg;go_region_held3 (fun w'=>w'.cell? ⟨z,0,zp⟩=zo (zd zj k)/\w'.cell? ⟨z,1,zp⟩=zo (zd zj kg)/\w'.cell? ⟨u,0,zp⟩=zo (zd zj d)/\w'.cell? ⟨u,1,zp⟩=zo (zd zj o)/\w'.cell? ⟨hb,0,zp⟩=zo (zd zj d)/\w'.cell? ⟨hb,1,zp⟩=zo (zd zj o)) (go_keep)
    (first|(go_at_call 65;refine(qw _).mono ?_;rintro e w4 ⟨rfl,rfl⟩))
   rename_i B;clear B;go_wp2;go_ret;refine⟨rfl,?_⟩;have hb:=J.out;exact yI (hb.alloc hb.size _)
  .have N:r=zt:=by rw[a.out];exact decide_eq_false (fun e=>M (G.symm.trans e.2))
   subst N;have h8:((d:Int) == (j:Int))=zt:=beq_eq_false_iff_ne.2 (by omega);clear t a D G V M;go_region_held3 (fun w'=>w'.cell? ⟨z,0,zp⟩=zo (zd zj k)/\w'.cell? ⟨z,1,zp⟩=zo (zd zj kg)/\w'.cell? ⟨u,0,zp⟩=zo (zd zj d)/\w'.cell? ⟨u,1,zp⟩=zo (zd zj Z.gen)/\w'.cell? ⟨hb,0,zp⟩=zo (zd zj j)/\w'.cell? ⟨hb,1,zp⟩=zo (zd zj o)) (go_keep)
    (first|(go_at_call 65;refine(qw _).mono ?_;rintro e w4 ⟨rfl,rfl⟩))
   rename_i B;clear B;go_wp2;go_ret;refine⟨rfl,?_⟩;have hb:=J.out;exact yI (hb.alloc hb.size _)
theorem EI(j:Nat)(A:Pl)(b:Nat)(w:zu)(base t p:Nat)(s:Ps)(h:PQ w base t p s)(U:s.Ok 32 b)(hb:b<=1000)(H:Tr s.l)(M:s.l[j]?=zo A)(D:A.used=zq):
 zw prog 124 #[ze (zo ⟨t,0,zp⟩),zg #[zd zj j,zd zj A.gen]] w fun e w'=>∃a c,e=zm (zf a (qV s.l (Yb s j A.gen)).length c)/\w'.ownsRow w.heap.size 78 2 (zf a (qV s.l (Yb s j A.gen)).length c) (qV s.l (Yb s j A.gen)).length (RK (qV s.l (Yb s j A.gen)))/\Below w.heap.size w w':=by
 have f:=yw (xJ j A b (w.alloc (yX j A.gen)) base t p s (h.alloc _) U hb M D);have X:Yb s j A.gen=fun k=>decide (k≠0/\TA s.l k=j):=by unfold Yb;rw[(uS M D).1]
 rw[X];have HS:=yw (fun(V:Nat) (W:zu) (Z:Below w.heap.size w W) (m:Hx W V j A.gen)=>UI V (fun k=>decide (k≠0/\TA s.l k=j)) b W base t p s (h.behind Z) U hb (fun n N k q d Y=>
  EH j A k V q b n s H d Y M D (m.behind N)))
 generalize qV s.l (fun k=>decide (k≠0/\TA s.l k=j))=L at HS ⊢;generalize A.gen=g at*;clear h U H M D X;go_enter func124,ntmps124;go_wp2_with fail;refine f.out.mono ?_;rintro e r ⟨rfl,E⟩;have B:Hid (Below w.heap.size w r):=yw (yC (yE w _) E (by simp));have G:=yw ((Hx.new w j g).behind E);clear E;obtain⟨z,T⟩:=yB w.heap.size
 rw[<-T]at G ⊢;have o:=yw T;clear T;go_wp2_with fail;refine(HS.out z _ (B.out.alloc B.out.size _) (G.out.alloc _)).mono ?_;rintro e w3 ⟨a,c,rfl,J,I⟩;have R:=yw J;have O:=yw (yC (B.out.alloc B.out.size _) I (by have:=B.out.size;simp;omega));clear J I;go_wp2;go_ret;exact⟨a,c,rfl,vV R.out (by have:=B.out.size;have:=o.out;simp;omega),O.out⟩
def Ps.bP(s:Ps)(i g:Int):Int:=match s.find i g with
 | none=>2
 | some k=>if k=0 then 1 else if(qV s.l (Yb s i g)).length=0 then 0 else 6
def Ps.dC(s:Ps)(i g:Int):Ps:=match s.find i g with
 | none=>s
 | some k=>if k=0 then s else if(qV s.l (Yb s i g)).length=0 then s.bB i g else s
theorem Sr(i g:Int)(w:zu)(tv:Option Addr)(D:∀W,Below w.heap.size w W->zw prog 64 #[ze tv,zg #[zd zj i,zd zj g]] W fun e w'=>e=zm (zi #[zg (yU .zero),zd zj 2])/\Below W.heap.size W w'):
 zw prog 76 #[ze tv,zg #[zd zj i,zd zj g]] w fun e w'=>e=zm (zd zj 2)/\Below w.heap.size w w':=by
 have G:=yw (D (w.alloc (yX i g)) (yE w _));clear D;go_enter func76,ntmps76;go_wp2_with fail;refine G.out.mono ?_;rintro e E ⟨rfl,A⟩;have B:Hid (Below w.heap.size w E):=yw (yC (yE w _) A (by simp));clear A;go_wp2;go_ret;exact⟨rfl,B.out.alloc B.out.size _⟩
theorem Oj(b:Nat)(w:zu)(base t p:Nat)(s:Ps)(h:PQ w base t p s)(R:s.Ok 32 b)(hb:b<=1000)(T:s.RS 0 0=0):
 zw prog 76 #[ze (zo ⟨t,0,zp⟩),zg #[zd zj 0,zd zj 0]] w fun e w'=>e=zm (zd zj 1)/\Below w.heap.size w w':=by
 have N:=yw (qT 0 0 b (w.alloc (yX 0 0)) base t p s (h.alloc _) R hb);rw[T]at N;generalize s.SJ 0 0=x at N ⊢;clear h R T;go_enter func76,ntmps76;go_wp2_with fail;refine N.out.mono ?_;rintro e I ⟨rfl,B⟩;go_upto_region 4 with(fail)
 have E:Below w.heap.size w I:=yC (yE w _) B (by simp);have G:Below w.heap.size w (I.alloc (xN x)):=E.alloc E.size _;have J:Hx (I.alloc (xN x)) w.heap.size 0 0:=((Hx.new w 0 0).behind B).alloc _;obtain⟨M,A⟩:=yB (I.alloc (xN x))
 obtain⟨z,O⟩:=yB w.heap.size
 rw[show I.alloc (zn #[zd zj x.ui,zd zj x.ug,zd zj x.dp] 130)=M from A.symm];rw[<-A]at G J;rw[<-O];rw[<-O]at J;have H:=yw G;obtain⟨z0,z1⟩:=J.c2;clear B E G A O J;go_region_held3 (fun w'=>w'.cell? ⟨z,0,zp⟩=zo (zd zj 0)/\w'.cell? ⟨z,1,zp⟩=zo (zd zj 0)) (go_keep)
  (first|(go_at_call 65;refine(qw _).mono ?_;rintro e w4 ⟨rfl,rfl⟩))
 rename_i D;clear D;go_wp2;go_ret;exact⟨rfl,yI (H.out.alloc H.out.size _)⟩
theorem Ol(k:Nat)(q:Pl)(b:Nat)(w:zu)(base t p:Nat)(s:Ps)(h:PQ w base t p s)(d:s.Ok 32 b)(hb:b<=1000)(f:Tr s.l)(hk:s.l[k]?=zo q)(J:q.used=zq)(h3:k≠0):
 zw prog 76 #[ze (zo ⟨t,0,zp⟩),zg #[zd zj k,zd zj q.gen]] w fun e w'=>e=zm (zd zj (if(qV s.l (Yb s k q.gen)).length=0 then 0 else 6))/\PQ w' base t p (if(qV s.l (Yb s k q.gen)).length=0 then s.bB k q.gen else s)/\OB base p w w':=by
 obtain⟨HC,HK,Q,V⟩:=Qf (xJ k q b (w.alloc (yX k q.gen)) base t p s (h.alloc _) d hb hk J) (fun(W:zu) (S:PQ W base t p s)=>EI k q b W base t p s S d hb f hk J) (fun(W:zu) (S:PQ W base t p s)=>cP k q.gen b W base p 32 s S.has d hb S.OS) h;obtain⟨s2,j⟩:=yB (s.bB k q.gen)
 rw[<-j]at Q ⊢;generalize s.SJ k q.gen=fv at Q;generalize s.RS k q.gen=fe at Q;have E:(qV s.l (Yb s k q.gen)).length<=1000:=by have h1:(qV s.l (Yb s k q.gen)).length<=(Yx s.l).length:=List.length_filter_le _ _;have:=Be s.l;have:=(d.lo hb).1;omega
 generalize qV s.l (Yb s k q.gen)=L at HK E ⊢;obtain⟨n,hn⟩:=yB L.length
 rw[<-hn]at HK E ⊢;have h9:((k:Int) == 0)=zt:=beq_eq_false_iff_ne.2 (by omega);generalize q.gen=g at*;generalize q.x=x at*;clear h d f hk J j h3 hn;go_enter func76,ntmps76;go_wp2_with fail;refine HC.out.mono ?_;rintro e K ⟨rfl,T⟩;go_upto_region 4 with(fail)
 have M:Below w.heap.size w K:=yC (yE w _) T (by simp);have O:Below w.heap.size w (K.alloc (xN x)):=M.alloc M.size _;have F:Hx (K.alloc (xN x)) w.heap.size k g:=((Hx.new w k g).behind T).alloc _;obtain⟨H,R⟩:=yB (K.alloc (xN x))
 obtain⟨z,P⟩:=yB w.heap.size
 rw[show K.alloc (zn #[zd zj x.ui,zd zj x.ug,zd zj x.dp] 130)=H from R.symm];rw[<-R]at O F;rw[<-P];rw[<-P]at F;obtain⟨r,HZ,h0⟩:=Qe O F P;obtain⟨m,u⟩:=F.c2;clear T M O R P F;go_region_held3 (fun w'=>w'.cell? ⟨z,0,zp⟩=zo (zd zj k)/\w'.cell? ⟨z,1,zp⟩=zo (zd zj g)) (go_keep)
  (first|(go_at_call 65;refine(qw _).mono ?_;rintro e w4 ⟨rfl,rfl⟩))
 rename_i A;clear A m u;obtain⟨w5,N⟩:=yB ((H.alloc (yX 0 0)).drew)
 have Y:Below H.heap.size H w5:=by rw[N];exact yI (yE _ _)
 rw[show(H.alloc (zn #[zd zj 0,zd zj 0] 78)).drew=w5 from N.symm];clear N;have v:=yw (HZ.out.behind Y);have X:=yw (yC r.out Y r.out.size);clear Y;obtain⟨m,u⟩:=v.out.c2;go_wp2_with fail;refine(HK.out _ (V.out.behind X.out)).mono ?_;rintro e Z ⟨a,c,rfl,h4,I⟩;have D:=yw (yC X.out I X.out.size);have C:=yw (v.out.behind I);clear h4 I m u;by_cases o:n=0
 .subst o;go_upto_region 8 with(fail)
  obtain⟨m,u⟩:=C.out.c2;have B:Hid (PQ Z.drew base t p s):=yw ((V.out.behind D.out).behind (yI (zU _ Z)));have tc:Z.cell? ⟨t,0,zp⟩=zo (ze (zo ⟨p,0,zp⟩)):=B.out.cell;have nz:z≠p:=by have:=V.out.has.lt;have:=h0.out;omega
  have h2:=yw (Q.out Z.drew B.out);have HS:=yw (fun(G:zu) (hs:OB base p Z.drew G)=>show(G.cell? ⟨t,0,zp⟩=zo (ze (zo ⟨p,0,zp⟩))/\G.cell? ⟨z,0,zp⟩=zo (zd zj k)/\G.cell? ⟨z,1,zp⟩=zo (zd zj g))from by have y:=Hx.step (w:=Z.drew) C.out.drew hs nz;have h7:G.heap[t]?=_:=hs.same B.out.tb B.out.ne (by decide);exact⟨by simp[zN,h7],y.c2.1,y.c2.2⟩);go_region_held3 (fun w'=>w'.cell? ⟨t,0,zp⟩=zo (ze (zo ⟨p,0,zp⟩))/\w'.cell? ⟨z,0,zp⟩=zo (zd zj k)/\w'.cell? ⟨z,1,zp⟩=zo (zd zj g))
   (first|exact⟨tc,m,u⟩|assumption)
   (first|(go_at_call 125;refine h2.out.mono ?_;rintro e G ⟨rfl,h5,U⟩;have h6:=HS.out G U))
  rename_i A;clear A h6;go_wp2;go_ret;exact⟨rfl,B.out.step U h5,(OB.NZ (yI D.out) V.out.OS).trans U V.out.has.lt⟩
 .have h8:0<n:=by omega
  clear o;go_wp2;go_ret;exact⟨rfl,V.out.behind D.out,OB.NZ D.out V.out.OS⟩
theorem Om(A:Tr s.l)(hk:s.l[k]?=zo q)(E:k=0):q.gen=0:=by subst E;obtain⟨q0,B,_,D,_⟩:=A.root;rw[hk]at B;cases B;exact D
theorem Ss(i g:Int)(b:Nat)(w:zu)(base t p:Nat)(s:Ps)(h:PQ w base t p s)(G:s.Ok 32 b)(hb:b<=1000)(D:Tr s.l):
 zw prog 76 #[ze (zo ⟨t,0,zp⟩),zg #[zd zj i,zd zj g]] w fun e w'=>e=zm (zd zj (s.bP i g))/\PQ w' base t p (s.dC i g)/\OB base p w w':=by
 unfold Ps.dC Ps.bP;cases hk:s.find i g with
 | none=>
  refine(Sr i g w _ (fun W N=>?_)).mono ?_
  .have:=qT i g b W base t p s (h.behind N) G hb;rwa[(qU hk).1,(qU hk).2]at this
  .rintro e w' ⟨rfl,I⟩;exact⟨rfl,h.behind I,OB.NZ I h.OS⟩
 | some k=>
  obtain⟨q,rfl,B,E,rfl,_,J⟩:=qc hk;by_cases A:k=0
  .have M:=Om D B A;subst A;simp only[if_true];rw[M]at J ⊢;exact(Oj b w base t p s h G hb J).mono fun e w' ⟨O,H⟩=>⟨O,h.behind H,OB.NZ H h.OS⟩
  .simp only[if_neg A];exact Ol k q b w base t p s h G hb D B E A
end Go.Proofs.YtmpdpmhpkgbepaaGreatDoor
namespace Go.Proofs.YtmpdpmhpkgbepaaGreatDoor
open Go
variable {l c:List Pl}{M:Nat->Pl->Pl}{S T:Nat->Bool}{q:Pl}{k:Nat}
def AH(hk pk:Nat)(A by_:Int)(k:Nat)(q:Pl):Pl:=⟨⟨if k=hk then pk else q.x.x,if k=hk then pk else q.x.ui,if k=hk then A else q.x.ug,q.x.dp+by_⟩,q.gen,q.used,q.next⟩
def Yc(l:List Pl)(M:Nat->Pl->Pl)(S:Nat->Bool)(c:List Pl):Prop:=∀k:Nat,c[k]?=(l[k]?).map (fun q=>if S k=zq then M k q else q)
def JG(l:List Pl)(M:Nat->Pl->Pl)(S:Nat->Bool):List Pl:=l.mapIdx (fun k q=>if S k=zq then M k q else q)
theorem Wq(l:List Pl)(M:Nat->Pl->Pl)(S:Nat->Bool):Yc l M S (JG l M S):=by intro k;unfold JG;rw[List.getElem?_mapIdx]
theorem Yc.eq{d:List Pl}(B:Yc l M S c)(A:Yc l M S d):c=d:=by apply List.ext_getElem?;intro k;rw[B k,A k]
theorem UL(l:List Pl)(M:Nat->Pl->Pl):Yc l M (fun _=>zt) l:=by intro k;simp
theorem Yc.step{j:Nat}(h:Yc l M S c)(D:l[j]?=zo q)(hS:S j=zt)(E:∀k,T k=(S k || decide (k=j))):Yc l M T (c.set j (M j q)):=by
 intro k;have A:=h j;rw[D]at A;by_cases hk:j=k
 .subst hk;have B:j<c.length:=by
   by_cases B:j<c.length
   .exact B
   .rw[List.getElem?_eq_none (by omega)]at A;simp at A
  rw[List.getElem?_set_self B,D,E];simp
 .rw[List.getElem?_set_ne hk,h k,E];have:decide (k=j)=zt:=decide_eq_false (fun e=>hk e.symm);rw[this,Bool.or_false]
theorem Yc.congr(h:Yc l M S c)(A:∀(k:Nat) (q:Pl),l[k]?=zo q->S k=T k):Yc l M T c:=by
 intro k;rw[h k];cases hq:l[k]? with
 | none=>rfl
 | some q=>rw[A k q hq]
def uq(l c:List Pl):Prop:=∀k:Nat,(c[k]?).map (fun q:Pl=>(q.gen,q.used,q.next))=(l[k]?).map (fun q:Pl=>(q.gen,q.used,q.next))
theorem Yc.alike(h:Yc l M S c)(D:∀k q,(M k q).gen=q.gen/\(M k q).used=q.used/\(M k q).next=q.next):uq l c:=by
 intro k;rw[h k];cases l[k]? with
 | none=>rfl
 | some q=>
  obtain⟨B,A,E⟩:=D k q;by_cases hs:S k=zq<;>simp[hs,B,A,E]
theorem uq.length(h:uq l c):c.length=l.length:=by
 have A:∀k:Nat,c[k]?=zp↔l[k]?=zp:=by intro k;have:=h k;cases hc:c[k]? <;> cases hl:l[k]? <;> simp[hc,hl]at this<;>simp
 have B:=(A l.length).2 (List.getElem?_eq_none (yA _));have D:=(A c.length).1 (List.getElem?_eq_none (yA _));have e3:=List.getElem?_eq_none_iff.1 B;have e4:=List.getElem?_eq_none_iff.1 D;omega
theorem uq.get(h:uq l c)(A:l[k]?=zo q):∃q',c[k]?=zo q'/\q'.gen=q.gen/\q'.used=q.used/\q'.next=q.next:=by
 have:=h k;rw[A]at this;cases hc:c[k]? with
 | none=>rw[hc]at this;simp at this
 | some q'=>rw[hc]at this;simp at this;exact⟨q',rfl,this.1,this.2.1,this.2.2⟩
theorem uq.symm(h:uq l c):uq c l:=fun k=>(h k).symm
theorem uq.chain(h:uq l c):∀(st:List Nat) (f:Int),qZ l f st->qZ c f st
 | [],_,hc=>hc
 | i::r,f,hc=>by obtain⟨rfl,q,E,D,G⟩:=hc;obtain⟨q',B,g2,H,A⟩:=h.get E;exact⟨rfl,q',B,by rw[H];exact D,by rw[A];exact h.chain r _ G⟩
theorem uq.OO{l c:List Pl}(h:uq l c):OO c=OO l:=by
 apply List.ext_getElem?;intro k;have:=h k;unfold Go.Proofs.YtmpdpmhpkgbepaaGreatDoor.OO;rw[zG,zG];cases hc:c[k]? <;> cases hl:l[k]? <;> simp[hc,hl]at this ⊢
 exact this.2.1
theorem Ps.Ok.alike{s:Ps}{room:Int}{b:Nat}(h:s.Ok room b)(A:uq s.l c):(⟨c,s.free,s.st,s.many⟩:Ps).Ok room b:=by
 have B:=A.length;refine⟨A.chain _ _ h.chain,h.nodup,by show c.length<=b;rw[B];exact h.len,h.fX,?_,by show s.many=(c.length:Int) -s.st.length;rw[B];exact h.many,by show(c.length:Int)<=room;rw[B];exact h.room,?_⟩
 .intro k q G;obtain⟨q',E,g2,_⟩:=A.symm.get G;rw[<-g2];exact h.TD k q' E
 .have e:c.countP (·.used)=s.l.countP (·.used):=by
   have D:(OO c).countP id=(OO s.l).countP id:=by rw[A.OO]
   unfold OO at D;rw[List.countP_map,List.countP_map]at D;exact D
  show(c.countP (·.used):Int)=s.many;rw[e];exact h.fY
def uJ(l:List Pl)(hk:Nat)(k:Nat):Bool:=(l.getD k gE).used && RI l k hk
theorem Ls{hk:Nat}(B:l[k]?=zo q)(A:q.used=zq):uJ l hk k=RI l k hk:=by unfold uJ;rw[xD B,A,Bool.true_and]
theorem Tr.AQ(h:Tr l){hk:Nat}(A:bM l k)(hb:RI l k hk=zq):dep l hk<=dep l k:=(IL h k A hk (of_decide_eq_true hb)).1
section
variable {l c : List Pl} {hk pk : Nat} {qh qp : Pl} {by_ : Int}
structure Oo(l:List Pl)(hk pk:Nat)(qh qp:Pl)(by_:Int):Prop where
 tr:Tr l
 hq:l[hk]?=zo qh
 hu:qh.used=zq
 pq:l[pk]?=zo qp
 pu:qp.used=zq
 h0:hk≠0
 loop:RI l pk hk=zt
 byq:by_=qp.x.dp+1-qh.x.dp
 deep:∀(k:Nat) (q:Pl),l[k]?=zo q->q.used=zq->RI l k hk=zq->q.x.dp+by_<=8
theorem Jr(hk pk:Nat)(A b:Int):∀k q,(AH hk pk A b k q).gen=q.gen/\(AH hk pk A b k q).used=q.used/\(AH hk pk A b k q).next=q.next:=fun _ _=>⟨rfl,rfl,rfl⟩
theorem Oo.get(h:Oo l hk pk qh qp by_)(B:Yc l (AH hk pk qp.gen by_) (uJ l hk) c)(A:l[k]?=zo q)(D:q.used=zq):c[k]?=zo (if RI l k hk=zq then AH hk pk qp.gen by_ k q else q):=by rw[B k,A,Option.map_some,Ls A D]
theorem Oo.gU(h:Oo l hk pk qh qp by_)(T:Yc l (AH hk pk qp.gen by_) (uJ l hk) c):Tr c:=by
 have A:=h.tr;refine⟨?_,?_⟩
 .obtain⟨q,D,I,r⟩:=A.root;refine⟨q,?_,I,r⟩;rw[h.get T D I,vA,decide_eq_false h.h0];rfl
 .intro k q' Y b E;have n:=T.alike (Jr hk pk qp.gen by_);obtain⟨q,D,g1,g2,g3⟩:=n.symm.get Y;have I:q.used=zq:=by rw[g2];exact b
  have o:bM l k:=⟨q,D,I⟩
  have e:=h.get T D I;rw[Y]at e;obtain⟨d,g,H,B,V,h7,Z,h4⟩:=A.eI D I E;obtain⟨_,_,_,_,hx,X,a⟩:=A.fW k q D I E;obtain⟨j,pj,U,h8,J,_⟩:=A.fW k q D I E;have f:j=d:=by rw[J]at V;have:(j:Int)=d:=V;omega
  subst f;rw[H]at U;cases U;have h6:=A.dp D I;by_cases hs:RI l k hk=zq
  .rw[if_pos hs]at e;have N:q'=AH hk pk qp.gen by_ k q:=Option.some.inj e;have G:=h.deep k q D I hs;by_cases R:k=hk
   .subst R;rw[h.hq]at D;cases D;have O:=h.get T h.pq h.pu;rw[h.loop]at O;have m:=A.dp h.pq h.pu;have bX:=h.byq;refine⟨pk,qp,O,h.pu,?_,?_,?_⟩
    .rw[N];simp only[AH,if_true];rw[bX];congr 1;omega
    .rw[N];show 1<=qh.x.dp+by_;omega
    .rw[N];exact G
   .have M:RI l j hk=zq:=by rw[SC A o E,decide_eq_false (fun e=>R e.symm),Bool.false_or,Z]at hs;exact hs
    have O:=h.get T H B;rw[if_pos M]at O;have m:=A.dp H B;have h5:=A.dp h.hq h.hu;have h3:=A.dp h.pq h.pu;have h1:=A.AQ ⟨_,H,B⟩ M;have bX:=h.byq;refine⟨j,_,O,B,?_,?_,?_⟩
    .rw[N,show(AH hk pk qp.gen by_ k q).x=⟨q.x.x,q.x.ui,q.x.ug,q.x.dp+by_⟩by simp only[AH,if_neg R]];rw[J];show(⟨_,_,_,_⟩:SZ)=⟨_,_,_,(AH hk pk qp.gen by_ j g).x.dp+1⟩
     simp only[AH]
     congr 1
     omega
    .rw[N];show 1<=q.x.dp+by_;rw[J];show 1<=g.x.dp+1+by_;omega
    .rw[N];exact G
  .rw[if_neg hs]at e;have N:q'=q:=Option.some.inj e;subst N;have M:¬RI l j hk=zq:=by intro p;apply hs;rw[SC A o E,Z,p,Bool.or_true]
   have O:=h.get T H B;rw[if_neg M]at O;exact⟨j,g,O,B,J,X,a⟩
theorem Oo.gV(h:Oo l hk pk qh qp by_)(E:Yc l (AH hk pk qp.gen by_) (uJ l hk) c)(B:l[k]?=zo q)(D:q.used=zq)(A:k≠hk):TA c k=TA l k:=by
 unfold TA;rw[xD B,xD (h.get E B D)];by_cases hs:RI l k hk=zq
 .rw[if_pos hs];simp only[AH,if_neg A]
 .rw[if_neg hs]
end
end Go.Proofs.YtmpdpmhpkgbepaaGreatDoor
