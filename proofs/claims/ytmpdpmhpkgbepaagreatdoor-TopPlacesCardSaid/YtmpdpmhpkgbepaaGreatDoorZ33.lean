/- Parts for TopPlaces. Conditions: as stated. -/
import Derived.Deep.RegionLaw
import Derived.Test.YtmpdpmhpkgbepaaGreatDoorZ31
set_option linter.unusedVariables false
set_option maxRecDepth 100000
set_option maxHeartbeats 4000000
open Go.Value renaming int->zd,pointer->ze,slice->zf
open Go.IntKind renaming i64->zj,u64->zk,signed->yq
open Go.Ending renaming returned->zm
open Go.Obj renaming cells->zn
open Option renaming some->zo,none->zp,map_some->zA
open Bool renaming true->zq,false->zt
open Go renaming World->zu,Calls->zw,Value->zz
open Option.some renaming inj->zx,injEq->ya
open List renaming getElem?_eq_getElem->zy,getElem?_set_ne->zC,length_set->zD,length_append->zE,getD_eq_getElem?_getD->zH,getElem_toArray->zS,getElem?_set_self->zT,getElem?_append_right->zV,mem_of_getElem?->zW,setIfInBounds_toArray->yd,range->yi,getElem_cons_zero->yp
open Go.World renaming cell?->zN,block_lt_of_cell?->zP,frozen?->zY
open And renaming intro->zQ
open Go.Proofs.Tryz
namespace Go.Proofs.YtmpdpmhpkgbepaaGreatDoor
open Go Go.RowKit Go.ChangeShapes Go.WideShapes
variable {S:Sc}{b p g:Nat}{x:Gp}
attribute [local go_sem ↓] Go.wp_at_zero Go.wp_at_succ
def Sc.AO(S:Sc)(g:Nat):Bool:=S.ts.any fun t=>!t.dead && decide (t.OG=g)
def Sc.AD(S:Sc)(g:Nat):Bool:=S.ts.any fun t=>t.on && S.sub t.OG g
def Sc.OJ(S:Sc)(g:Nat):Sc:=
 { S with
  tree:=S.tree.dC (S.g g).hi (S.g g).hg
  gs:=S.gs.set g { S.g g with there:=zt }
  pl:=OV S.pl (S.g g).hi zp
  hs:=fun p=>if p<S.ps then(S.hs p).unlink (S.g g).hi else S.hs p }
def Sc.drop(S:Sc)(e:Ev):Out:=match S.grp? e.a with
 | none=>(S,0,2)
 | some g=>if S.AO g=zq then(S,0,6)else if S.tree.bP (S.g g).hi (S.g g).hg≠0 then(S,0,S.tree.bP (S.g g).hi (S.g g).hg)else(S.OJ g,0,0)
def Sc.shift(S:Sc)(g u:Nat):Sc:=
 { S with
  tree:=S.tree.dD (S.g g).hi (S.g g).hg (S.g u).hi (S.g u).hg
  hs:=fun p=>if p<S.ps then(S.hs p).mv S.tree.l (S.g g).hi (S.g u).hi (uK S.tree.l (S.g g).hi (S.g u).hi)else S.hs p }
def Sc.move(S:Sc)(e:Ev):Out:=match S.grp? e.a,S.grp? e.b with
 | some g,zo u=>if S.AD g=zq then(S,0,6)else if S.tree.bQ (S.g g).hi (S.g g).hg (S.g u).hi (S.g u).hg≠0 then(S,0,S.tree.bQ (S.g g).hi (S.g g).hg (S.g u).hi (S.g u).hg)else(S.shift g u,0,0)
 | _,_=>(S,0,2)
theorem Sc.Ok.onl(A:S.Ok b)(B:p<S.ps):(S.hs p).On S.tree.l:=
 ⟨A.tr,A.hu p B,fun i x M=>by have E:=A.hk p B i;rw[M]at E;obtain⟨n,N⟩:=Option.isSome_iff_exists.1 E.symm;obtain⟨g,I,G,J⟩:=A.pl i n N;obtain⟨⟨q,D,H,_⟩,_⟩:=A.gk n g I G;rw[J]at D;exact⟨q,D,H⟩⟩
theorem Sc.Ok.gQ(B:S.Ok b)(N:p<S.ps)(O:S.gs[g]?=zo x)(M:x.there=zq){k:Nat}(h:(S.hs p).even x.hi k):∃(n:Nat) (t:Tk),S.ts[n]?=zo t/\t.on=zq/\t.OG=g:=by obtain⟨n,t,z,J,I,_,H,D,_⟩:=(B.ev p N x.hi k).1 h;obtain⟨z',A,E⟩:=(B.on J I).OG;rw[H]at A;obtain rfl:=zx A;have G:=(B.gk _ z H E).2;rw[D,(B.gk g x O M).2]at G;exact⟨n,t,J,I,(zx G).symm⟩
theorem Sc.Ok.fR(A:S.Ok b)(D:p<S.ps)(G:S.gs[g]?=zo x)(E:x.there=zq):∃z,(S.hs p).gs x.hi=zo z:=by have B:=A.hk p D x.hi;rw[(A.gk g x G E).2]at B;exact Option.isSome_iff_exists.1 B
structure Sc.eX(S:Sc)(g:Nat)(x:Gp):Prop where
 gx:S.gs[g]?=zo x
 there:x.there=zq
 h0:x.hi≠0
 n0:g≠0
 pl:S.pl x.hi=zo g
 tree:∃q:Pl,(S.tree.dC x.hi x.hg).l=S.tree.l.set x.hi q/\q.used=zt
 live:∀(n:Nat) (t:Tk),S.ts[n]?=zo t->t.dead=zt->t.OG≠g
 fW:∀j,bM S.tree.l j->j≠0->TA S.tree.l j≠x.hi
theorem Sc.Ok.bare(J:S.Ok b)(E:S.gs[g]?=zo x)(H:x.there=zq)(hb:S.AO g=zt)(B:S.tree.bP x.hi x.hg=0):S.eX g x:=by
 have A:=J.find E H;have G:=(J.gk g x E H).2;unfold Ps.bP at B;rw[A]at B;simp only at B;have D:x.hi≠0:=fun h=>by rw[if_pos h]at B;cases B
 rw[if_neg D]at B;have hk:(qV S.tree.l (Yb S.tree x.hi x.hg)).length=0:=Classical.byContradiction fun h=>by rw[if_neg h]at B;cases B
 refine⟨E,H,D,?_,G,?_,?_,?_⟩
 .rintro rfl;obtain⟨y,M,I,_⟩:=J.g0;rw[E]at M;obtain rfl:=zx M;exact D I
 .unfold Ps.dC;rw[A];simp only;rw[if_neg D,if_pos hk];unfold Ps.bB;rw[A];exact⟨_,rfl,rfl⟩
 .intro n t U hd O;unfold Sc.AO at hb;rw[List.any_eq_false]at hb;exact hb t (zW U) (by rw[hd,O];simp)
 .rintro j ⟨q,R,T⟩ V X;have N:(j,q.gen)∈qV S.tree.l (Yb S.tree x.hi x.hg):=by refine Bf.2 ⟨⟨q,R,T,rfl⟩,?_⟩;unfold Yb;rw[A];exact decide_eq_true ⟨V,X⟩
  rw[List.eq_nil_of_length_eq_zero hk]at N;simp at N
theorem Sc.eX.SX(B:S.eX g x)(E:S.Ok b)(H:p<S.ps)(hk:(S.hs p).Ok):∃z,(S.hs p).gs x.hi=zo z/\z.q.l= []/\z.on=zt/\∀c y,(S.hs p).gs c=zo y->y.up≠x.hi:=by
 obtain⟨z,D⟩:=E.fR H B.gx B.there;have M:=E.onl H;have A:∀c y,(S.hs p).gs c=zo y->y.up≠x.hi:=fun c y G he=>by
  by_cases J:c=0
  .subst J;obtain⟨r,O,R,_⟩:=hk.root;rw[G]at O;obtain rfl:=zx O;omega
  .have:=(M.up c y G J).1;exact B.fW c (M.cB c y G) J (by omega)
 have V:=hk.q _ z D;have N:z.q.l= []:=ZJ fun i I=>by
  obtain⟨k,rfl|rfl⟩:=Mw V.1 I
  .obtain⟨n,t,T,X,U⟩:=E.gQ H B.gx B.there (k:=k) ⟨z,D,I⟩;exact B.live n t T (E.dead n t T X) U
  .obtain⟨y,G,R⟩:=hk.eJ _ z k D I;exact A k y G R
 exact⟨z,D,N,GQ (E.hf p H) B.h0 D N,A⟩
theorem Sc.eX.fit(B:S.eX g x)(h:S.Fit b)(hb:b<900):(S.OJ g).Fit (b+1):=by
 obtain⟨E,K⟩:=h;have J:=E.more hb;obtain⟨q',V,r⟩:=B.tree;have s:=E.tr.dC (x.hi:Int) x.hg;have c:=E.tok.dC (x.hi:Int) x.hg;have P:=(yy B.gx).1;have F:S.OJ g={ S with tree:=S.tree.dC x.hi x.hg,gs:=S.gs.set g { x with there:=zt },pl:=OV S.pl x.hi zp,hs:=fun p=>if p<S.ps then(S.hs p).unlink x.hi else S.hs p }:=by unfold Sc.OJ;rw[Sc.PE B.gx]
 obtain⟨T,hT⟩:=yB (S.tree.dC x.hi x.hg)
 rw[F];rw[<-hT]at s c V ⊢;have Z:∀(n:Nat) (z:Gp),(S.gs.set g { x with there:=zt })[n]?=zo z->z.there=zq->n≠g/\S.gs[n]?=zo z:=fun n z D N=>by
  by_cases e:g=n
  .subst e;rw[zT P]at D;obtain rfl:=zx D;cases N
  .rw[zC e]at D;exact⟨Ne.symm e,D⟩
 have I:∀(n:Nat) (z:Gp),S.gs[n]?=zo z->n≠g->(S.gs.set g { x with there:=zt })[n]?=zo z:=fun n z D e=>by rw[zC (Ne.symm e)];exact D
 have j:∀(n:Nat) (z:Gp),S.gs[n]?=zo z->z.there=zq->n≠g->z.hi≠x.hi:=fun n z D G W e=>by have:=(E.gk n z D G).2;rw[e,B.pl]at this;exact W (zx this).symm
 have H:∀i,i≠x.hi->T.l[i]?=S.tree.l[i]?:=fun i hi=>by rw[V,zC (Ne.symm hi)]
 refine⟨⟨J.RY,E.ps,E.tick,E.credit,E.lat,s,c,J.dA,J.tl,?_,?_,?_,?_,?_,?_,?_,E.dead,?_,?_,?_,?_,?_,J.ck,J.bk⟩,?_⟩
 .show 1<=(S.gs.set g _).length/\(S.gs.set g _).length<=b+1+1;have:=E.gl;rw[zD];omega
 .obtain⟨y,hy,q⟩:=E.g0;exact⟨y,I 0 y hy (Ne.symm B.n0),q⟩
 .intro n z D G;obtain⟨W,D⟩:=Z n z D G;obtain⟨⟨u,U,M,L⟩,h4⟩:=E.gk n z D G;have d:=j n z D G W;exact⟨⟨u,(H _ d).trans U,M,L⟩,(yQ _ _ d).trans h4⟩
 .intro i m hm;have R:OV S.pl x.hi zp i=zo m:=hm;by_cases e:i=x.hi
  .subst e;rw[yR]at R;cases R
  .rw[yQ _ _ e]at R;obtain⟨z,D,U,M⟩:=E.pl i m R;refine⟨z,I m z D ?_,U,M⟩;rintro rfl;rw[B.gx]at D;obtain rfl:=zx D;exact e M.symm
 .intro i u U M;show ∃m,OV S.pl x.hi zp i=zo m;have X:T.l[i]?=zo u:=U;by_cases e:i=x.hi
  .subst e;have Q:x.hi<S.tree.l.length:=by have:=(yy X).1;rw[V,zD]at this;exact this
   rw[V,zT Q]at X;obtain rfl:=zx X;rw[r]at M;cases M
  .rw[yQ _ _ e];exact E.gu i u ((H i e).symm.trans X) M
 .intro n z D G v;obtain⟨U,M,L⟩:=J.gx n z (Z n z D G).2 G v;exact⟨U,M,L⟩
 .intro n t N hd;have h:=E.tk n t N hd;obtain⟨z,D,G⟩:=h.OG;exact⟨⟨z,I _ z D (B.live n t N hd),G⟩,h.pool,h.hi,h.at_,h.TC,h.wt,h.mask,h.e,h.nice,h.min⟩
 .intro p O i;have A:p<S.ps:=O;show((if p<S.ps then(S.hs p).unlink x.hi else S.hs p).gs i).isSome=(OV S.pl x.hi zp i).isSome;rw[if_pos A];by_cases e:i=x.hi
  .subst e;rw[Wa,yR];rfl
  .rw[qL _ e,yQ _ _ e];exact E.hk p A i
 .intro p O i z D v;have A:p<S.ps:=O;have Y:(if p<S.ps then(S.hs p).unlink x.hi else S.hs p).gs i=zo z:=D;rw[if_pos A]at Y;obtain⟨e,Y⟩:=xU Y;obtain⟨U,M⟩:=E.hu p A i z Y v;obtain⟨e1,e2⟩:=FP (H i e);exact⟨by rw[e1];exact U,by rw[e2];exact M⟩
 .intro p O;have A:p<S.ps:=O;show(if p<S.ps then(S.hs p).unlink x.hi else S.hs p).credit=S.credit;rw[if_pos A];exact E.hc p A
 .intro p O;have A:p<S.ps:=O;show(if p<S.ps then(S.hs p).unlink x.hi else S.hs p).PD;rw[if_pos A];exact ZI (E.hf p A) _
 .intro p O i k;have A:p<S.ps:=O;obtain⟨z,D,C,_⟩:=B.SX E A (K p A);show(if p<S.ps then(S.hs p).unlink x.hi else S.hs p).even i k↔∃(n:Nat) (t:Tk) (g_1:Gp),S.ts[n]?=zo t/\t.on=zq/\t.p=p/\(S.gs.set g { x with there:=zt })[t.OG]?=zo g_1/\g_1.hi=i/\t.hi=k;rw[if_pos A,ZK D C,E.ev p A i k];constructor
  .rintro⟨m,t,z,N,o,a,D,q⟩;exact⟨m,t,z,N,o,a,I _ z D (B.live m t N (E.dead m t N o)),q⟩
  .rintro⟨m,t,z,N,o,a,D,q⟩;rw[zC (Ne.symm (B.live m t N (E.dead m t N o)))]at D;exact⟨m,t,z,N,o,a,D,q⟩
 .intro p O;have A:p<S.ps:=O;obtain⟨z,D,_,h5,f⟩:=B.SX E A (K p A);show(if p<S.ps then(S.hs p).unlink x.hi else S.hs p).Ok;rw[if_pos A];exact Mv (K p A) B.h0 D h5 f
theorem Db(h:S.Fit b)(hb:b<900)(e:Ev):(S.drop e).1.Fit (b+1):=by
 unfold Sc.drop;cases hg:S.grp? e.a with
 | none=>exact h.more hb
 | some g=>
  obtain⟨ha,x,G,B,D⟩:=xm hg;simp only;split
  .exact h.more hb
  .rename_i A;rw[D];split
   .exact h.more hb
   .rename_i E;exact(h.1.bare G B (by simpa using A) (Decidable.not_not.1 E)).fit h hb
structure Sc.fS(S:Sc)(g u:Nat)(x y:Gp)(qh qp:Pl):Prop where
 gx:S.gs[g]?=zo x
 gy:S.gs[u]?=zo y
 mv:Oo S.tree.l x.hi y.hi qh qp (uK S.tree.l x.hi y.hi)
 tree:S.tree.dD x.hi x.hg y.hi y.hg=⟨mvL S.tree.l x.hi y.hi qp.gen (uK S.tree.l x.hi y.hi),S.tree.free,S.tree.st,S.tree.many⟩
 hs:∀p,p<S.ps->(S.hs p).Ok->∃xr yr,(S.hs p).cY S.tree.l x.hi y.hi xr yr (uK S.tree.l x.hi y.hi)
theorem Sc.Ok.bW(I:S.Ok b)(H:p<S.ps)(hk:(S.hs p).Ok)(X:S.gs[g]?=zo x)(Y:x.hi≠0)(hb:S.AD g=zt):∀(n:Nat) (k:Nat) (z:Gr),(S.hs p).gs k=zo z->RI S.tree.l k x.hi=zq->8-z.deep<n->z.q.l= []
 | 0,k,z,hz,hu,hn=>absurd (hk.deep k z hz).2 (by omega)
 | n+1,k,z,hz,hu,hn=>ZJ fun i J=>by
  have U:=I.onl H;obtain⟨c,rfl|rfl⟩:=Mw (hk.q k z hz).1 J
  .obtain⟨m,t,z',d,a,_,T,N,_⟩:=(I.ev p H k c).1 ⟨z,hz,J⟩;unfold Sc.AD at hb;rw[List.any_eq_false]at hb;refine hb t (zW d) ?_;unfold Sc.sub;rw[Sc.PE T,Sc.PE X,N,a,hu];rfl
  .obtain⟨y,D,R⟩:=hk.eJ k z c hz J;have B:=(hk.on k z c y hz D R).1 J;have A:c≠0:=by rintro rfl;obtain⟨r,V,h2,_⟩:=hk.root;rw[D]at V;obtain rfl:=zx V;omega
   have h1:=(U.up c y D A).1;have O:TA S.tree.l c=k:=by omega
   have G:=U.SC D A x.hi;rw[O,hu,Bool.or_true]at G;obtain⟨v,yv,hv,E,hd⟩:=hk.up c y D A;have M:v=k:=by omega
   subst M;rw[hz]at E;obtain rfl:=zx E;have Z:=I.bW H hk X Y hb n c y D G (by omega);rw[I.hf p H c y D A]at B;unfold Gr.OQ at B;rw[Z]at B;simp at B
theorem Sc.Ok.gZ(A:S.Ok b){u:Nat}{y:Gp}(J:S.gs[g]?=zo x)(H:x.there=zq)(U:S.gs[u]?=zo y)(G:y.there=zq)(hb:S.AD g=zt)(B:S.tree.bQ x.hi x.hg y.hi y.hg=0):∃qh qp,S.fS g u x y qh qp:=by
 obtain⟨⟨qh,j,c,h3⟩,_⟩:=A.gk g x J H;obtain⟨⟨qp,m,d,s⟩,_⟩:=A.gk u y U G;unfold Ps.bQ at B;rw[A.find J H,A.find U G]at B;simp only at B;have I:x.hi≠0:=fun h=>by rw[if_pos h]at B;cases B
 rw[if_neg I]at B;have V:¬RI S.tree.l y.hi x.hi=zq:=fun h=>by rw[if_pos h]at B;cases B
 rw[if_neg V]at B;have hd:¬vE S.tree.l x.hi (uK S.tree.l x.hi y.hi)=zq:=fun h=>by rw[if_pos h]at B;cases B
 have X:=JH A.tr j c m d I (by simpa using V) (by simpa using hd);refine⟨qh,qp,J,U,X,?_,?_⟩
 .unfold Ps.dD;rw[A.find J H,A.find U G];simp only;rw[if_neg I,if_neg V,if_neg hd,s]
 .intro p T hk;have O:=A.onl T;obtain⟨o,N⟩:=A.fR T J H;obtain⟨Z,E⟩:=A.fR T U G;have e1:=(O.up _ o N I).2;have e2:Z.deep=dep S.tree.l y.hi:=by
   by_cases h:y.hi=0
   .obtain⟨r,n,_,a⟩:=hk.root;rw[h]at E ⊢;rw[E]at n;obtain rfl:=zx n;rw[a,(A.tr.bZ A.tr.gF).2.2 rfl];rfl
   .exact(O.up _ Z E h).2
  have d1:=A.tr.dp j c;have d2:=A.tr.dp m d;refine⟨o,Z,hk,A.hf p T,O,I,N,E,by simpa using V,?_,?_,?_⟩
  .rw[X.byq];omega
  .intro k z R D;obtain⟨q,f,M⟩:=O.cB k z R;have Y:k≠0:=by rintro rfl;rw[vA]at D;exact I (of_decide_eq_true D)
   have:=X.deep k q f M D;have d3:=A.tr.dp f M;have:=(O.up k z R Y).2;omega
  .intro k z R D;have:=(hk.deep k z R).1;exact A.bW T hk J I hb 9 k z R D (by omega)
theorem Sc.fS.fit{u:Nat}{y:Gp}{qh qp:Pl}(M:S.fS g u x y qh qp)(h:S.Fit b)(hb:b<900):(S.shift g u).Fit (b+1):=by
 obtain⟨B,m⟩:=h;have D:=B.more hb;have R:=B.tr.dD (x.hi:Int) x.hg (y.hi:Int) y.hg;have V:=B.tok.dD (x.hi:Int) x.hg (y.hi:Int) y.hg;have H:=Wq S.tree.l (AH x.hi y.hi qp.gen (uK S.tree.l x.hi y.hi)) (uJ S.tree.l x.hi);have I:=H.alike (Jr x.hi y.hi qp.gen (uK S.tree.l x.hi y.hi));have Z:S.shift g u={ S with tree:=S.tree.dD x.hi x.hg y.hi y.hg,hs:=fun p=>if p<S.ps then(S.hs p).mv S.tree.l x.hi y.hi (uK S.tree.l x.hi y.hi)else S.hs p }:=by unfold Sc.shift;rw[Sc.PE M.gx,Sc.PE M.gy]
 obtain⟨T,o⟩:=yB (S.tree.dD x.hi x.hg y.hi y.hg)
 have Y:T.l=JG S.tree.l (AH x.hi y.hi qp.gen (uK S.tree.l x.hi y.hi)) (uJ S.tree.l x.hi):=by rw[o,M.tree];rfl
 rw[Z];rw[<-o]at R V ⊢;rw[<-Y]at I H;refine⟨⟨D.RY,B.ps,B.tick,B.credit,B.lat,R,V,D.dA,D.tl,D.gl,B.g0,?_,B.pl,?_,?_,?_,B.dead,?_,?_,?_,?_,?_,D.ck,D.bk⟩,?_⟩
 .intro n z O G;obtain⟨⟨s,N,J,c⟩,r⟩:=B.gk n z O G;obtain⟨f,a,g2,j,_⟩:=I.get N;exact⟨⟨f,a,by rw[j];exact J,by rw[g2];exact c⟩,r⟩
 .intro i s N J;obtain⟨f,a,_,j,_⟩:=I.symm.get N;exact B.gu i f a (by rw[j];exact J)
 .intro n z O G X;obtain⟨N,J,c⟩:=D.gx n z O G X;exact⟨N,J,c⟩
 .intro n t q hd;have h:=B.tk n t q hd;exact⟨h.OG,h.pool,h.hi,h.at_,h.TC,h.wt,h.mask,h.e,h.nice,h.min⟩
 .intro p E i;have A:p<S.ps:=E;show((if p<S.ps then(S.hs p).mv S.tree.l x.hi y.hi (uK S.tree.l x.hi y.hi)else S.hs p).gs i).isSome=(S.pl i).isSome;rw[if_pos A,<-B.hk p A i];show(((S.hs p).gs i).map _).isSome=_;simp
 .intro p E i z O X;have A:p<S.ps:=E;have U:(if p<S.ps then(S.hs p).mv S.tree.l x.hi y.hi (uK S.tree.l x.hi y.hi)else S.hs p).gs i=zo z:=O;rw[if_pos A]at U;obtain⟨v,C,d⟩:=M.hs p A (m p A);exact(d.on M.mv H rfl).up i z U X
 .intro p E;have A:p<S.ps:=E;show(if p<S.ps then(S.hs p).mv S.tree.l x.hi y.hi (uK S.tree.l x.hi y.hi)else S.hs p).credit=S.credit;rw[if_pos A];exact B.hc p A
 .intro p E;have A:p<S.ps:=E;show(if p<S.ps then(S.hs p).mv S.tree.l x.hi y.hi (uK S.tree.l x.hi y.hi)else S.hs p).PD;rw[if_pos A];exact LX (B.hf p A) _ _ _ _
 .intro p E i k;have A:p<S.ps:=E;show(if p<S.ps then(S.hs p).mv S.tree.l x.hi y.hi (uK S.tree.l x.hi y.hi)else S.hs p).even i k↔_;rw[if_pos A,LY];exact B.ev p A i k
 .intro p E;have A:p<S.ps:=E;obtain⟨v,C,d⟩:=M.hs p A (m p A);show(if p<S.ps then(S.hs p).mv S.tree.l x.hi y.hi (uK S.tree.l x.hi y.hi)else S.hs p).Ok;rw[if_pos A];exact d.ok
theorem Dc(h:S.Fit b)(hb:b<900)(e:Ev):(S.move e).1.Fit (b+1):=by
 unfold Sc.move;cases hg:S.grp? e.a with
 | none=>exact h.more hb
 | some g=>
  cases hu:S.grp? e.b with
  | none=>exact h.more hb
  | some u=>
   obtain⟨ha,x,J,B,D⟩:=xm hg;obtain⟨h0,y,I,E,G⟩:=xm hu;simp only;split
   .exact h.more hb
   .rename_i A;rw[D,G];split
    .exact h.more hb
    .rename_i H;obtain⟨qh,qp,M⟩:=h.1.gZ J B I E (by simpa using A) (Decidable.not_not.1 H);exact M.fit h hb
end Go.Proofs.YtmpdpmhpkgbepaaGreatDoor
namespace Go.Proofs.YtmpdpmhpkgbepaaGreatDoor
open Go
variable {S:Sc}{b n:Nat}{t:Tk}{D M:Sc->Ev->Out->Prop}{e:Ev}
theorem Vf{l:List Int}{mask:Int}:∀{k b:Nat},qy l mask k=zo b->qN mask b=zq/\∀j,j<k->qN mask j=zq->l.getD b 0<=l.getD j 0
 | 0,b,h=>by cases h
 | k+1,b,h=>by
  unfold qy at h;split at h
  .rename_i I;split at h
   .rename_i hb;obtain rfl:=zx h;refine⟨hb,fun j D A=>?_⟩;by_cases e:j=k
    .subst e;exact Int.le_refl _
    .exact absurd I (leastN_has (by omega) A)
   .cases h
  .rename_i c H;obtain⟨G,E⟩:=Vf H;split at h
   .rename_i hb;obtain rfl:=zx h;refine⟨hb.1,fun j D A=>?_⟩;by_cases e:j=k
    .subst e;exact Int.le_refl _
    .have:=E j (by omega) A;omega
   .rename_i hb;obtain rfl:=zx h;refine⟨G,fun j D A=>?_⟩;by_cases e:j=k
    .subst e;by_cases B:l.getD j 0<l.getD c 0
     .exact absurd ⟨A,B⟩ hb
     .omega
    .exact E j (by omega) A
 where
  leastN_has {l : List Int} {mask : Int} : ∀ {k j : Nat}, j < k -> qN mask j = zq -> qy l mask k ≠ zp
  | 0, j, hj, _ => absurd hj (by omega)
  | k + 1, j, hj, hb => by
    unfold qy
    split
    · rename_i A
      by_cases e : j = k
      · subst e; rw [if_pos hb]; simp
      · exact absurd A (leastN_has (by omega) hb)
    · split<;>simp
theorem YM{l:List Int}{G:List Bool}{D mask:Int}{p:Nat}(T:∀x∈l,0<=x)(h:xR l G D mask=zo p):p<l.length/\qN mask p=zq/\∃b,vw l mask=zo b/\b<l.length/\l.getD p 0=l.getD b 0:=by
 have A:=Uz h;have I:∀j,j<l.length->0<=l.getD j 0:=fun j O=>by rw[zH,zy O];exact T _ (List.getElem_mem O)
 unfold xR at h;cases hl:vw l mask with
 | none=>rw[hl]at h;cases h
 | some b=>
  rw[hl]at h;obtain⟨U,N⟩:=Vf hl;have B:=Xr hl;have idle:∀q:Int,q.toNat=p->qF l G mask q=zq->qN mask p=zq/\l.getD p 0=l.getD b 0:=fun q J E=>by
   unfold qF at E;simp at E;rw[J]at E;have h3:=N p A E.2.1;have h4:=I b B;have h5:l.getD p 0=0:=by rw[zH];exact E.2.2.1
   exact⟨E.2.1,by omega⟩
  simp only at h;split at h
  .rename_i E;obtain rfl:=zx h;obtain⟨H,M⟩:=idle D rfl E;exact⟨A,H,b,rfl,B,M⟩
  .split at h
   .rename_i q J;obtain rfl:=zx h;obtain⟨H,M⟩:=idle (q:Int) (Int.toNat_natCast q) (by have:=List.find?_some J;simpa using this);exact⟨A,H,b,rfl,B,M⟩
   .split at h
    .rename_i R;obtain rfl:=zx h;have:=N D.toNat A R.2.2.1;exact⟨A,R.2.2.1,b,rfl,B,by omega⟩
    .obtain rfl:=zx h;exact⟨A,U,b,rfl,B,rfl⟩
theorem ZL{l:List Int}{B:List Bool}{A mask:Int}{q:Nat}(D:q<l.length)(hb:qN mask q=zq):xR l B A mask≠zp:=by
 unfold xR;cases hl:vw l mask with
 | none=>exact absurd hl (Vf.leastN_has D hb)
 | some b=>
  simp only;split
  .simp
  .split
   .simp
   .split<;>simp
theorem Sc.Ok.bI(D:S.Ok b){A mask:Int}{p:Nat}(h:S.free A mask=zo p):p<S.ps/\qN mask p=zq/\∃q,vw S.OZ mask=zo q/\q<S.ps/\S.OZ.getD p 0=S.OZ.getD q 0:=by have B:=D.OZ.2;have:=YM (fun x E=>(D.OZ.1 x E).1) h;rw[B]at this;exact this
def Tk.AE(ps m:Nat)(t:Tk):Prop:=t.OG<m/\(t.dead=zt->∃p,p<ps/\qN t.mask p=zq)
def Sc.AE(S:Sc):Prop:=∀(n:Nat) (t:Tk),S.ts[n]?=zo t->t.AE S.ps S.gs.length
def Sc.dT(S A:Sc):Prop:=A.ts=S.ts/\A.ps=S.ps/\A.gs.length=S.gs.length
theorem Sc.dT.refl(S:Sc):S.dT S:=⟨rfl,rfl,rfl⟩
theorem Sc.dT.trans{a b c:Sc}(h:a.dT b)(k:b.dT c):a.dT c:=⟨k.1.trans h.1,k.2.1.trans h.2.1,k.2.2.trans h.2.2⟩
theorem Sc.dT.OF(S:Sc)(n:Nat)(g:Gp):S.dT (S.OF n g):=⟨rfl,rfl,by show(S.gs.set n g).length=_;rw[zD]⟩
theorem Sc.AE.of{A:Sc}(h:S.AE)(e:S.dT A):A.AE:=fun n t B=>by rw[e.1]at B;rw[e.2.1,e.2.2];exact h n t B
theorem Sc.AE.set{A:Sc}(h:S.AE){t':Tk}(M:S.ts[n]?=zo t)(N:A.ts=S.ts.set n t')(I:A.ps=S.ps)(O:A.gs=S.gs)(E:t'.OG=t.OG)(hd:t'.dead=zt->t.dead=zt/\(t'.mask=t.mask∨∃p,p<S.ps/\qN t'.mask p=zq)):A.AE:=fun k x hk=>by
 rw[N]at hk;rw[I,O];rcases xh hk with⟨rfl,rfl⟩|⟨_,hk⟩
 .obtain⟨H,D⟩:=h k t M;refine⟨by rw[E];exact H,fun J=>?_⟩;obtain⟨G,B|B⟩:=hd J
  .rw[B];exact D G
  .exact B
 .exact h k x hk
theorem Fa(h:S.AE)(A:S.ts[n]?=zo t)(p:Nat)(woke:Bool):(S.put n p woke).AE:=
 h.set (t':=(S.t n).SF p (S.TP n p woke)) A rfl rfl rfl (by rw[Sc.RV A];rfl) (by rw[Sc.RV A];exact fun hd=>⟨hd,.inl rfl⟩)
theorem Ww(h:S.AE)(A:S.ts[n]?=zo t):(S.leave n).AE:=
 h.set (t':={ S.t n with min:=S.least n (S.t n).p,e:=(S.hs (S.t n).p).gone (S.g (S.t n).OG).hi (S.t n).hi,on:=zt }) A rfl rfl rfl (by rw[Sc.RV A]) (by rw[Sc.RV A];exact fun hd=>⟨hd,.inl rfl⟩)
theorem My(g:Nat):∀(l:List Nat) (S:Sc),S.dT (Sc.SN g l S)
 | [],S=>.refl S
 | p::r,S=>by unfold Sc.SN;exact(Sc.dT.OF S g _).trans ((Sc.dT.trans ⟨rfl,rfl,rfl⟩ (My g r _)))
theorem Wc(p:Nat)(ns:Int):∀(l:List Nat) (S:Sc),S.dT (Sc.PT p ns l S)
 | [],S=>.refl S
 | g::r,S=>by
  unfold Sc.PT;split
  .exact Wc p ns r S
  .exact(Sc.dT.OF S g _).trans (Wc p ns r _)
theorem GR(h:S.Fit b)(e:Ev):S.dT (S.PP e).1:=by
 by_cases A:S.TN e.a
 .by_cases E:e.n<0∨S.tick<e.n
  .have:S.PP e=(S,0,8):=by unfold Sc.PP;rw[if_neg (by simpa using A),if_pos E]
   rw[this];exact .refl S
  .have B:e.a.toNat<S.ps:=by have:=A.1;have:=A.2;omega
   by_cases G:S.running e.a.toNat= -1
   .rw[Vb A E G];exact⟨rfl,rfl,rfl⟩
   .obtain⟨n,t,g,H,I,_⟩:=h.run B G;rw[Vc A E H I];have D:S.dT (S.SY e.a.toNat n t.OG e.n):=Wc _ _ _ _;generalize S.SY e.a.toNat n t.OG e.n=T at D ⊢;simp only;split
    .exact D
    .exact D
 .have:S.PP e=(S,0,1):=by unfold Sc.PP;rw[if_pos (by simpa using A)]
  rw[this];exact .refl S
def Ee(S:Sc)(e:Ev)(o:Out):Prop:=o=S.drop e
def Ef(S:Sc)(e:Ev)(o:Out):Prop:=o=S.move e
theorem GS(Y:∀e o,D S e o∨M S e o->o.1.AE/\o.1.Fit (b+1))(h:S.AE)(N:S.Fit b){o:Out}(H:S.cL D M e o):o.1.AE:=by
 rcases H with⟨_,rfl⟩|⟨_,H⟩|⟨_,H⟩|⟨_,rfl⟩|⟨_,rfl⟩|⟨_,rfl⟩|⟨_,rfl⟩|⟨_,rfl⟩|⟨_,rfl⟩|⟨_,rfl⟩|⟨_,rfl⟩|⟨_,rfl⟩|⟨_,H⟩|⟨_,rfl⟩|⟨_,rfl⟩
 .unfold Sc.grow;split
  .exact h
  .split
   .exact h
   .split
    .exact h
    .intro n t A;obtain⟨G,O⟩:=h n t A;refine⟨?_,O⟩;show t.OG<(S.gs++ [_]).length;rw[zE];omega
 .exact(Y e o (.inl H)).1
 .exact(Y e o (.inr H)).1
 .unfold Sc.RX;split
  .exact h
  .split
   .exact h
   .split
    .exact h
    .exact h.of (.OF S _ _)
 .unfold Sc.TQ;split
  .exact h
  .split
   .exact h
   .split
    .exact h
    .split
     .exact h
     .exact h.of ((Sc.dT.OF S _ _).trans (My _ _ _))
 .unfold Sc.spawn;split
  .exact h
  .rename_i g a;split
   .exact h
   .split
    .exact h
    .rename_i p T;split
     .exact h
     .obtain⟨_,x,j,_⟩:=xm a;have hs:(S.SO g p e).AE:=fun n t A=>by
       have A:(S.ts++ [_])[n]?=zo t:=A;by_cases c:n<S.ts.length
       .rw[List.getElem?_append_left c]at A;exact h n t A
       .rw[zV (by omega)]at A;have:n-S.ts.length=0:=by have:=(yy A).1;simpa using this
        rw[this]at A;simp at A;subst A;obtain⟨R,V,_⟩:=N.1.bI T;exact⟨(yy j).1,fun _=>⟨p,R,V⟩⟩
      obtain⟨t,E⟩:∃t,(S.SO g p e).ts[S.ts.length]?=zo t:=⟨_,zy (by show _<(S.ts++ [_]).length;rw[zE];simp)⟩
      exact Fa hs E p zt
 .unfold Sc.AL;split
  .exact h
  .rename_i n A;obtain⟨_,t,E,_⟩:=qO A;split
   .exact h
   .split<;>exact Fa h E _ _
 .unfold Sc.block;split
  .rename_i U;obtain⟨p,n,t,_,_,I,_,A,_⟩:=vI N U;rw[I];exact Ww h A
  .exact h
 .unfold Sc.TH;split
  .exact h.of ⟨rfl,rfl,rfl⟩
  .exact h
 .unfold Sc.exit;split
  .rename_i U;obtain⟨p,n,t,_,_,I,_,A,_⟩:=vI N U;rw[I];simp only;rw[Int.toNat_natCast];obtain⟨Z,G,_⟩:=qR A;exact(Ww h A).set (t':={ (S.leave n).t n with dead:=zq }) G rfl rfl rfl (by rw[Sc.RV G]) (fun hd=>by cases hd)
  .exact h
 .exact h.of (GR N e)
 .unfold Sc.PM;split
  .exact h
  .split
   .exact h
   .split
    .exact h.of (.OF S _ _)
    .exact h
 .rcases H with⟨f,_,rfl⟩|⟨n,t,p,A,_,_,rfl⟩
  .exact h
  .obtain⟨Z,G,_⟩:=qR A;exact Fa (Ww h A) G p zt
 .unfold Sc.TR;split
  .exact h
  .rename_i n A;obtain⟨_,t,E,_,B⟩:=qO A;split
   .exact h
   .split
    .exact h.set E rfl rfl rfl (by rw[B]) (by rw[B];exact fun hd=>⟨hd,.inl rfl⟩)
    .exact h.set E rfl rfl rfl (by rw[B]) (by rw[B];exact fun hd=>⟨hd,.inl rfl⟩)
 .unfold Sc.TJ;split
  .exact h
  .rename_i n A;obtain⟨_,t,E,X,B⟩:=qO A;split
   .exact h
   .rename_i p T;obtain⟨R,V,_⟩:=N.1.bI T;have G:(S.OY n { S.t n with mask:=e.mask }).AE:=h.set E rfl rfl rfl (by rw[B]) (fun _=>⟨X,.inr ⟨p,R,V⟩⟩);have J:(S.OY n { S.t n with mask:=e.mask }).ts[n]?=zo { S.t n with mask:=e.mask }:=vj E;simp only;split
    .obtain⟨Z,O,_⟩:=qR J;have d:=Ww G J;split<;>exact Fa d O _ _
    .exact G
theorem GT(B:∀e o,D S e o∨M S e o->o.1.AE/\o.1.Fit (b+1))(h:S.AE)(E:S.Fit b)(hb:b<900)(I:e.Ok){G:Sc}{n f:Int}(A:S.gB D M e G n f):G.AE/\G.Fit (b+1):=by
 refine⟨?_,NG (fun e o h=>(B e o (.inl h)).2) (fun e o h=>(B e o (.inr h)).2) E hb I A⟩;rcases A with⟨_,rfl,_⟩|⟨o,A,⟨_,rfl,_⟩|⟨_,rfl,_⟩⟩
 .exact h
 .have H:=(Yn (Cf (fun e o h=>(B e o (.inl h)).2) (fun e o h=>(B e o (.inr h)).2) E hb I A)).2;exact(GS B h E A).of ⟨H.ts,H.ps,H.len⟩
 .exact GS B h E A
theorem NL(h:S.AE)(A:S.Fit b)(hb:b<900)(e:Ev)(o:Out)(B:Ee S e o∨Ef S e o):o.1.AE/\o.1.Fit (b+1):=by
 rcases B with rfl|rfl
 .refine⟨?_,Db A hb e⟩;unfold Sc.drop;split
  .exact h
  .split
   .exact h
   .split
    .exact h
    .exact h.of ⟨rfl,rfl,by show(S.gs.set _ _).length=_;rw[zD]⟩
 .refine⟨?_,Dc A hb e⟩;unfold Sc.move;split
  .split
   .exact h
   .split
    .exact h
    .exact h.of ⟨rfl,rfl,rfl⟩
  .exact h
theorem JY(ps:Nat)(t g c l:Int):(Sc.new ps t g c l).AE:=fun n x h=>by have h:([]:List Tk)[n]?=zo x:=h;simp at h
def Sc.gR(S:Sc)(t:Tk):Prop:=t.dead=zt/\t.p<S.ps/\qN t.mask t.p=zq/\∃q,vw S.OZ t.mask=zo q/\q<S.ps/\S.OZ.getD t.p 0=S.OZ.getD q 0
theorem GU(D:S.Fit b)(hb:b<900)(U:e.Ok){I:Sc}{n:Int}(E:S.gB Ee Ef e I n 0)(hk:e.kind=6):∃(m:Nat) (t:Tk),n=m/\I.ts[m]?=zo t/\S.gR t:=by
 rcases E with⟨_,_,_,H⟩|⟨o,E,⟨A,rfl,rfl,_⟩|⟨A,_,_,H⟩⟩
 .cases H
 .have R:=(Yn (Cf (fun e o h=>h▸Db D hb e) (fun e o h=>h▸Dc D hb e) D hb U E)).2;rw[R.ts];rcases E with⟨k,_⟩|⟨k,_⟩|⟨k,_⟩|⟨k,_⟩|⟨k,_⟩|⟨_,rfl⟩|⟨k,_⟩|⟨k,_⟩|⟨k,_⟩|⟨k,_⟩|⟨k,_⟩|⟨k,_⟩|⟨k,_⟩|⟨k,_⟩|⟨k,_⟩
  all_goals first|(exact absurd (k.symm.trans hk) (by decide))|skip
  unfold Sc.spawn at A ⊢;split at A
  .cases A
  .rename_i g hg;split at A
   .cases A
   .rename_i G;split at A
    .cases A
    .rename_i p N;split at A
     .rename_i B;exact absurd A (show ¬(3:Int)=0 by decide)
     .rename_i B;rw[if_neg G,if_neg B];obtain⟨M,T,V⟩:=D.1.bI N;have O:S.ts.length<(S.SO g p e).ts.length:=by show _<(S.ts++ [_]).length;rw[zE];simp
      refine⟨S.ts.length,_,rfl,zT O,?_⟩;have J:(S.SO g p e).t S.ts.length=⟨S.pool.RL 64,S.pool.SU 64,zt,zt,p,g,e.n,vd e.n,e.mask,⟨S.pool.RL 64,vd e.n,(S.hs p).minOf (S.g g).hi,0⟩,0⟩:=Sc.RV (by show(S.ts++ [_])[S.ts.length]?=_;simp);rw[J];exact⟨rfl,M,T,V⟩
 .exact absurd H.symm A
theorem LZ(hs:S.AE)(D:S.Fit b)(hb:b<900)(Y:e.Ok){N:Sc}{n:Int}(E:S.gB Ee Ef e N n 0)(hk:e.kind=7):∃(m:Nat) (t:Tk),e.a=m/\N.ts[m]?=zo t/\S.gR t/\n=t.p:=by
 rcases E with⟨_,_,_,H⟩|⟨o,E,⟨A,rfl,rfl,_⟩|⟨A,_,_,H⟩⟩
 .cases H
 .have T:=(Yn (Cf (fun e o h=>h▸Db D hb e) (fun e o h=>h▸Dc D hb e) D hb Y E)).2;rw[T.ts];rcases E with⟨k,_⟩|⟨k,_⟩|⟨k,_⟩|⟨k,_⟩|⟨k,_⟩|⟨k,_⟩|⟨_,rfl⟩|⟨k,_⟩|⟨k,_⟩|⟨k,_⟩|⟨k,_⟩|⟨k,_⟩|⟨k,_⟩|⟨k,_⟩|⟨k,_⟩
  all_goals first|(exact absurd (k.symm.trans hk) (by decide))|skip
  unfold Sc.AL at A ⊢;cases hg:S.tsk? e.a with
  | none=>rw[hg]at A;cases A
  | some m=>
   rw[hg]at A;obtain⟨V,t,M,hd,B⟩:=qO hg;simp only at A ⊢;split at A
   .cases A
   .rename_i I;rw[if_neg I,B];obtain⟨q,O,J⟩:=(hs m t M).2 hd;have G:S.free t.p t.mask≠zp:=ZL (by rw[D.1.OZ.2];exact O) J;cases hp:S.free t.p t.mask with
    | none=>exact absurd hp G
    | some p=>
     obtain⟨R,U,X⟩:=D.1.bI hp;simp only;refine⟨m,_,V,zT (yy M).1,?_,rfl⟩;rw[B];exact⟨hd,R,U,X⟩
 .exact absurd H.symm A
end Go.Proofs.YtmpdpmhpkgbepaaGreatDoor
namespace Go.Proofs.YtmpdpmhpkgbepaaGreatDoor
open Go Go.RowKit Go.ChangeShapes Go.WideShapes
variable {n g s k:Nat}{w:zu}{F:Nat->Prop}{S:Sc}{L:Lay}{h:Hm}{y x:Gr}{l:List Pl}
attribute [local go_sem ↓] Go.wp_at_zero Go.wp_at_succ
theorem Iz(gb:Nat->Nat)(l:List Gp){g:Gp}(B:l[n]?=zo g):xK (xL gb (l.set n { g with there:=zt }))=(xK (xL gb l)).set n (ze zp):=by
 have D:=(yy B).1;refine List.ext_getElem? fun k=>?_;by_cases hk:k<l.length
 .have A:=Bm (Ye (gb:=gb) (l:=l.set n { g with there:=zt }) (n:=k) (by simpa using hk));rw[A,Ts _ _ _ _ _ D];by_cases e:k=n
  .subst e;rw[if_pos rfl,zT (by rw[Ky,xo];exact hk)];rfl
  .rw[if_neg e,zC (Ne.symm e),Bm (Ye hk)]
 .rw[List.getElem?_eq_none (by rw[Ky,xo,zD];omega),List.getElem?_eq_none (by rw[zD,Ky,xo];omega)]
theorem SS.gS{O:Nat->Nat}(h:SS w F s S L O){r X:Nat}{g:Gp}(R:S.gs[n]?=zo g)(T:L.vg=zf (zo ⟨r,0,zp⟩) S.gs.length X):yG w F s (S.OF n { g with there:=zt }) L (w.setCell ⟨r,n,zp⟩ (ze zp)):=by
 obtain⟨w',Y⟩:=yB (w.setCell ⟨r,n,zp⟩ (ze zp))
 have J:=h.gs.row.own r (by rw[T];rfl);have U:OA (fun k=>k=r) w w':=by rw[Y];exact(OA.refl _ w).one
 have E:=Yf J U;have D:=h.gs.row.row;have V:w'.ownsRow 0 59 1 L.vg S.gs.length (xK (xL L.gb (S.gs.set n { g with there:=zt }))):=by rw[Iz _ _ R,Y,T];rw[xo,T]at D;exact(D.stored n (ze zp)).1
 rw[<-Y];have Z:TU w' (Ext (Own F O 2) w w') L.gb L.bb L.lb L.vg (S.gs.set n { g with there:=zt }):=by
  refine⟨⟨by rw[xo,zD];exact V,fun k hk=>.inl (h.gs.row.own k hk)⟩,fun m y B=>?_,fun a b N hb=>h.gs.inj a b (by simpa using N) (by simpa using hb)⟩;have M:∀z,S.gs[m]?=zo z->Ext (Own F O 2) w w' (L.gb m)/\bG w' (L.gb m) m (L.bb m) (L.lb m) z:=fun z f=>by obtain⟨d,c⟩:=h.gs.gp m z f;refine⟨.inl d,c.of (U.block _ c.lt fun e=>?_)⟩;exact yS D (show w.heap[L.gb m]?=zo (zn _ _ _)from c) (by decide) (by rw[T,e];rfl)
  rcases xh B with⟨rfl,rfl⟩|⟨I,B⟩
  .exact M g R
  .exact M y B
 have G:=h.bs.part E (by decide);have H:=h.ls.part E (by decide);refine⟨⟨yV O w 2,(h.sx.part E (by decide)).of ⟨rfl,rfl,rfl,rfl,rfl,rfl,rfl⟩,h.ts.part E (by decide),Z.RD,⟨?_,fun a b N hb=>G.inj a b (by simpa[Sc.OF]using N) (by simpa[Sc.OF]using hb)⟩,⟨?_,fun a b N hb=>H.inj a b (by simpa[Sc.OF]using N) (by simpa[Sc.OF]using hb)⟩,h.cs.part E (by decide),h.tr.part E (by decide),h.po.part E (by decide),h.bk.part E (by decide),h.vh.part E (by decide),fun p j=>(h.hs p j).part E (by omega)⟩,U.mono fun k hk=>by rw[hk];exact J.1⟩
 .intro m y b B A;rcases xh B with⟨rfl,rfl⟩|⟨I,B⟩
  .exact G.bd m g b R A
  .exact G.bd m y b B A
 .intro m y B A;rcases xh B with⟨rfl,rfl⟩|⟨I,B⟩
  .exact H.ln m g R A
  .exact H.ln m y B A
theorem SS.gT{G:Nat->Nat}(h:SS w F s S L G){I:Nat}(hI:I<32):yG w F s { S with pl:=OV S.pl I zp } L (w.setCell ⟨s,9+I,zp⟩ (ze zp)):=by
 obtain⟨w',E⟩:=yB (w.setCell ⟨s,9+I,zp⟩ (ze zp))
 have B:=h.sx.own;have J:OA (fun k=>k=s) w w':=by rw[E];exact(OA.refl _ w).one
 have A:=Yf B J;have e:∀j,j≠9+I->w'.cell? ⟨s,j,zp⟩=w.cell? ⟨s,j,zp⟩:=fun j hj=>by rw[E];exact World.cell?_setCell_other _ _ _ _ (by intro e;injection e with e1 e2;omega)
 have R:∃cs,w'.heap[s]?=zo (zn cs 66 (0,0)):=by obtain⟨cs,D⟩:=h.sx.ty;rw[E];exact⟨_,yD D⟩
 rw[<-E];have X:Sx w' (Ext (Own F G 0) w w') s { S with pl:=OV S.pl I zp } L:=by
  refine⟨R,.inl B,(e _ (by omega)).trans h.sx.c0,(e _ (by omega)).trans h.sx.c1,(e _ (by omega)).trans h.sx.c2,(e _ (by omega)).trans h.sx.c3,(e _ (by omega)).trans h.sx.c4,(e _ (by omega)).trans h.sx.c5,(e _ (by omega)).trans h.sx.c6,(e _ (by omega)).trans h.sx.c7,(e _ (by omega)).trans h.sx.c8,fun i H=>?_,fun i H=>(e _ (by omega)).trans (h.sx.at_ i H),(e _ (by omega)).trans h.sx.vh,(e _ (by omega)).trans h.sx.vc,(e _ (by omega)).trans h.sx.bk⟩;show w'.cell? ⟨s,9+i,zp⟩=zo (ze ((OV S.pl I zp i).map fun n=>⟨L.gb n,0,zp⟩));by_cases T:i=I
  .subst T;rw[yR,E,World.cell?_setCell_same _ _ _ (h.sx.pl i H)];simp
  .rw[yQ _ _ T,e _ (by omega)];exact h.sx.pl i H
 have M:qW w' (Ext (Own F G 0) w w') 99 L.vh (xP L.hb S.ps):=by
  refine⟨⟨h.vh.row.1,?_⟩,fun k hk=>.inl (h.vh.own k hk)⟩;rcases h.vh.row.2 with Y|⟨r,N,cur,Z,hb,O,V⟩
  .exact .inl Y
  .refine .inr ⟨r,N,cur,Z,hb,?_,V⟩;rw[J.block r (yx O).1 ?_];exact O;rintro rfl;obtain⟨cs,D⟩:=h.sx.ty;rw[O]at D;simp only[ya,Obj.cells.injEq]at D;exact absurd D.2.1 (by decide)
 exact⟨⟨yV G w 0,X.RD,h.ts.part A (by decide),h.gs.part A (by decide),h.bs.part A (by decide),h.ls.part A (by decide),h.cs.part A (by decide),h.tr.part A (by decide),h.po.part A (by decide),h.bk.part A (by decide),M.RD,fun p U=>(h.hs p U).part A (by omega)⟩,J.mono fun k hk=>by rw[hk];exact B.1⟩
theorem yK.fU(h:yK w F s S L){r A I:Nat}{g:Gp}(H:S.gs[n]?=zo g)(E:L.vg=zf (zo ⟨r,0,zp⟩) S.gs.length A)(D:I<32):
 yG w F s { S with gs:=S.gs.set n { g with there:=zt },pl:=OV S.pl I zp } L ((w.setCell ⟨r,n,zp⟩ (ze zp)).setCell ⟨s,9+I,zp⟩ (ze zp)):=by
 obtain⟨tg,h⟩:=h;have B:=h.gS H E;obtain⟨h0,G⟩:=B.1;exact B.then (G.gT D)
theorem yK.iZ(h:yK w F s S L){m:Nat}(B:n<S.gs.length)(A:m<S.gs.length)(e:L.gb n=L.gb m):n=m:=by obtain⟨tg,h⟩:=h;exact h.gs.inj n m B A e
def Hm.RW(h:Hm)(A:List Nat)(by_:Int):Hm:={ h with gs:=fun k=>(h.gs k).map fun y=>if k∈A then{ y with deep:=y.deep+by_ }else y }
theorem YQ(h:Hm)(by_:Int):h.RW [] by_=h:=by
 unfold Hm.RW
 congr 1
 funext k;cases h.gs k<;>simp
theorem Wy{A:List Nat}{by_:Int}(B:h.gs k=zo y):(h.RW A by_).gs k=zo (if k∈A then{ y with deep:=y.deep+by_ }else y):=by show(h.gs k).map _=_;rw[B];rfl
theorem ZO{A:List Nat}{by_:Int}(B:h.gs k=zo y):(h.RW A by_).set k { y with deep:=y.deep+by_ }=h.RW (A++ [k]) by_:=by
 unfold Hm.RW Hm.set
 congr 1
 funext j;simp only[List.mem_append,List.mem_singleton];by_cases e:j=k
 .subst e;rw[if_pos rfl,B];simp
 .rw[if_neg e];simp[e]
def Hm.belows(h:Hm)(l:List Pl)(g k:Nat):List Nat:=(yi k).filter fun i=>(h.gs i).isSome && RI l i g
theorem ZP(h:Hm)(l:List Pl)(g k:Nat):h.belows l g (k+1)=h.belows l g k++(if((h.gs k).isSome && RI l k g)=zq then [k]else []):=by
 unfold Hm.belows;rw[List.range_succ,List.filter_append]
 congr 1
 simp only[List.filter_cons,List.filter_nil]
theorem BU(h:Hm)(l:List Pl)(g k:Nat):(h.belows l g k).length<=k:=Nat.le_trans (List.length_filter_le _ _) (by simp)
theorem Ki{i:Nat}:i∈h.belows l g k↔i<k/\(h.gs i).isSome=zq/\RI l i g=zq:=by unfold Hm.belows;rw[List.mem_filter,List.mem_range,Bool.and_eq_true]
theorem YR{j i:Nat}(D:(h.belows l g k)[j]?=zo i):i∉(h.belows l g k).take j:=by
 have H:(h.belows l g k).Pairwise (· ≠ ·):=List.Pairwise.filter _ List.nodup_range;intro B;obtain⟨a,E,e⟩:=List.mem_iff_getElem.1 B;have A:=(yy D)
 obtain⟨A,G⟩:=A;simp at E e;exact(List.pairwise_iff_getElem.1 H) a j (by omega) A (by omega) (e.trans G.symm)
theorem PW.fJ{b A:Nat}(h:PW w b A x)(v:Int):PW (w.setCell ⟨b,1,zp⟩ (zd zj v)) b A { x with deep:=v }:=yD h
theorem PW.eV{b A:Nat}(h:PW w b A x)(v:Int):PW (w.setCell ⟨b,0,zp⟩ (zd zj v)) b A { x with up:=v }:=yD h
theorem MD:(prog.info? 134).map (fun i=>(i.zero,i.size,i.bytes))=zo (zo (ze zp),1,8):=by kernel_rfl
theorem TI{P:Program}{B:Array Oper}{Q:Exit->Act->zu->Prop}{G:Region.Mode}{S:zu->Prop}(i:Nat){E:Oper}(v:zz){D:Nat}{A:Array Bool}{a:Act}(M:B[i]?=zo E)
 (I:∀w,S w->(execOp a.eval E).run P w=.ok (.value v) w) (J:S w) (h:wpAnyH P G B Q S D (A.setIfInBounds i zq) (a.put E.dst v) w)
 (H:Region.wanted E (yielded B a.tmps)=zq:=by rfl) (hs:Region.noSelect B=zq:=by kernel_rfl) (hf:Region.free G B A i=zq:=by kernel_rfl) (hr:(Region.ready G B A).contains i=zq:=by kernel_rfl)
 (hQ:∀c a w,Q (.panic c) (a.put E.dst v) w->Q (.panic c) a w:=by exact fun _ _ _ h=>h):wpAnyH P G B Q S (D+1) A a w:=
 wpAnyH_take M hs hf hr hQ (.inl ⟨H,I⟩) J h
theorem Ci{u:Nat}{by_:Int}(m:h.cY l g u x y by_):(h.RW (h.belows l g 32) by_).set g { x with up:=(u:Int),deep:=x.deep+by_,own:={ x.own with v:=uP x.own.v (h.minOf x.up.toNat) (h.minOf u) } }=h.mv l g u by_:=by
 unfold Hm.RW Hm.set Hm.mv
 congr 1
 funext k;by_cases e:k=g
 .subst e;rw[if_pos rfl,m.hx];show _=zo (h.cX l k u by_ k x);rw[Da m.ho.tr (m.ho.cB k x m.hx)]
 .rw[if_neg e];show(h.gs k).map _=(h.gs k).map _;cases hk:h.gs k with
  | none=>rfl
  | some z=>
   show zo _=zo _
   congr 1
   show(if k∈h.belows l g 32 then({ z with deep:=z.deep+by_ }:Gr)else z)=_;by_cases hb:RI l k g=zq
   .rw[if_pos (Ki.2 ⟨m.hk.TG k z hk,by rw[hk];rfl,hb⟩),BO hb e]
   .rw[if_neg (fun A=>hb (Ki.1 A).2.2),Xc (by simpa using hb)]
theorem BV(g u:Nat)(l:List Pl)(by_:Int)(w:zu)(F:Nat->Prop)(p:Nat)(h:Hm)(x y:Gr)(hh:yT w F p h)(m:h.cY l g u x y by_):
 zw prog 79 #[ze (zo ⟨p,0,zp⟩),zd zj g,zd zj u] w fun z w'=>z=zm (zd zj 0)/\qv w F p (h.mv l g u by_) w':=by
 obtain⟨⟨ps,qs,tg,hs⟩,X⟩:=hh;obtain⟨i0,hi,mm,H6,H3⟩:=info_parts MD;have hg:=X.TG g x m.hx;have mu:=X.TG u y m.hy;obtain⟨hp,U,R⟩:=Qe hs X m;obtain⟨b,h1,h2,h3,h4⟩:=hs.PJ m.hx;obtain⟨c,s,k2,k3,P⟩:=hs.PJ m.hy;have HC:=yw (vO w p g h.credit h.gran ps hs.hx hg m.h0);have ka:=yw (Ks w p u h.credit h.gran ps hs.hx mu);rw[h1]at HC;rw[s]at ka;simp only[zA]at HC ka;obtain⟨Hy,mc,K8,K1,HU⟩:=Qg h1 s h4 P (Ik u g l y w F p h ps qs tg hs X m.ho m.hy);rw[m.hl]at HU;obtain⟨fn,kj⟩:∃fn:Nat->zz,fn=fun i=>grv (ps i):=⟨_,rfl⟩
 have my:=yw kj;have k5:=harr w p fn (fun i hi=>by rw[kj];exact hs.hx.at hi);obtain⟨AR,kb⟩:=yB (((yi 32).map fn).toArray)
 have mo:Hid (∀k,k<32->AR[k]?=zo (fn k)):=yw (by rw[kb];exact Pm fn);rw[<-kb]at k5;have mr:=yw k5;obtain⟨gp,ky⟩:∃gp:Nat->Nat,gp=fun i=>(ps i).getD 0:=⟨_,rfl⟩
 have K0:=yw ky;have M0:1<=x.deep/\x.deep<=8:=by have e1:=(m.ho.up g x m.hx m.h0).2;have e2:=(m.ho.tr.bZ (m.ho.cB g x m.hx)).2;have e3:=X.deep g x m.hx;have:=m.h0;omega
 have M7:=X.deep u y m.hy;have bX:=m.bX;have m5:=yw bX;have k7:Hid (-7<=by_/\by_<=8):=yw (by omega);clear k5 kb kj ky hs X m h1 h2 h3 h4 s k2 k3 P bX;go_enter func79,ntmps79;go_wp2_with fail;refine HC.out.mono ?_;rintro z w2 ⟨rfl,E⟩;obtain rfl:=E.symm;go_wp2_with fail;refine ka.out.mono ?_;rintro z w2 ⟨rfl,E⟩;obtain rfl:=E.symm;go_wp2_with fail;refine HU.out.mono ?_;rintro z w2 ⟨rfl,E⟩;obtain rfl:=E.symm;go_wp2_with (refine uO w rfl 150 (.tmp 34) rfl (ze (zo ⟨p,2,zp⟩)) _ rfl mr.out ?_)
 go_loopw [9,10,11,12,36] (fun v9 mq _ _ i wr=>∃(k n:Nat) (ar:Option Addr) (cr:Nat) (D:Int),k<=32/\i=zd zj k/\v9=zf ar n cr/\mq=zd zj D/\n=(h.belows l g k).length/\wr.ownsRow w.heap.size 134 1 (zf ar n cr) n (bH gp (h.belows l g k))/\0<=D/\D<=8/\D+by_<=8/\Below w.heap.size w wr) (fun _ _ _ _ i _=>32-(intOf i).toNat)
 case atStart=>exact⟨0,0,zp,0,0,by omega,rfl,rfl,rfl,by simp[Hm.belows],by simpa[bH,Hm.belows]using World.ownsRow_nil _ _ _ _,by omega,by omega,by have:=k7.out;omega,Below.refl _ _⟩
 case round=>
  obtain⟨k,n,ar,cr,D,hk,rfl,rfl,rfl,hn,h8,K3,kx,K5,hb⟩:=hrel;obtain⟨HB,HO,HN,H2,H5⟩:=Qg hb h8 hn K5 (hp.out.kept (.NZ hb));have M9:n<=k:=by rw[hn];exact BU h l g k
  clear hb h8 hn K5;by_cases k0:k<32
  .have M4:(k:Int) <32:=by omega
   have V:=mo.out k k0;rw[my.out]at V;have kp:=yw (ZP h l g k);cases hgk:h.gs k with
   | none=>
    have kw:=hp.out.eK k hgk;simp only[kw,grv,Option.map_none]at V;have m0:=MB AR k _ V k0;have HE:Hid (h.belows l g (k+1)=h.belows l g k):=yw (by rw[kp.out,hgk];simp);clear V hgk kw;go_wp2_with fail;go_roundw
    case rel=>exact⟨k+1,n,_,_,D,by omega,by go_num,rfl,rfl,by rw[HE.out];exact HN.out,by rw[HE.out];exact HO.out,K3,kx,H2.out,HB.out⟩
    case measure=>simp[intOf];omega
   | some z=>
    obtain⟨d,s,k2,k3,P⟩:=hp.out.PJ hgk;simp only[s,grv,zA]at V;have m0:=MB AR k _ V k0;have ha:=yw (Ik k g l z wr F p h ps qs tg H5.out U.out R.out.ho hgk);have m8:Hid (gp k=d):=yw (by rw[K0.out];show(ps k).getD 0=d;rw[s];rfl);cases hun:RI l k g with
    | false=>
     rw[hun]at ha;have HE:Hid (h.belows l g (k+1)=h.belows l g k):=yw (by rw[kp.out,hun];simp);clear V hgk s k2 k3 P hun;go_wp2_with fail;refine ha.out.mono ?_;rintro z w2 ⟨rfl,E⟩;obtain rfl:=E.symm;go_wp2_with fail;go_roundw
     case rel=>exact⟨k+1,n,_,_,D,by omega,by go_num,rfl,rfl,by rw[HE.out];exact HN.out,by rw[HE.out];exact HO.out,K3,kx,H2.out,HB.out⟩
     case measure=>simp[intOf];omega
    | true=>
     rw[hun]at ha;have HE:Hid (h.belows l g (k+1)=h.belows l g k++ [k]):=yw (by rw[kp.out,hgk,hun];simp);have mw:Hid (z.q.l.length=0):=yw (by rw[R.out.he k z hgk hun];rfl);have mi:=yw (R.out.hd k z hgk hun);have H7:=U.out.deep k z hgk;have HQ:=yw (H5.out.RT hgk);have kl:=yw P;obtain⟨d0,d1,d2,d3,d4,d5,d6,d7,d8⟩:=(P.behind HB.out).c9;obtain⟨ys,ke⟩:=yB (bH gp (h.belows l g k))
     have HY:Hid (bH gp (h.belows l g (k+1))=ys++ [ptr d]):=yw (by rw[HE.out,Hn,ke,m8.out]);rw[<-ke]at HO;clear V hgk s k2 k3 P hun ke d0 d1 d3 d4 d5 d6 d7 d8;go_wp2_with fail;refine ha.out.mono ?_;rintro z2 w2 ⟨rfl,E⟩;obtain rfl:=E.symm;go_wp2_with fail;refine(un wr _ _ z.q HQ.out).mono ?_;rintro z2 w3 ⟨⟨ea,ec,rfl⟩,kc⟩;have kz:=yw (yC HB.out kc HB.out.size);have K6:=yw (qo HO.out kc);rw[mw.out];clear kc d2;have mx:=kz.out.size
     go_wp2_with (at_builtin;go_loud (refine wpList_append_own _ rfl _ _ 226 rfl w.heap.size 134 i0 (ze zp) 1 8 underlying226 hi mm H6 H3 rfl (by decide) _ n ys rfl (K6.out.alloc _) ⟨w3.heap.size,0,zp⟩ 1 1 [ptr d] rfl rfl ?c1 ?c2 ?c3 ?c4 ?c5 ?_))
     case c1=>exact World.news_of_block (cs:=#[ptr d]) (t:=134) (fr:=(0,0)) (heap_alloc_new w3 _)
     case c2=>intro u hu;simp at hu;subst hu;rfl
     case c3=>unfold maxLen;omega
     case c4=>omega
     case c5=>simp;omega
     intro v' C Z K9 _;have G:Below w.heap.size w C:=(kz.out.alloc mx _).grown K9 (by simp;omega) fun j hj=>(K6.out.lt j hj).1;have H:=yw G;have me:=yw Z;rcases Z.2 with⟨_,h0⟩|⟨g',n1,cur,hv,_⟩
     .omega
     subst hv;obtain⟨d0,d1,d2,d3,d4,d5,d6,d7,d8⟩:=(kl.out.behind G).c9;clear G Z K9 d0 d2 d3 d4 d5 d6 d7 d8;go_wp2_with fail;go_roundw
     case rel=>exact⟨k+1,n+1,_,_,_,by omega,by go_num,rfl,rfl,by rw[HE.out,zE,<-HN.out];rfl,by rw[HY.out];exact me.out,by omega,by omega,by have:=H2.out;have:=mi.out;omega,H.out⟩
     case measure=>simp[intOf];omega
  .have mn:k=32:=by omega
   subst mn;obtain⟨A,hA⟩:=yB (h.belows l g 32)
   have HA:=yw hA;rw[<-hA]at HO HN;obtain⟨d0,d1,d2,d3,d4,d5,d6,d7,d8⟩:=(K8.out.behind HB.out).c9;obtain⟨e0,e1,e2,e3,e4,e5,e6,e7,e8⟩:=(K1.out.behind HB.out).c9;have T:=(K8.out.behind HB.out).lt;have RK:=(K1.out.behind HB.out).lt;have ma:IntKind.i64.wrap (y.deep+1)=y.deep+1:=by simp only[IntKind.wrap,yq,IntKind.bits];simp;omega
   have m7:IntKind.i64.wrap (y.deep+1-x.deep)=by_:=by rw[m5.out];simp only[IntKind.wrap,yq,IntKind.bits];simp;omega
   have mf:=k7.out;have ms:IntKind.i64.wrap (D+by_)=D+by_:=by simp only[IntKind.wrap,yq,IntKind.bits];simp;omega
   have mg:=H2.out;clear hA d0 d2 d3 d4 d5 d6 d7 d8 e0 e2 e3 e4 e5 e6 e7 e8;go_wp2_with fail;go_quiet (fail);go_wp2_with fail;generalize H9:World.drewN wr _=wq;have mb:Hid (xE wq ar (bH gp A)):=yw (by rw[<-H9];exact xE.SG HO.out);have ko:Hid (Below w.heap.size w wq):=yw (by rw[<-H9];exact yH HB.out _);have md:Hid (HS wq F p h ps qs tg):=yw (by rw[<-H9];exact H5.out.kept fun k _ _=>rfl);have mh:=yw HO.out.lt;clear H9 d1 e1 T RK HB H5 HO;go_loopw [15,83] (fun _ i wr=>∃(j:Nat),j<=n/\i=zd zj j/\HS wr F p (h.RW (A.take j) by_) ps qs tg/\OA (fun k=>F k/\k<w.heap.size) wq wr/\wr.heap.size=wq.heap.size) (fun _ i _=>n-(intOf i).toNat)
   case atStart=>exact⟨0,by omega,rfl,by rw[List.take_zero,YQ];exact md.out,.refl _ _,rfl⟩
   case round=>
    obtain⟨j,hj,rfl,hs,ht,a⟩:=hrel;obtain⟨k8,HT,mj⟩:=Qe hs ht a;clear hs ht a;by_cases m9:j<n
    .have M6:(j:Int) <(n:Int):=by omega
     obtain⟨k,hk⟩:∃k,A[j]?=zo k:=⟨_,zy (by rw[<-HN.out];exact m9)⟩
     obtain⟨r,m6,hc,M5⟩:=(mb.out.RB HT.out fun r hr hF=>by have:=(mh.out r (by rw[hr];rfl)).1;have:=hF.2;omega) j _ (Bo hk);subst m6;have k6:k∈A:=zW hk;rw[HA.out]at k6;obtain⟨m1,m2,m3⟩:=Ki.1 k6;obtain⟨z,a⟩:=Option.isSome_iff_exists.1 m2;have h9:k∉A.take j:=by rw[HA.out]at hk ⊢;exact YR hk
     have H7:(h.RW (A.take j) by_).gs k=zo z:=by rw[Wy a,if_neg h9]
     obtain⟨d,s,k2,k3,P⟩:=k8.out.PJ H7;have kr:gp k=d:=by rw[K0.out];show(ps k).getD 0=d;rw[s];rfl
     rw[kr]at hc;have ml:Hid (∀W,OA (fun k=>k=d) wr W->W.heap.size=wr.heap.size->PW W d (qs k) { z with deep:=z.deep+by_ }->HS W F p (h.RW (A.take (j+1)) by_) ps qs tg):=yw fun W L t2 t3=>by rw[List.take_add_one,hk,Option.toList_some,<-ZO a];exact k8.out.AG H7 s L t2 t3 rfl
     have kl:=yw P;have mp:Hid (F d/\d<w.heap.size):=yw (by obtain⟨d',g1,g2,_,g4⟩:=hp.out.PJ a;rw[s]at g1;obtain rfl:=zx g1;exact⟨g2,g4.lt⟩);have M2:=U.out.deep k z a;have mz:=R.out.hd k z a m3;have mf:=k7.out;have M1:IntKind.i64.wrap (z.deep+by_)=z.deep+by_:=by simp only[IntKind.wrap,yq,IntKind.bits];simp;omega
     obtain⟨d0,d1,d2,d3,d4,d5,d6,d7,d8⟩:=P.c9;have M3:=P.OH;clear hk k6 m1 m2 m3 a h9 H7 s k2 k3 P kr d0 d2 d3 d4 d5 d6 d7 d8;go_wp2_with fail;go_roundw
     case rel=>
      have L:OA (fun k=>k=d) wr (wr.setCell ⟨d,1,zp⟩ (zd zj (z.deep+by_))):=(OA.refl _ _).one;refine⟨j+1,by omega,by go_num,ml.out _ L (by simp[World.setCell]) (kl.out.fJ _),HT.out.setCell (.inl mp.out) _,by rw[<-mj.out];simp[World.setCell]⟩
     case measure=>simp[intOf];omega
    .have K4:j=n:=by omega
     have N:Hid (HS wr F p (h.RW A by_) ps qs tg):=yw (by have:=k8.out;rw[K4,HN.out,List.take_length]at this;exact this);obtain⟨v,yv,kh,h5,-⟩:=U.out.up g x R.out.hx R.out.h0;have ks:g∈A:=by rw[HA.out];exact Ki.2 ⟨hg,by rw[R.out.hx];rfl,R.out.self⟩
     have kv:u∉A:=by rw[HA.out];intro hm;have:=(Ki.1 hm).2.2;rw[R.out.hl]at this;cases this
     have H0:=Wy (A:=A) (by_:=by_) R.out.hx;rw[if_pos ks]at H0;have H4:=Wy (A:=A) (by_:=by_) R.out.hy;rw[if_neg kv]at H4;obtain⟨zv,kg,K2⟩:∃zv,(h.RW A by_).gs v=zo zv/\zv.q=yv.q:=⟨_,Wy h5,by split<;>rfl⟩
     obtain⟨b',g1,g2,-,g4⟩:=N.out.PJ H0;obtain rfl:b=b':=by rw[Hy.out]at g1;exact zx g1
     obtain⟨c',e1,-,-,e4⟩:=N.out.PJ H4;obtain rfl:c=c':=by rw[mc.out]at e1;exact zx e1
     obtain⟨bv,f1,-,-,f4⟩:=N.out.PJ kg;have kd:=N.out.RT kg;rw[K2]at kd;have kq:=U.out.TG v yv h5;have n2:(0:Int)<=v:=by omega
     have M8:(v:Int) <32:=by omega
     have Y:=N.out.hx.at kq;rw[f1]at Y;simp only[zA]at Y;have f:=N.out.hx.lt;have hq:=yw (Wi wr.drew _ (qs v) yv.q (kd.kept fun k _ _=>rfl));have h7:=yw (Wi wr.drew _ (qs u) y.q ((N.out.RT H4).kept fun k _ _=>rfl));obtain⟨d0,-,-,-,-,d5,-,-,-⟩:=g4.c9;obtain⟨-,-,e2,-,-,-,-,-,-⟩:=e4.c9;obtain⟨-,-,f2,-,-,-,-,-,-⟩:=f4.c9;have T:=g4.lt;have RK:=e4.lt;have H8:=f4.lt;obtain⟨q1,H6⟩:=yB (qs v)
     obtain⟨q2,H3⟩:=yB (qs u)
     rw[<-H6]at hq f2;rw[<-H3]at h7 e2;obtain⟨m1,Hg⟩:=yB yv.q.min
     obtain⟨m2,H1⟩:=yB y.q.min
     rw[<-Hg]at hq;rw[<-H1]at h7;have kt:=(U.out.q v yv h5).1.min;have K7:=(U.out.q u y R.out.hy).1.min;have hV:=(U.out.own g x R.out.hx R.out.h0).1.v;rw[<-Hg]at kt;rw[<-H1]at K7;have Q:wr.cell? ⟨b,0,zp⟩=zo (zd zj (v:Int)):=by rw[d0,<-kh]
     have ki:Hid (uP x.own.v m1 m2=uP x.own.v (h.minOf x.up.toNat) (h.minOf u)):=yw (by
      have e:x.up.toNat=v:=by rw[kh];rfl
      unfold Hm.minOf;rw[e,h5,R.out.hy,Hg,H1])
     obtain⟨kn,J,kk⟩:=Qe H0 g4 g2;clear K4 ma m7 ms mg kh h5 ks kv H0 H4 kg K2 g1 g2 g4 e1 e4 f1 f4 kd H6 H3 Hg H1 d0;have m4:p≠b:=fun e=>N.out.hx.fN J.out e;go_upto_region 25 with(fail)
     have k9:=yw (Lh x.own.v m1 m2 wr.drew hV kt K7);have kf:=yw (fun(w':zu) (a:Below wr.drew.heap.size wr.drew w')=>show(w'.cell? ⟨b,0,zp⟩=zo (zd zj v)/\w'.cell? ⟨p,2+v,zp⟩=zo (ze (zo ⟨bv,0,zp⟩))/\w'.cell? ⟨bv,2,zp⟩=zo (ze (zo ⟨q1,0,zp⟩))/\w'.cell? ⟨c,2,zp⟩=zo (ze (zo ⟨q2,0,zp⟩)))from⟨(a.cell (p:=⟨b,0,zp⟩) T).trans Q,(a.cell (p:=⟨p,2+v,zp⟩) f).trans Y,(a.cell (p:=⟨bv,2,zp⟩) H8).trans f2,(a.cell (p:=⟨c,2,zp⟩) RK).trans e2⟩)
     have km:Hid (∀(w':zu) (u:zz),(w'.cell? ⟨b,0,zp⟩=zo (zd zj v)/\w'.cell? ⟨p,2+v,zp⟩=zo (ze (zo ⟨bv,0,zp⟩))/\w'.cell? ⟨bv,2,zp⟩=zo (ze (zo ⟨q1,0,zp⟩))/\w'.cell? ⟨c,2,zp⟩=zo (ze (zo ⟨q2,0,zp⟩)))->(fun w':zu=>w'.cell? ⟨b,0,zp⟩=zo (zd zj v)/\w'.cell? ⟨p,2+v,zp⟩=zo (ze (zo ⟨bv,0,zp⟩))/\w'.cell? ⟨bv,2,zp⟩=zo (ze (zo ⟨q1,0,zp⟩))/\w'.cell? ⟨c,2,zp⟩=zo (ze (zo ⟨q2,0,zp⟩))) (w'.setCell ⟨b,5,zp⟩ u)):=yw (fun w' u ⟨a1,a2,a3,a4⟩=>by
      have t:∀(k o:Nat),(k≠b∨o≠5)->(w'.setCell ⟨b,5,zp⟩ u).cell? ⟨k,o,zp⟩=w'.cell? ⟨k,o,zp⟩:=fun k o h=>World.cell?_setCell_other _ _ _ _ (by intro e;injection e with e1 e2;omega);exact⟨(t _ _ (.inr (by omega))).trans a1,(t _ _ (.inl m4)).trans a2,(t _ _ (.inr (by omega))).trans a3,(t _ _ (.inr (by omega))).trans a4⟩)
     refine wp_region_held_drew (S:=fun w'=>w'.cell? ⟨b,0,zp⟩=zo (zd zj v)/\w'.cell? ⟨p,2+v,zp⟩=zo (ze (zo ⟨bv,0,zp⟩))/\w'.cell? ⟨bv,2,zp⟩=zo (ze (zo ⟨q1,0,zp⟩))/\w'.cell? ⟨c,2,zp⟩=zo (ze (zo ⟨q2,0,zp⟩))) (by kernel_rfl) (by exact⟨Q,Y,f2,e2⟩) (fun B=>?_);refine TI 0 ?_ rfl ?_ (by assumption) ?_;rotate_left;· intro w E;go_simp;(first|done|with_reducible rfl)
     try simp only[Act.put,yd,List.set_cons_zero,List.set_cons_succ,zS,yp]
     refine TI 1 ?_ rfl ?_ (by assumption) ?_;rotate_left;· intro w E;go_simp;(first|done|with_reducible rfl)
     try simp only[Act.put,yd,zS]
     refine TI 2 ?_ rfl ?_ (by assumption) ?_;rotate_left;· intro w E;go_simp;(first|done|with_reducible rfl)
     try simp only[Act.put,zS]
     refine TI 3 ?_ rfl ?_ (by assumption) ?_;rotate_left;· intro w E;go_simp;(first|done|with_reducible rfl)
     try simp only[Act.put,zS]
     refine TI 4 ?_ rfl ?_ (by assumption) ?_;rotate_left;· intro w E;go_simp;(first|done|with_reducible rfl)
     try simp only[Act.put,zS]
     refine TI 6 ?_ rfl ?_ (by assumption) ?_;rotate_left;· intro w E;go_simp;(first|done|with_reducible rfl)
     try simp only[Act.put,zS]
     refine TI 7 ?_ rfl ?_ (by assumption) ?_;rotate_left;· intro w E;go_simp;(first|done|with_reducible rfl)
     try simp only[Act.put,zS]
     refine TI 8 ?_ rfl ?_ (by assumption) ?_;rotate_left;· intro w E;go_simp;(first|done|with_reducible rfl)
     try simp only[Act.put,zS]
     refine TI 9 ?_ rfl ?_ (by assumption) ?_;rotate_left;· intro w E;go_simp;(first|done|with_reducible rfl)
     try simp only[Act.put,zS]
     refine TI 10 ?_ rfl ?_ (by assumption) ?_;rotate_left;· intro w E;go_simp;(first|done|with_reducible rfl)
     try simp only[Act.put,zS]
     refine TI 11 ?_ rfl ?_ (by assumption) ?_;rotate_left;· intro w E;go_simp;(first|done|with_reducible rfl)
     try simp only[Act.put,zS]
     refine TI 12 ?_ rfl ?_ (by assumption) ?_;rotate_left;· intro w E;go_simp;(first|done|with_reducible rfl)
     try simp only[Act.put,zS]
     refine TI 13 ?_ rfl ?_ (by assumption) ?_;rotate_left;· intro w E;go_simp;(first|done|with_reducible rfl)
     try simp only[Act.put,zS]
     refine TI 14 ?_ rfl ?_ (by assumption) ?_;rotate_left;· intro w E;go_simp;(first|done|with_reducible rfl)
     try simp only[Act.put,zS]
     refine TI 15 ?_ rfl ?_ (by assumption) ?_;rotate_left;· intro w E;go_simp;(first|done|with_reducible rfl)
     try simp only[Act.put,zS]
     refine TI 16 ?_ rfl ?_ (by assumption) ?_;rotate_left;· intro w E;go_simp;(first|done|with_reducible rfl)
     try simp only[Act.put,zS]
     refine TI 17 ?_ rfl ?_ (by assumption) ?_;rotate_left;· intro w E;go_simp;(first|done|with_reducible rfl)
     try simp only[Act.put,zS]
     refine TI 19 ?_ rfl ?_ (by assumption) ?_;rotate_left;· intro w E;go_simp;(first|done|with_reducible rfl)
     try simp only[Act.put,zS]
     refine TI 20 ?_ rfl ?_ (by assumption) ?_;rotate_left;· intro w E;go_simp;(first|done|with_reducible rfl)
     try simp only[Act.put,zS]
     refine TI 21 ?_ rfl ?_ (by assumption) ?_;rotate_left;· intro w E;go_simp;(first|done|with_reducible rfl)
     try simp only[Act.put,zS]
     refine TI 22 ?_ rfl ?_ (by assumption) ?_;rotate_left;· intro w E;go_simp;(first|done|with_reducible rfl)
     try simp only[Act.put,zS]
     refine wpAnyH_ready (rs:= [5,18]) (by kernel_rfl) (by simp) ?_;refine AllReadyH.cons rfl (fun K I=>?_) (AllReadyH.cons rfl (fun K I=>?_) AllReadyH.nil)
     .skip
      go_simp;refine I.out _ _ (by assumption) (fun B=>?_);clear I K
      try simp only[Act.put,yd,List.set_cons_zero,List.set_cons_succ,zS,yp]
      refine wpAnyH_ready (rs:= [18]) (by kernel_rfl) (by simp) ?_;refine AllReadyH.cons rfl (fun K I=>?_) AllReadyH.nil;go_simp;go_at_call 131;refine hq.out.mono ?_;rintro z w4 ⟨rfl,E⟩;obtain rfl:=E.symm;go_wp2_with fail;refine I.out _ _ (by assumption) (fun B=>?_);clear I K
      try simp only[Act.put,yd,List.set_cons_zero,List.set_cons_succ,zS,yp]
      refine wpAnyH_ready (rs:= [23]) (by kernel_rfl) (by simp) ?_;refine AllReadyH.cons rfl (fun K I=>?_) AllReadyH.nil;go_simp;go_at_call 131;refine h7.out.mono ?_;rintro z w4 ⟨rfl,E⟩;obtain rfl:=E.symm;go_wp2_with fail;refine I.out _ _ (by assumption) (fun B=>?_);clear I K
      try simp only[Act.put,yd,List.set_cons_zero,List.set_cons_succ,zS,yp]
      refine wpAnyH_ready (rs:= [24]) (by kernel_rfl) (by simp) ?_;refine AllReadyH.cons rfl (fun K I=>?_) AllReadyH.nil;go_simp;go_at_call 130;refine k9.out.mono ?_;rintro z C ⟨rfl,G⟩;have H:Hid (Below wr.heap.size wr C):=yw ⟨G.os,G.tape,G.output,G.size,G.block⟩;have M:=kf.out C G;clear G Q d5 e2 f2 Y T RK H8 f B;obtain⟨n0,-,-,-,-,n5,-,-,-⟩:=(J.out.behind H.out).c9;have T:=(J.out.behind H.out).lt;have ku:=(J.out.behind H.out).OH;go_wp2_with fail;refine I.out _ _ (by exact M) (fun B=>?_);clear I K
      try simp only[Act.put,yd,List.set_cons_zero,List.set_cons_succ,zS,yp]
      refine TI 25 ?_ rfl ?_ (by assumption) ?_;rotate_left;· intro w E;go_simp;(first|done|with_reducible rfl)
      try simp only[Act.put,yd,zS]
      refine TI 26 ?_ rfl ?_ (by assumption) ?_;rotate_left;· intro w E;go_simp;(first|done|with_reducible rfl)
      try simp only[Act.put,zS]
      refine TI 27 ?_ rfl ?_ (by assumption) ?_;rotate_left;· intro w E;go_simp;(first|done|with_reducible rfl)
      try simp only[Act.put,zS]
      refine TI 28 ?_ rfl ?_ (by assumption) ?_;rotate_left;· intro w E;go_simp;(first|done|with_reducible rfl)
      try simp only[Act.put,zS]
      refine TI 29 ?_ rfl ?_ (by assumption) ?_;rotate_left;· intro w E;go_simp;(first|done|with_reducible rfl)
      try simp only[Act.put,zS]
      refine TI 30 ?_ rfl ?_ (by assumption) ?_;rotate_left;· intro w E;go_simp;(first|done|with_reducible rfl)
      try simp only[Act.put,zS]
      refine wpAnyH_ready (rs:= [31]) (by kernel_rfl) (by simp) ?_;refine AllReadyH.cons rfl (fun K I=>?_) AllReadyH.nil;go_simp;refine I.out _ _ (km.out _ _ B) (fun B=>?_);clear I K
      try simp only[Act.put,yd,List.set_cons_zero,List.set_cons_succ,zS,yp]
      refine wpAnyH_done (by kernel_rfl) ?_ _;go_wp2;go_ret;refine⟨rfl,?_⟩;rw[ki.out];have M:=N.out.kept (.NZ H.out);have L:=((OA.refl (fun k=>k=b) C).one (o:=5) (u:=zd zj (uP x.own.v (h.minOf x.up.toNat) (h.minOf u)))).one (o:=0) (u:=zd zj u);have h6:=M.AG kn.out Hy.out L (by simp[World.setCell]) (((J.out.behind H.out).cV _).eV _) rfl;have ht:OA F w _:=((OA.NZ ko.out:OA F w wq).trans (HT.out.trans (OA.NZ H.out) fun _ h=>.inl h) fun k hk=>.inl hk.1).trans L fun k hk=>.inl (hk▸kk.out);have O:=Ci R.out;rw[<-HA.out]at O;rw[<-O];exact⟨⟨⟨_,_,_,h6.mono fun k _ hf=>.inl hf⟩,by rw[O];exact R.out.ok⟩,ht⟩
     .skip
      go_simp;go_at_call 131;refine hq.out.mono ?_;rintro z w4 ⟨rfl,E⟩;obtain rfl:=E.symm;go_wp2_with fail;refine I.out _ _ (by assumption) (fun B=>?_);clear I K
      try simp only[Act.put,yd,List.set_cons_zero,List.set_cons_succ,zS,yp]
      refine wpAnyH_ready (rs:= [5,23]) (by kernel_rfl) (by simp) ?_;refine AllReadyH.cons rfl (fun K I=>?_) (AllReadyH.cons rfl (fun K I=>?_) AllReadyH.nil)
      .skip
       go_simp;refine I.out _ _ (by assumption) (fun B=>?_);clear I K
       try simp only[Act.put,yd,List.set_cons_zero,List.set_cons_succ,zS,yp]
       refine wpAnyH_ready (rs:= [23]) (by kernel_rfl) (by simp) ?_;refine AllReadyH.cons rfl (fun K I=>?_) AllReadyH.nil;go_simp;go_at_call 131;refine h7.out.mono ?_;rintro z w4 ⟨rfl,E⟩;obtain rfl:=E.symm;go_wp2_with fail;refine I.out _ _ (by assumption) (fun B=>?_);clear I K
       try simp only[Act.put,yd,List.set_cons_zero,List.set_cons_succ,zS,yp]
       refine wpAnyH_ready (rs:= [24]) (by kernel_rfl) (by simp) ?_;refine AllReadyH.cons rfl (fun K I=>?_) AllReadyH.nil;go_simp;go_at_call 130;refine k9.out.mono ?_;rintro z C ⟨rfl,G⟩;have H:Hid (Below wr.heap.size wr C):=yw ⟨G.os,G.tape,G.output,G.size,G.block⟩;have M:=kf.out C G;clear G Q d5 e2 f2 Y T RK H8 f B;obtain⟨n0,-,-,-,-,n5,-,-,-⟩:=(J.out.behind H.out).c9;have T:=(J.out.behind H.out).lt;have ku:=(J.out.behind H.out).OH;go_wp2_with fail;refine I.out _ _ (by exact M) (fun B=>?_);clear I K
       try simp only[Act.put,yd,List.set_cons_zero,List.set_cons_succ,zS,yp]
       refine TI 25 ?_ rfl ?_ (by assumption) ?_;rotate_left;· intro w E;go_simp;(first|done|with_reducible rfl)
       try simp only[Act.put,yd,zS]
       refine TI 26 ?_ rfl ?_ (by assumption) ?_;rotate_left;· intro w E;go_simp;(first|done|with_reducible rfl)
       try simp only[Act.put,zS]
       refine TI 27 ?_ rfl ?_ (by assumption) ?_;rotate_left;· intro w E;go_simp;(first|done|with_reducible rfl)
       try simp only[Act.put,zS]
       refine TI 28 ?_ rfl ?_ (by assumption) ?_;rotate_left;· intro w E;go_simp;(first|done|with_reducible rfl)
       try simp only[Act.put,zS]
       refine TI 29 ?_ rfl ?_ (by assumption) ?_;rotate_left;· intro w E;go_simp;(first|done|with_reducible rfl)
       try simp only[Act.put,zS]
       refine TI 30 ?_ rfl ?_ (by assumption) ?_;rotate_left;· intro w E;go_simp;(first|done|with_reducible rfl)
       try simp only[Act.put,zS]
       refine wpAnyH_ready (rs:= [31]) (by kernel_rfl) (by simp) ?_;refine AllReadyH.cons rfl (fun K I=>?_) AllReadyH.nil;go_simp;refine I.out _ _ (km.out _ _ B) (fun B=>?_);clear I K
       try simp only[Act.put,yd,List.set_cons_zero,List.set_cons_succ,zS,yp]
       refine wpAnyH_done (by kernel_rfl) ?_ _;go_wp2;go_ret;refine⟨rfl,?_⟩;rw[ki.out];have M:=N.out.kept (.NZ H.out);have L:=((OA.refl (fun k=>k=b) C).one (o:=5) (u:=zd zj (uP x.own.v (h.minOf x.up.toNat) (h.minOf u)))).one (o:=0) (u:=zd zj u);have h6:=M.AG kn.out Hy.out L (by simp[World.setCell]) (((J.out.behind H.out).cV _).eV _) rfl;have ht:OA F w _:=((OA.NZ ko.out:OA F w wq).trans (HT.out.trans (OA.NZ H.out) fun _ h=>.inl h) fun k hk=>.inl hk.1).trans L fun k hk=>.inl (hk▸kk.out);have O:=Ci R.out;rw[<-HA.out]at O;rw[<-O];exact⟨⟨⟨_,_,_,h6.mono fun k _ hf=>.inl hf⟩,by rw[O];exact R.out.ok⟩,ht⟩
      .skip
       go_simp;go_at_call 131;refine h7.out.mono ?_;rintro z w4 ⟨rfl,E⟩;obtain rfl:=E.symm;go_wp2_with fail;refine I.out _ _ (by assumption) (fun B=>?_);clear I K
       try simp only[Act.put,yd,List.set_cons_zero,List.set_cons_succ,zS,yp]
       refine wpAnyH_ready (rs:= [5]) (by kernel_rfl) (by simp) ?_;refine AllReadyH.cons rfl (fun K I=>?_) AllReadyH.nil;go_simp;refine I.out _ _ (by assumption) (fun B=>?_);clear I K
       try simp only[Act.put,yd,List.set_cons_zero,List.set_cons_succ,zS,yp]
       refine wpAnyH_ready (rs:= [24]) (by kernel_rfl) (by simp) ?_;refine AllReadyH.cons rfl (fun K I=>?_) AllReadyH.nil;go_simp;go_at_call 130;refine k9.out.mono ?_;rintro z C ⟨rfl,G⟩;have H:Hid (Below wr.heap.size wr C):=yw ⟨G.os,G.tape,G.output,G.size,G.block⟩;have M:=kf.out C G;clear G Q d5 e2 f2 Y T RK H8 f B;obtain⟨n0,-,-,-,-,n5,-,-,-⟩:=(J.out.behind H.out).c9;have T:=(J.out.behind H.out).lt;have ku:=(J.out.behind H.out).OH;go_wp2_with fail;refine I.out _ _ (by exact M) (fun B=>?_);clear I K
       try simp only[Act.put,yd,List.set_cons_zero,List.set_cons_succ,zS,yp]
       refine TI 25 ?_ rfl ?_ (by assumption) ?_;rotate_left;· intro w E;go_simp;(first|done|with_reducible rfl)
       try simp only[Act.put,yd,zS]
       refine TI 26 ?_ rfl ?_ (by assumption) ?_;rotate_left;· intro w E;go_simp;(first|done|with_reducible rfl)
       try simp only[Act.put,zS]
       refine TI 27 ?_ rfl ?_ (by assumption) ?_;rotate_left;· intro w E;go_simp;(first|done|with_reducible rfl)
       try simp only[Act.put,zS]
       refine TI 28 ?_ rfl ?_ (by assumption) ?_;rotate_left;· intro w E;go_simp;(first|done|with_reducible rfl)
       try simp only[Act.put,zS]
       refine TI 29 ?_ rfl ?_ (by assumption) ?_;rotate_left;· intro w E;go_simp;(first|done|with_reducible rfl)
       try simp only[Act.put,zS]
       refine TI 30 ?_ rfl ?_ (by assumption) ?_;rotate_left;· intro w E;go_simp;(first|done|with_reducible rfl)
       try simp only[Act.put,zS]
       refine wpAnyH_ready (rs:= [31]) (by kernel_rfl) (by simp) ?_;refine AllReadyH.cons rfl (fun K I=>?_) AllReadyH.nil;go_simp;refine I.out _ _ (km.out _ _ B) (fun B=>?_);clear I K
       try simp only[Act.put,yd,List.set_cons_zero,List.set_cons_succ,zS,yp]
       refine wpAnyH_done (by kernel_rfl) ?_ _;go_wp2;go_ret;refine⟨rfl,?_⟩;rw[ki.out];have M:=N.out.kept (.NZ H.out);have L:=((OA.refl (fun k=>k=b) C).one (o:=5) (u:=zd zj (uP x.own.v (h.minOf x.up.toNat) (h.minOf u)))).one (o:=0) (u:=zd zj u);have h6:=M.AG kn.out Hy.out L (by simp[World.setCell]) (((J.out.behind H.out).cV _).eV _) rfl;have ht:OA F w _:=((OA.NZ ko.out:OA F w wq).trans (HT.out.trans (OA.NZ H.out) fun _ h=>.inl h) fun k hk=>.inl hk.1).trans L fun k hk=>.inl (hk▸kk.out);have O:=Ci R.out;rw[<-HA.out]at O;rw[<-O];exact⟨⟨⟨_,_,_,h6.mono fun k _ hf=>.inl hf⟩,by rw[O];exact R.out.ok⟩,ht⟩
theorem VW:(prog.info? 99).map (fun i=>(i.zero,i.size,i.bytes))=zo (zo (ze zp),1,8):=by kernel_rfl
theorem VX:(prog.info? 107).map (fun i=>(i.zero,i.size,i.bytes))=zo (zo (ze zp),1,8):=by kernel_rfl
theorem Yr(n a b:Int)(h1:a<=n)(h2:n<=b)(w:zu):zw prog 32 #[zd zj n,zd zj a,zd zj b] w fun z w'=>z=zm (.bool zq)/\w'=w:=by go_enter func32,ntmps32;go_wp2;go_ret;exact⟨rfl,rfl⟩
abbrev XG(n:Nat)(tick gran credit lat:Int):Array zz:=#[zd zj n,zd zj tick,zd zj gran,zd zj credit,zd zk lat]
theorem Ml(
 n:Nat) (tick gran credit lat:Int) (w:zu) (hn:1<=n/\n<=64) (ht:1<=tick/\tick<=1000000000) (hg:0<=gran/\gran<=1099511627776) (hc:0<=credit/\credit<=1000000000) (hl:1<=lat/\lat<=1000000000):
 zw prog 16 #[.agg (XG n tick gran credit lat)] w fun z w'=>∃s L,z=zm (.tuple #[ptr s,zd zj 0])/\yK w' (fun k=>w.heap.size<=k) s (Sc.new n tick gran credit lat) L/\Below w.heap.size w w':=by
 obtain⟨w1,hm⟩:=yB (w.alloc (zn (XG n tick gran credit lat) 54))
 have kn:Below w.heap.size w w1:=by rw[hm];exact yE w _
 have N:w1.heap[w.heap.size]?=zo (zn (XG n tick gran credit lat) 54 (0,0)):=by rw[hm];exact heap_alloc_new w _
 obtain⟨C,hC⟩:=yB w.heap.size
 rw[<-hC]at N;have H1:=yw (zQ kn (zQ N hC));have c0:w1.cell? ⟨C,0,zp⟩=zo (zd zj n):=by simp[zN,N]
 have c1:w1.cell? ⟨C,1,zp⟩=zo (zd zj tick):=by simp[zN,N]
 have c2:w1.cell? ⟨C,2,zp⟩=zo (zd zj gran):=by simp[zN,N]
 have c3:w1.cell? ⟨C,3,zp⟩=zo (zd zj credit):=by simp[zN,N]
 have c4:w1.cell? ⟨C,4,zp⟩=zo (zd zk lat):=by simp[zN,N]
 have A:C<w1.heap.size:=(yx N).1;clear kn N;go_enter func16,ntmps16;go_wp2_with fail;rw[show w.alloc (zn #[zd zj n,zd zj tick,zd zj gran,zd zj credit,zd zk lat] 54)=w1 from hm.symm,<-hC];clear hm hC;refine(Yr n 1 64 (by omega) (by omega) w1).mono ?_;rintro z w2 ⟨rfl,Y⟩;obtain rfl:=Y.symm;go_wp2_with fail;refine(Yr tick 1 1000000000 (by omega) (by omega) w1).mono ?_;rintro z w2 ⟨rfl,Y⟩;obtain rfl:=Y.symm;go_wp2_with fail;refine(Yr gran 0 1099511627776 (by omega) (by omega) w1).mono ?_;rintro z w2 ⟨rfl,Y⟩;obtain rfl:=Y.symm;go_wp2_with fail
 refine(Yr credit 0 1099511627776 (by omega) (by omega) w1).mono ?_;rintro z w2 ⟨rfl,Y⟩;obtain rfl:=Y.symm;go_upto_region 9 with(fail)
 go_region_held3 (fun w'=>w'.cell? ⟨C,0,zp⟩=zo (zd zj n)/\w'.cell? ⟨C,1,zp⟩=zo (zd zj tick)/\w'.cell? ⟨C,2,zp⟩=zo (zd zj gran)/\w'.cell? ⟨C,3,zp⟩=zo (zd zj credit)/\w'.cell? ⟨C,4,zp⟩=zo (zd zk lat)) (go_keep)
  (first
   | (
    go_at_call 33;refine(EG _).mono ?_;rintro z wa ⟨t,tp,rfl,k7,m⟩;have O:Hid (Below w1.heap.size w1 wa):=yw ⟨m.os,m.tape,m.output,m.size,m.block⟩;have r:Hid (xt wa (fun k=>w1.heap.size<=k/\k<wa.heap.size) t tp eY):=yw (VS k7);replace c0:=(O.out.cell (p:=⟨C,0,zp⟩) A).trans c0;replace c1:=(O.out.cell (p:=⟨C,1,zp⟩) A).trans c1;replace c2:=(O.out.cell (p:=⟨C,2,zp⟩) A).trans c2;replace c3:=(O.out.cell (p:=⟨C,3,zp⟩) A).trans c3;replace c4:=(O.out.cell (p:=⟨C,4,zp⟩) A).trans c4;replace A:=yz A O.out.size;clear k7 m)
   | (
    go_at_call 34;refine(EY _).mono ?_;rintro z q ⟨bk,rfl,km,d⟩;have V:Hid (Below wa.heap.size wa q):=yw ⟨d.os,d.tape,d.output,d.size,d.block⟩;have ke:Hid (xj q (fun k=>wa.heap.size<=k/\k<q.heap.size) bk Bk.new):=yw (km.mono fun k X l=>⟨l,X⟩);replace c0:=(V.out.cell (p:=⟨C,0,zp⟩) A).trans c0;replace c1:=(V.out.cell (p:=⟨C,1,zp⟩) A).trans c1;replace c2:=(V.out.cell (p:=⟨C,2,zp⟩) A).trans c2;replace c3:=(V.out.cell (p:=⟨C,3,zp⟩) A).trans c3;replace c4:=(V.out.cell (p:=⟨C,4,zp⟩) A).trans c4;replace A:=yz A V.out.size;clear km d))
 all_goals
  go_wp2_with fail;obtain⟨s,hs⟩:=yB q.heap.size
  refine(Pi.AJ 64 _ (by omega)).mono ?_;rintro z E ⟨rfl,k5⟩;have J:(q.alloc (zn (vy n tick gran credit lat (zo t) zp bk) 66)).alloc (zn #[zd zj 64,zd zj 0,zf zp 0 0,zd zj (-1)] 147)=E:=k5;have kl:E.heap.size=s+2:=by rw[<-J,hs];simp
  have c:E.heap[s]?=zo (zn (vy n tick gran credit lat (zo t) zp bk) 66 (0,0)):=by rw[<-J,hs];exact(Below.heap_alloc _ _ _ (by simp)).trans (heap_alloc_new q _)
  have k8:E.heap[s+1]?=zo (zn #[zd zj 64,zd zj 0,zf zp 0 0,zd zj (-1)] 147 (0,0)):=by rw[<-J,hs];have h:=heap_alloc_new (q.alloc (zn (vy n tick gran credit lat (zo t) zp bk) 66)) (zn #[zd zj 64,zd zj 0,zf zp 0 0,zd zj (-1)] 147);rw[show(q.alloc (zn (vy n tick gran credit lat (zo t) zp bk) 66)).heap.size=q.heap.size+1 by simp]at h;exact h
  have D:Below q.heap.size q E:=by rw[<-J];exact(yE q _).alloc (by simp) _
  have R:=yw (zQ hs (zQ J (zQ kl (zQ c (zQ k8 D)))));have x6:E.cell? ⟨s,6,zp⟩=zo (ze zp):=by simp only[zN,c];rfl
  have x8:E.cell? ⟨s,8,zp⟩=zo (zf zp 0 0):=by simp only[zN,c];rfl
  have x9:E.cell? ⟨s,9,zp⟩=zo (ze zp):=by simp only[zN,c];rfl
  have xf:∀j,E.frozen? ⟨s,j,zp⟩=zt:=by intro j;simp[zY,c]
  replace c0:=(D.cell (p:=⟨C,0,zp⟩) A).trans c0;replace c1:=(D.cell (p:=⟨C,1,zp⟩) A).trans c1;replace c2:=(D.cell (p:=⟨C,2,zp⟩) A).trans c2;replace c3:=(D.cell (p:=⟨C,3,zp⟩) A).trans c3;replace c4:=(D.cell (p:=⟨C,4,zp⟩) A).trans c4;replace A:=yz A D.size;rw[<-hs];clear k5 J c k8 D hs;go_upto_region 12 with(fail)
  go_region;rw[<-R.out.1];have k9:((((E.setCell ⟨s,6,zp⟩ (ze (zo ⟨s+1,0,zp⟩))).setCell ⟨s,8,zp⟩ (zf (zo ⟨s+2+1,0,zp⟩) 1 1)).setCell ⟨s,9,zp⟩ (ze (zo ⟨s+2,0,zp⟩))).alloc (zn #[zd zj 0,zd zj 0,zd zj 0,zd zk 0,zd zj 0,ze zp,ze zp] 86)).alloc (zn #[ze (zo ⟨s+2,0,zp⟩)] 59)=Vd E s:=rfl;rw[k9];obtain⟨⟨L0,K9,P,-⟩,kd⟩:=VV (w:=w) (w1:=w1) (n:=n) (tick:=tick) (gran:=gran) (credit:=credit) (lat:=lat) H1.out.1.size O.out V.out r.out ke.out R.out.1 R.out.2.1;have h5:=P.same (w':=(Vd E s).drew) (yI (Below.refl _ _)) 0
  have hr:Below w1.heap.size w1 (Vd E s).drew:=yI kd;have kf:Hid (∀W,Below w1.heap.size w1 W->W.heap[C]?=zo (zn (XG n tick gran credit lat) 54 (0,0))):=yw fun W hb=>(hb.block C (yx H1.out.2.1).1).trans H1.out.2.1;generalize(Vd E s).drew=w6 at h5 hr ⊢;have H7:=yw (zQ h5 hr);have k0:=kf.out w6 hr;clear c0 c1 c2 c3 c4 A x6 x8 x9 xf k9 P kd h5 hr O V r ke R;have c0:w6.cell? ⟨C,0,zp⟩=zo (zd zj n):=by simp[zN,k0]
  have A:C<w6.heap.size:=(yx k0).1;clear k0;obtain⟨ih,K5,kv,K3,kz⟩:=info_parts VW;obtain⟨it,ku,kx,K4,ks⟩:=info_parts VX;go_wp2_with fail;go_loopw [7,8,65] (fun _ _ i wr=>∃(k:Nat) (L:Lay) (tg:Nat->Nat),k<=n/\i=zd zj k/\SB wr (fun j=>w.heap.size<=j) s (Sc.new n tick gran credit lat) L tg k k/\Below w.heap.size w wr/\wr.heap[C]?=zo (zn (XG n tick gran credit lat) 54 (0,0))) (fun _ _ i _=>n-(intOf i).toNat)
  case atStart=>exact⟨0,L0,_,by omega,rfl,H7.out.1,yC H1.out.1 H7.out.2 H1.out.1.size,kf.out w6 H7.out.2⟩
  case round=>
   obtain⟨k,L,tg,hk,rfl,P,hb,G⟩:=hrel;have HS:=yw (zQ P (zQ hb G));clear P hb c0 A;have c4:wr.cell? ⟨C,4,zp⟩=zo (zd zk lat):=by simp[zN,G]
   have A:C<wr.heap.size:=(yx G).1;clear G;by_cases K8:k<n
   .have m2:(
     k:Int) <(n:Int):=by omega
    have K7:=yw (ER lat wr hl.1 hl.2);go_wp2_with fail;refine K7.out.mono ?_;rintro z E ⟨b,rfl,k2,ka,D⟩;have U:=HS.out.1.same D 5;obtain⟨va,vc,hv⟩:=U.vh.len;rw[uf]at hv;have H:=U.sx.vh;rw[hv]at H;have v:=U.sx.lt;have G:=(D.block C (yx HS.out.2.2).1).trans HS.out.2.2;have K2:=yw G;have R:=yw (zQ k2 (zQ ka (zQ D (zQ U hv))));clear c4 A k2 ka D U hv;have c2:E.cell? ⟨C,2,zp⟩=zo (zd zj gran):=by simp[zN,G]
    have c3:E.cell? ⟨C,3,zp⟩=zo (zd zj credit):=by simp[zN,G]
    have A:C<E.heap.size:=(yx G).1;clear G;go_upto_region 16 with(fail)
    obtain⟨q4,J⟩:=yB E.heap.size
    have ko:=yw J;have kg:C≠s:=fun e=>by have X:=HS.out.1.sx.ty;obtain⟨cs,X⟩:=X;have l:=HS.out.2.2;rw[e,X]at l;simp only[ya,Obj.cells.injEq]at l;exact absurd l.2.1 (by decide)
    clear J;go_cut []from 73 to 84 (fun wx=>∃(L2:Lay) (H3:Nat->Nat),SB wx (fun j=>w.heap.size<=j) s (Sc.new n tick gran credit lat) L2 H3 (k+1) k/\xO wx b ⟨lat,-1,0,0,0⟩/\H3 b=5/\(∀p,p<k->L2.cb p≠b)/\Below w.heap.size w wx/\wx.heap[C]?=zo (zn (XG n tick gran credit lat) 54 (0,0)))
    case first=>
     go_region_law (first
      | (
       refine step_append_lies _ (by rfl) _ _ _ (by rfl) 0 99 ih _ 1 8 underlying62 K5 kv K3 kz rfl (by omega) (zf va k vc) k (xK (xP L.hb k)) (by rfl) (ho.out.alloc _)
        ⟨a.heap.size,0,zp⟩ 1 1 [ptr q4] (by rfl) (by rfl) (World.news_of_block (cs:=#[ptr q4]) (t:=99) (fr:=(0,0)) (heap_alloc_new a _)) (by simp[Value.oneCell'])
        (by omega) (by unfold maxLen;omega) (by omega) (by first|omega|(simp;omega)) (a.heap.size+1) (by first|rfl|simp) ?_
       intro g2 cap2 w8 Q F kk m0;have ky:=yw Q;have H5:Hid (OA (fun x=>(zf va k vc).ownBlock=zo x) a w8):=yw (((OA.refl (fun x=>(zf va k vc).ownBlock=zo x) a).alloc _).grown F fun x T=>.inl T);have k4:=yw kk;have hy:w8.heap[s]?=a.heap[s]?:=H5.out.block s v (fun e'=>by obtain⟨cs,X⟩:=hq.out.1.sx.ty;exact yS ho.out X (by decide) e');have k1:w8.heap[C]?=a.heap[C]?:=H5.out.block C A (fun e'=>by have X:=Hg.out;exact yS ho.out X (by decide) e');replace H:w8.cell? ⟨s,105,zp⟩=zo (zf va k vc):=by rw[<-H];simp[zN,hy]
       replace c2:w8.cell? ⟨C,2,zp⟩=zo (zd zj gran):=by rw[<-c2];simp[zN,k1]
       replace c3:w8.cell? ⟨C,3,zp⟩=zo (zd zj credit):=by rw[<-c3];simp[zN,k1]
       have m4:∀j,w8.frozen? ⟨s,j,zp⟩=zt:=by intro j;obtain⟨cs,H8⟩:=hq.out.1.sx.ty;simp[zY,hy,H8]
       clear Q F kk hy k1)
      | (
       go_simp;go_at_call 37;refine(CP credit gran _).mono ?_;rintro z a ⟨hz,kb,o⟩;obtain rfl:z=zm (ptr q4):=by rw[hz,ko.out];rfl
       have M:Hid (Below E.heap.size E a):=yw ⟨o.os,o.tape,o.output,o.size,o.block⟩;have y:=R.out.2.2.2.1.same M.out (k+9);have h9:yT a (Own (fun j=>w.heap.size<=j) (yV (yV tg wr 5) E (k+9)) (k+9)) q4 ((Sc.new n tick gran credit lat).hs k):=by
        rw[ko.out];refine yT.mono (show yT a (fun j=>E.heap.size<=j) E.heap.size (Hm.new credit gran)from kb) fun j hj hf=>⟨?_,?_⟩
        .have X:=R.out.2.2.1.size;have l:=HS.out.2.1.size;show w.heap.size<=j;omega
        .unfold yV;rw[if_neg (by omega)]
       have hq:=yw (zQ y h9);have Hg:=yw ((M.out.block C A).trans K2.out);have ho:Hid (a.ownsRow 0 99 1 (zf va k vc) k (xK (xP L.hb k))):=yw (by have h:=y.vh.row;rw[R.out.2.2.2.2,uf]at h;exact h);have H6:=M.out.size;replace H:=(M.out.cell (p:=⟨s,105,zp⟩) v).trans H;replace c2:=(M.out.cell (p:=⟨C,2,zp⟩) A).trans c2;replace c3:=(M.out.cell (p:=⟨C,3,zp⟩) A).trans c3;replace v:=yz v H6;replace A:=yz A H6;clear hz kb o y h9))
     all_goals
      go_wp2_with fail;go_meet
      case rel=>
       have K1:=HS.out.2.1.size;have kl:=R.out.2.2.1.size;have H6:=M.out.size;have k2:=R.out.1;have kh:b<E.heap.size:=R.out.2.1.lt;have m1:=HS.out.1.sx.lt;have hi:xO a b ⟨lat,-1,0,0,0⟩:=R.out.2.1.of (M.out.block b kh);obtain⟨X,l⟩:=hq.out.1.stepH (B:=q4) (g2:=g2) (cap2:=cap2) (fun j hj=>by show w.heap.size<=j;omega) hq.out.2 (by rw[R.out.2.2.2.2];exact H5.out) ky.out (by
        rw[R.out.2.2.2.2];rcases k4.out with h3|h3
        .exact .inl h3
        .exact .inr (by omega))
       have kj:∀x cs t f,a.heap[x]?=zo (zn cs t f)->t≠99->L.vh.ownBlock≠zo x:=fun x cs t f T kr e=>by rw[R.out.2.2.2.2]at e;exact yS ho.out T kr e
       refine⟨_,_,X,hi.of (l.block b (by omega) ?_),?_,fun p hp e=>?_,?_,(l.block C A ?_).trans Hg.out⟩
       .rintro(e|e)
        .omega
        .exact kj b _ _ _ (show a.heap[b]?=zo (zn _ _ _)from hi) (by decide) e
       .unfold yV;rw[if_pos (by omega),if_pos kh,if_neg (by omega)]
       .have h3:=(HS.out.1.cs.ck p hp).2.lt;have h4:L.cb p=b:=e;omega
       .have hh:Below w.heap.size w a:=yC (yC HS.out.2.1 R.out.2.2.1 K1) M.out (by omega);refine hh.trans (l.below hh.size fun x T=>?_);rcases T with T|T
        .rw[T];exact HS.out.1.sx.own.1
        .exact(HS.out.1.vh.own x T).1
       .rintro(e|e)
        .exact kg e
        .exact kj C _ _ _ Hg.out (by decide) e
    case rest=>
     rename zu=>w9
     obtain⟨L2,H3,I,h7,kp,he,kc,ki⟩:=hcut;have g:=yw (zQ I (zQ h7 (zQ kp (zQ he (zQ kc ki)))));obtain⟨Hy,H2,K⟩:=I.cs.row.len;rw[uf]at K;have hw:=yw K;have S:=I.sx.vc;rw[K]at S;have h8:=I.sx.lt;have H0:Hid (w9.ownsRow 0 107 1 (zf Hy k H2) k (xK (xP L2.cb k))):=yw (by have h:=I.cs.row.row;rw[K,uf]at h;exact h);clear I h7 kp he kc ki K c2 c3 A H v
     go_wp2_with (at_builtin;go_loud (refine wpList_append_own_at _ rfl _ _ 63 rfl 0 107 it (ze zp) 1 8 underlying63 ku kx K4 ks rfl (by decide) _ k (xK (xP L2.cb k)) rfl (H0.out.alloc _) ⟨w9.heap.size,0,zp⟩ 1 1 [ptr b] rfl rfl ?c1 ?c2 ?c3 ?c4 ?c5 ?_))
     case c1=>exact World.news_of_block (cs:=#[ptr b]) (t:=107) (fr:=(0,0)) (heap_alloc_new w9 _)
     case c2=>intro u hu;simp at hu;subst hu;rfl
     case c3=>unfold maxLen;omega
     case c4=>omega
     case c5=>omega
     intro v' wA Z k6 _ ha;rcases Z.2 with⟨_,h0⟩|⟨gA,k3,cur,K0,_⟩
     .omega
     subst K0;have r:Hid (OA (fun x=>L2.vc.ownBlock=zo x) w9 wA):=yw (by rw[hw.out];exact((OA.refl (fun x=>(zf Hy k H2).ownBlock=zo x) w9).alloc _).grown k6 fun x T=>.inl T);have K6:=yw Z;have kq:Hid (L2.vc.ownBlock=zo gA∨w9.heap.size<=gA):=yw (by
      rw[hw.out];rcases ha with h3|h3
      .exact .inl h3.symm
      .have h4:gA=w9.heap.size+1:=zx h3;exact .inr (by omega))
     have h6:wA.heap[s]?=w9.heap[s]?:=r.out.block s h8 (fun e'=>by obtain⟨cs,X⟩:=g.out.1.sx.ty;rw[hw.out]at e';exact yS H0.out X (by decide) e');have sA:wA.cell? ⟨s,106,zp⟩=zo (zf Hy k H2):=by rw[<-S];simp[zN,h6]
     have m3:∀j,wA.frozen? ⟨s,j,zp⟩=zt:=by intro j;obtain⟨cs,H8⟩:=g.out.1.sx.ty;simp[zY,h6,H8]
     clear Z k6 ha h6 S h8;go_wp2_with fail;go_roundw
     case rel=>
      have kt:=g.out.2.2.2.2.1.size;obtain⟨X,l⟩:=g.out.1.stepC (B:=b) (g2:=gA) (cap2:=k3) (fun j hj=>by show w.heap.size<=j;omega) g.out.2.1 ⟨by show w.heap.size<=b;have:=R.out.1;have:=HS.out.2.1.size;omega,g.out.2.2.1⟩ g.out.2.2.2.1 r.out K6.out kq.out;refine⟨k+1,_,_,by omega,by go_num,X,?_,?_⟩
      .refine g.out.2.2.2.2.1.trans (l.below kt fun x T=>?_);rcases T with T|T
       .rw[T];exact g.out.1.sx.own.1
       .exact(g.out.1.cs.row.own x T).1
      .refine(l.block C (yx g.out.2.2.2.2.2).1 ?_).trans g.out.2.2.2.2.2;rintro(e|e)
       .exact kg e
       .rw[hw.out]at e;exact yS H0.out g.out.2.2.2.2.2 (by decide) e
     case measure=>simp[intOf];omega
   .have kw:k=n:=by omega
    subst kw;go_wp2;go_ret2;exact⟨s,L,rfl,HS.out.1.done,HS.out.2.1⟩
theorem XH(A E G B D:Int)(w:zu)(h0:0<=A/\A<=65535)(h1:0<=E/\E<=65535)(h2:0<=G/\G<=65535)(h3:0<=B/\B<=65535)(h4:0<=D/\D<=65535):
 zw prog 5 #[.agg #[zd .u16 A,zd .u16 E,zd .u16 G,zd .u16 B,zd .u16 D]] w fun z w'=>∃s L,z=zm (ptr s)/\yK w' (fun k=>w.heap.size<=k) s (Sc.new (1+A%8).toNat (1+E) G B (1+D)) L/\Below w.heap.size w w':=by
 obtain⟨n,O⟩:∃n:Nat,(n:Int)=1+A%8:=⟨(1+A%8).toNat,by omega⟩
 have H:(1+A%8).toNat=n:=by omega
 have hb:=yE w (zn #[zd .u16 A,zd .u16 E,zd .u16 G,zd .u16 B,zd .u16 D] 23);have M:=Ml n (1+E) G B (1+D) (w.alloc (zn #[zd .u16 A,zd .u16 E,zd .u16 G,zd .u16 B,zd .u16 D] 23)) (by omega) (by omega) (by omega) (by omega) (by omega);rw[show XG n (1+E) G B (1+D)=#[zd zj (1+A%8),zd zj (1+E),zd zj G,zd zj B,zd zk (1+D)]by rw[<-O]]at M;have T:=yw M;have J:=yw (zQ H hb);clear M O H hb;go_enter func5,ntmps5;go_wp2_with fail;refine T.out.mono ?_;rintro z w2 ⟨s,L,rfl,hs,I⟩;have R:=yw (zQ hs I);clear hs I;go_wp2;go_ret;have N:=J.out.2.size
 refine⟨s,L,rfl,?_,yC J.out.2 R.out.2 N⟩;rw[J.out.1];exact R.out.1.mono fun k _ hk=>Nat.le_trans N hk
theorem XY(e:Ev)(b:Nat)(w:zu)(F:Nat->Prop)(s:Nat)(S:Sc)(L:Lay)(h:yK w F s S L)(ok:S.Fit b)(he:0<=e.mask/\e.mask<=18446744073709551615)(ha:b<900)
 (g:Nat) (x:Gp) (hg:S.grp? e.a=zo g) (hx:S.gs[g]?=zo x) (H4:x.there=zq) (u: -20<=e.n/\e.n<=19) (p:Nat) (H6:S.free (-1) e.mask=zo p) (hE:S.pool.SD 64=0):
 zw prog 45 #[ptr s,.agg (OX e)] w (Yq w F s ((S.SO g p e).put S.ts.length p zt,S.ts.length,0)):=by
 obtain⟨w1,hh⟩:=yB (w.alloc (zn (OX e) 35))
 have k2:Below w.heap.size w w1:=by rw[hh];exact yE w _
 have P:RG w1 w.heap.size e:=by rw[hh];exact RG.new w e
 obtain⟨T,o⟩:∃T:Nat->Prop,T=fun k=>F k/\k<w.heap.size:=⟨_,rfl⟩
 have mc:Hid (∀k,T k->F k):=yw (by rw[o];exact fun k hk=>hk.1);have m6:Hid (∀k,T k->k<w.heap.size):=yw (by rw[o];exact fun k hk=>hk.2);have kb:Hid (yK w1 T s S L):=yw (by rw[o];exact h.PA.behind k2);have ks:=yw k2;have HG:=yw (xG e.a w1 T s S L kb.out (by have:=ok.1.gl;have:=ok.1.RY;omega));rw[hg,show Yg L.gb (zo g)=ptr (L.gb g)from rfl]at HG;obtain⟨D,hD⟩:=yB w.heap.size
 have K9:Hid (¬T D):=yw (by rw[o,hD];intro hk;omega);rw[<-hD]at P;have HE:=yw P;obtain⟨-,e1,-,e3,-,e5⟩:=P.c6;have d:=P.lt;have hw:=Bg u.1 u.2;have HW:=yw (Du e.n w1 u.1 u.2);have w8:=Of (n:=e.n) (by omega) (by omega);have ms:=Xt (n:=e.n) (by omega) (by omega);obtain⟨W,hW⟩:=yB (vd e.n)
 have ki:=yw (fun W2 (h2:yK W2 T s S L)=>Kd (-1) e.mask b W2 T s S L h2 ok.1 he.1 he.2 (.inl rfl));rw[Xs,H6,show Ke (zo p)=p from rfl,show Cx (zo p)=zq from rfl]at ki;have H9:=Ey ok.1 H6;have K7:=yw ok.1.dA;have C:=ok.1.tl;obtain⟨⟨fA,t9,kd,kc,k9⟩⟩:Nonempty (Σ' (_:(S.SO g p e).Fit (b+1)) (t9:Tk) (_:(S.SO g p e).ts[S.ts.length]?=zo t9) (_:t9.dead=zt),t9.on=zt):=by obtain⟨f1,t,E,h2,h3⟩:=Af ok ha hx H4 H9 u he hE;exact⟨⟨f1,t,E,h2,h3⟩⟩
 obtain⟨H8,kh,kx,K3⟩:=Qf fA kd kc k9;obtain⟨I,hI⟩:=yB (S.pool.RL 64)
 obtain⟨G,hG⟩:=yB (S.pool.SU 64)
 obtain⟨J,kz⟩:∃J,J=({ S with pool:=S.pool.put 64 S.ts.length }:Sc):=⟨_,rfl⟩
 obtain⟨V,HX,mj,ku,HI,kk,K6,mm⟩:=Qj kz hx H4 H9 hI hG hW hE;rw[<-hW]at HW hw;obtain⟨N,k1⟩:=yB S.ts.length
 have R:=yw k1;unfold Yq;obtain⟨O,hO⟩:=yB (((S.SO g p e).put S.ts.length p zt))
 have HO:=yw hO;rw[<-hO,<-k1];clear h ok k2 P o hg H6 hx H4 H9 hE hI hG kz hW k1 hO fA kd kc k9;go_enter func45,ntmps45;go_wp2_with fail;rw[show w.alloc (zn (OX e) 35)=w1 from hh.symm,<-hD];clear hh hD;refine HG.out.mono ?_;rintro z w2 ⟨rfl,K5⟩;obtain rfl:=K5.symm;go_wp2_with fail;refine HW.out.mono ?_;rintro z w2 ⟨rfl,hm⟩;obtain⟨kl,kj,Hy⟩:=Qe (yC ks.out hm ks.out.size) (kb.out.behind hm) (HE.out.behind hm);clear hm e1 e3 e5 d;obtain⟨-,e1,-,e3,-,e5⟩:=Hy.out.c6;have d:=Hy.out.lt;go_wp2_with fail;refine(ki.out _ kj.out).mono ?_;rintro z w3 ⟨rfl,ho⟩
 obtain⟨kp,Hg,hq⟩:=Qe (yC kl.out ho kl.out.size) (kj.out.behind ho) (Hy.out.behind ho);clear ho e1 e3 e5 d;obtain⟨-,e1,-,e3,-,e5⟩:=hq.out.c6;have d:=hq.out.lt;obtain⟨⟨va,vc,H5⟩,s7,-⟩:=Hg.out.RN;have ht:=yw H5;rw[H5,<-R.out]at s7;have X:=Hg.out.RZ.2;obtain⟨kf,s6,hU⟩:=Hg.out.dS;have HU:=yw hU;have HP:=yw (Pi.bO N (b+2) w3 0 L.pp 64 S.pool kf K7.out (by omega) (Nat.zero_le _));rw[<-HI.out,<-kk.out,mm.out]at HP;have K2:N<=900:=by rw[R.out];omega
 clear H5 kf hU;go_wp2_with fail;refine HP.out.mono ?_;rintro z A ⟨rfl,ka,H2⟩;have M:Hid (yG w3 T s J L A):=yw (by rw[V.out,<-R.out];exact HU.out _ _ H2 ka);have kt:Hid (RG A D e):=yw ((M.out.2.block D hq.out.lt K9.out).trans hq.out);clear ka H2 e1 e3 e5 d s7 X s6;obtain⟨-,e1,-,e3,-,e5⟩:=kt.out.c6;have d:=kt.out.lt;have X:=M.out.1.RZ.2;go_wp2_with fail;obtain⟨m,q⟩:=yB ((A.alloc (zn #[zd zj ↑I,zd zj G] 78)).alloc (zn (Ju L.gb ⟨I,G,zt,zt,p,g,e.n,W,e.mask,⟨0,0,0,0⟩,0⟩) 82 (0,0)))
 obtain⟨H,hH⟩:=yB A.heap.size
 have hu:Below A.heap.size A m:=by rw[q];exact((Below.refl _ A).alloc (yA _) _).alloc (by simp) _
 have Y:RR m (A.heap.size+1) L.gb ⟨I,G,zt,zt,p,g,e.n,W,e.mask,⟨0,0,0,0⟩,0⟩:=by rw[q];have:=heap_alloc_new (A.alloc (zn #[zd zj ↑I,zd zj G] 78)) (zn (Ju L.gb ⟨I,G,zt,zt,p,g,e.n,W,e.mask,⟨0,0,0,0⟩,0⟩) 82 (0,0));rw[show(A.alloc (zn #[zd zj ↑I,zd zj G] 78)).heap.size=A.heap.size+1 by simp]at this;exact this
 have Q:m.cell? ⟨H,0,zp⟩=zo (zd zj I):=by rw[q,hH];have E:=heap_alloc_new A (zn #[zd zj ↑I,zd zj G] 78);have h2:=Below.heap_alloc (A.alloc (zn #[zd zj ↑I,zd zj G] 78)) (zn (Ju L.gb ⟨I,G,zt,zt,p,g,e.n,W,e.mask,⟨0,0,0,0⟩,0⟩) 82 (0,0)) A.heap.size (by simp);simp[zN,h2.trans E]
 have kr:Hid (yG w3 T s J L m):=yw (M.out.below hu);have m0:Hid (∀l,Below m.heap.size m l->l.cell? ⟨H,0,zp⟩=zo (zd zj I)):=yw fun l hb=>(hb.cell (p:=⟨H,0,zp⟩) (zP m _ Q)).trans Q;have m1:Hid (H=A.heap.size):=yw hH;obtain⟨B,hB⟩:=yB (A.heap.size+1)
 have hr:Hid (B=A.heap.size+1):=yw hB;rw[<-hB]at Y;have hn:B≠H:=by omega
 have m9:=yw Y;have k8:H<m.heap.size:=by have:=Y.lt;omega
 have C:=Y.lt;have hy:=Y.OH;have b5:=Y.TY.2.2.2.2.2.1;have kw:=yw (Jw B g p x m.drew (Ext T w3 A) s J L ((M.out.1.kept (.NZ hu)).kept fun _ _ _=>rfl) (by rw[V.out];exact HX.out) (H8.out.1.hi (n:=g) (g:=x) HX.out mj.out) (by rw[V.out];exact ku.out) (by exact b5));obtain⟨mn,H1⟩:=yB ((J.hs p).minOf x.hi)
 rw[<-H1]at kw;have K4:=yw H1;have X:=kr.out.1.RZ.2;have ky:=yw hu;rw[<-hB,<-hH];change Code.wp _ _ _ _ ((A.alloc (zn #[zd zj ↑I,zd zj G] 78)).alloc (zn (Ju L.gb ⟨I,G,zt,zt,p,g,e.n,W,e.mask,⟨0,0,0,0⟩,0⟩) 82 (0,0)));rw[<-q];clear q hH hB hu Y H1 e1 e3 e5 d;go_region_held3 (fun w'=>w'.cell? ⟨H,0,zp⟩=zo (zd zj I)) (first|go_keep|fail)
  (first
   | (
    go_at_call 88;refine kw.out.mono ?_;rintro z l ⟨rfl,Z⟩;have hj:Hid (Below m.heap.size m l):=yw ⟨Z.os,Z.tape,Z.output,Z.size,Z.block⟩;replace Q:=(hj.out.cell (p:=⟨H,0,zp⟩) k8).trans Q;have hv:Hid (RR l B L.gb ⟨I,G,zt,zt,p,g,e.n,W,e.mask,⟨0,0,0,0⟩,0⟩):=yw (m9.out.of (Z.block B C));have m3:Hid (yG w3 T s J L l):=yw (kr.out.below hj.out);clear C hy X k8 Z b5;have C:=hv.out.lt;have hy:=hv.out.OH;have X:=m3.out.1.RZ.2;obtain⟨-,-,-,-,-,-,-,-,-,t9,m2,K8,mg,-⟩:=hv.out.TY))
 all_goals
  clear Q C hy X t9 m2 K8 mg;obtain⟨U,K⟩:=yB ((((l.setCell ⟨B,9,zp⟩ (zd zj I)).setCell ⟨B,10,zp⟩ (zd zk W)).setCell ⟨B,11,zp⟩ (zd zj mn)).setCell ⟨B,12,zp⟩ (zd zk 0))
  have x1:RR (l.setCell ⟨B,9,zp⟩ (zd zj I)) B L.gb ⟨I,G,zt,zt,p,g,e.n,W,e.mask,⟨I,0,0,0⟩,0⟩:=yD hv.out;have x2:RR ((l.setCell ⟨B,9,zp⟩ (zd zj I)).setCell ⟨B,10,zp⟩ (zd zk W)) B L.gb ⟨I,G,zt,zt,p,g,e.n,W,e.mask,⟨I,W,0,0⟩,0⟩:=yD x1;have x3:RR (((l.setCell ⟨B,9,zp⟩ (zd zj I)).setCell ⟨B,10,zp⟩ (zd zk W)).setCell ⟨B,11,zp⟩ (zd zj mn)) B L.gb ⟨I,G,zt,zt,p,g,e.n,W,e.mask,⟨I,W,mn,0⟩,0⟩:=yD x2;have kn:RR U B L.gb ⟨I,G,zt,zt,p,g,e.n,W,e.mask,⟨I,W,mn,0⟩,0⟩:=by rw[K];exact yD x3
  have k0:Below A.heap.size A U:=by rw[K];have E:=yC ky.out hj.out ky.out.size;have h2:=hr.out;exact(((E.setCell (p:=⟨B,9,zp⟩) (by show _<=B;omega) _).setCell (p:=⟨B,10,zp⟩) (by show _<=B;omega) _).setCell (p:=⟨B,11,zp⟩) (by show _<=B;omega) _).setCell (p:=⟨B,12,zp⟩) (by show _<=B;omega) _
  have Q:U.cell? ⟨H,0,zp⟩=zo (zd zj I):=by have h0:l.cell? ⟨H,0,zp⟩=zo (zd zj I):=m0.out l hj.out;rw[K,World.cell?_setCell_far _ _ _ _ hn,World.cell?_setCell_far _ _ _ _ hn,World.cell?_setCell_far _ _ _ _ hn,World.cell?_setCell_far _ _ _ _ hn];exact h0
  have mf:=yw k0;have H3:=yw kn;have h7:yK U (Ext T w3 A) s J L:=M.out.1.kept (.NZ k0);have H7:=yw h7;have X:=h7.RZ.2;obtain⟨-,s7,-⟩:=h7.RN;rw[ht.out,<-R.out]at s7;have f:=h7.iT;rw[show J.ts=S.ts by rw[V.out],<-R.out,ht.out,<-R.out]at f;have k7:∀k,(zf va N vc).ownBlock=zo k->k≠s:=fun k hk e'=>by subst e';have E:=h7.tyS;obtain⟨cs,E⟩:=E;exact yS f E (by decide) hk
  have me:=yw k7;have m7:Hid (∀k,(zf va N vc).ownBlock=zo k->k<A.heap.size):=yw fun k hk=>(M.out.1.iT).lt k (by rw[ht.out,<-R.out];exact hk) |>.2
  have mi:=yw f;have h6:I<64:=by have h:=kh.out;have h8:=(H8.out.1.tk S.ts.length t9 h kx.out).hi;rw[show(S.SO g p e).ts=S.ts++ [_]from rfl,zV (yA _),Nat.sub_self]at h;have h9:S.pool.RL 64=t9.hi:=congrArg Tk.hi (zx h);rw[HI.out,h9];exact h8
  obtain⟨i0,hi,m5,mo,ma⟩:=info_parts VR;rw[<-K];clear K x1 x2 x3 k0 kn h7 f k7;have my:(I:Int) <64:=by omega
  have mw:(0:Int)<=(I:Int):=by omega
  have kg:∀(w9:zu) (g2 cap2:Nat),yG U (fun k=>Ext T w3 A k∨k=B) s { J with ts:=J.ts++ [(⟨I,G,zt,zt,p,g,e.n,W,e.mask,⟨I,W,mn,0⟩,0⟩:Tk)],at_:=OV J.at_ I J.ts.length } { L with tb:=OV L.tb J.ts.length B,vt:=zf (zo ⟨g2,0,zp⟩) (N+1) cap2 } w9->
   zw prog 89 #[ptr s,ptr B,zd zj p,.bool zt] w9 fun z w'=>(∃v,z=zm v)/\∃L',yG w F s O L' w':=by
   intro w9 g2 cap2 hl;have k5:S.SO g p e={ J with ts:=J.ts++ [(⟨I,G,zt,zt,p,g,e.n,W,e.mask,⟨I,W,mn,0⟩,0⟩:Tk)],at_:=OV J.at_ I J.ts.length }:=by unfold Sc.SO;rw[Sc.PE HX.out,<-HI.out,<-kk.out,<-K6.out,K4.out,V.out]
   rw[<-k5]at hl;have h3:yG w3 T s (S.SO g p e) { L with tb:=OV L.tb J.ts.length B,vt:=zf (zo ⟨g2,0,zp⟩) (N+1) cap2 } w9:=by
    have H2:=M.out.2.size;have mx:=hr.out;have mu:=H3.out.lt;refine⟨hl.1.mono fun k hk hf=>?_,(M.out.2.trans (OA.NZ mf.out:OA T A U) fun k hk=>.inl hk).trans hl.2 fun k hk=>?_⟩
    .rcases hf with((E|E)|E)|E
     .exact .inl E
     .exact .inr ⟨E.1,by omega⟩
     .exact .inr ⟨by omega,by omega⟩
     .exact .inr ⟨by omega,E.2⟩
    .rcases hk with(E|E)|E
     .exact .inl E
     .exact .inr E.1
     .exact .inr (by omega)
   have h4:=yG.NZ kp.out h3;have hp:=Wu S.ts.length p zt t9 (b+1) w9 _ s (S.SO g p e) _ h4.1 H8.out.1 kh.out kx.out K3.out (show p<S.ps from ku.out);rw[show({ L with tb:=OV L.tb J.ts.length B,vt:=zf (zo ⟨g2,0,zp⟩) (N+1) cap2 }:Lay).tb S.ts.length=B by rw[show J.ts=S.ts by rw[V.out]];exact yR _ _ _]at hp;refine hp.mono ?_;rintro z ml ⟨hz,k4⟩;have kq:=(h4.then k4).grow mc.out;rw[<-HO.out]at kq;exact⟨hz,_,kq⟩
  have mh:=yw kg;have ke:¬Ext T w3 A B:=by
   rintro(E|E)
   .have h2:=m6.out B E;have h3:=kp.out.size;have h4:=M.out.2.size;have h5:=hr.out;omega
   .have h5:=hr.out;have:=E.2;omega
  have mb:=yw ke;have K0:N=J.ts.length:=by rw[R.out,V.out]
  have md:=yw K0;clear kg ke K0;have k3:=zP U _ Q;obtain⟨mr,K1⟩:∃c,c=vc:=⟨_,rfl⟩
  go_wp2_with fail;go_region_law (
   refine step_append_lies _ (by rfl) _ _ _ (by rfl) 0 74 i0 _ 1 8 underlying57 hi m5 mo ma rfl (by omega) (zf va N vc) N (xK (qK L.tb S.ts)) (by rfl) ((show U.drew.ownsRow 0 74 1 (zf va N vc) N (xK (qK L.tb S.ts))from mi.out).alloc _)
    ⟨U.heap.size,0,zp⟩ 1 1 [ptr B] (by rfl) (by rfl) (World.news_of_block (cs:=#[ptr B]) (t:=74) (fr:=(0,0)) (heap_alloc_new U.drew _)) (by simp[Value.oneCell'])
    (by omega) (by unfold maxLen;omega) (by omega) (by first|omega|(simp;omega)) (U.heap.size+1) (by first|rfl|simp) ?_
   intro g2 cap2 w8 y r kv mv;have mq:=yw y;have H0:Hid (OA (fun k=>(zf va N vc).ownBlock=zo k) U w8):=yw (((OA.refl (fun k=>(zf va N vc).ownBlock=zo k) U).drew.alloc _).grown r fun k hk=>.inl hk);have k6:=yw kv;have hc:w8.heap[s]?=U.heap[s]?:=H0.out.block s X (fun e'=>me.out s e' rfl);have ko:w8.heap[H]?=U.heap[H]?:=H0.out.block H k3 (fun e'=>by have:=m7.out H e';have:=m1.out;omega);replace Q:w8.cell? ⟨H,0,zp⟩=zo (zd zj I):=by rw[<-Q];simp[zN,ko]
   replace s7:w8.cell? ⟨s,7,zp⟩=zo (zf va N vc):=by rw[<-s7];simp[zN,hc]
   have cI:w8.cell? ⟨s,41+I,zp⟩=zo (zd zj ((J.at_ I:Nat):Int)):=by rw[<-H7.out.atC h6];simp[zN,hc]
   have m4:∀j,w8.frozen? ⟨s,j,zp⟩=zt:=by intro j;obtain⟨cs,m8⟩:=H7.out.tyS;simp[zY,hc,m8]
   clear y r kv hc ko)
  all_goals
   have km:=yw (mh.out _ g2 cap2 (H7.out.iU H3.out.lt mb.out H3.out (by rw[ht.out,<-R.out]) md.out H0.out (by rw[show J.ts=S.ts by rw[V.out]];exact mq.out) k6.out h6));clear Q s7 cI m4;generalize(w8.setCell ⟨s,7,zp⟩ (zf (zo ⟨g2,0,zp⟩) (N+1) cap2)).setCell ⟨s,41+I,zp⟩ (zd zj N)=w9 at km ⊢;go_wp2_with fail;refine km.out.mono ?_;rintro z ml ⟨⟨v,rfl⟩,L',hl⟩;have mp:=yw hl;clear hl;go_wp2;go_ret2;exact⟨L',rfl,mp.out⟩
theorem Ay(e:Ev)(b:Nat)(w:zu)(F:Nat->Prop)(s:Nat)(S:Sc)(L:Lay)(h:yK w F s S L)(I:S.Fit b)(he:0<=e.mask/\e.mask<=18446744073709551615)(u:b<900):
 zw prog 45 #[ptr s,.agg (OX e)] w (Yq w F s (S.spawn e)):=by
 obtain⟨w1,A⟩:=yB (w.alloc (zn (OX e) 35))
 have y:Below w.heap.size w w1:=by rw[A];exact yE w _
 have hE:RG w1 w.heap.size e:=by rw[A];exact RG.new w e
 obtain⟨j,c⟩:∃j:Nat->Prop,j=fun k=>F k/\k<w.heap.size:=⟨_,rfl⟩
 have ht:Hid (∀k,j k->F k):=yw (by rw[c];exact fun k hk=>hk.1);have m:Hid (yK w1 j s S L):=yw (by rw[c];exact h.PA.behind y);have N:Hid (yG w F s S L w1):=yw ((yG.refl h).below y);have hi:=yw I;have HH:=yw h;have r:=yw (xG e.a w1 j s S L m.out (by have:=I.1.gl;have:=I.1.RY;omega));obtain⟨D,G⟩:=yB w.heap.size
 have hr:Hid (¬j D):=yw (by rw[c,G];intro hk;omega);rw[<-G]at hE;have HE:=yw hE;obtain⟨-,C,-,P,-,K⟩:=hE.c6;clear h y hE c;obtain⟨O,H⟩:=yB (S.spawn e)
 rw[<-H];cases hg:S.grp? e.a with
 | none=>
  have d:O=(S,0,2):=by rw[H];unfold Sc.spawn;rw[hg]
  subst d;rw[hg]at r;unfold Yq;clear H hg I;go_enter func45,ntmps45;go_wp2_with fail;rw[show w.alloc (zn (OX e) 35)=w1 from A.symm,<-G];clear A G;refine r.out.mono ?_;rintro z Q ⟨rfl,hw⟩;obtain rfl:=hw.symm;go_wp2;go_ret2;exact⟨L,rfl,N.out⟩
 | some g=>
  obtain⟨-,x,hx,X,Z⟩:=xm hg;have hj:=yw hg;rw[hg,show Yg L.gb (zo g)=ptr (L.gb g)from rfl]at r;by_cases h8: -128<=e.n/\e.n<=127
  .have w8:=Of h8.1 h8.2;have h9:=Xt h8.1 h8.2;by_cases V: -20<=e.n/\e.n<=19
   .have J:uL e.n=zq:=by unfold uL;exact decide_eq_true V
    have f:=yw (fun W2 (h2:yK W2 j s S L)=>Kd (-1) e.mask b W2 j s S L h2 I.1 he.1 he.2 (.inl rfl));have HW:=yw (Du e.n w1 V.1 V.2);obtain⟨W,hW⟩:=yB (vd e.n)
    rw[<-hW]at HW;cases hfr:S.free (-1) e.mask with
    | none=>
     have d:O=(S,0,9):=by rw[H];unfold Sc.spawn;simp only[hg,J,hfr];rfl
     subst d;rw[Xs,hfr,show Ke (zp:Option Nat)=0 from rfl,show Cx (zp:Option Nat)=zt from rfl]at f;unfold Yq;clear H hg I hx X Z J hW hfr;go_enter func45,ntmps45;go_wp2_with fail;rw[show w.alloc (zn (OX e) 35)=w1 from A.symm,<-G];clear A G;refine r.out.mono ?_;rintro z Q ⟨rfl,B⟩;obtain rfl:=B.symm;go_wp2_with fail;refine HW.out.mono ?_;rintro z Q ⟨rfl,E⟩;have R:=yw E;have q:=yw (m.out.behind E);clear E C P K;obtain⟨-,C,-,P,-,K⟩:=(HE.out.behind R.out).c6;go_wp2_with fail;refine(f.out _ q.out).mono ?_;rintro z w3 ⟨rfl,T⟩;have Y:=yw ((N.out.below R.out).below T);clear T C P K
     go_wp2;go_ret2;exact⟨L,rfl,Y.out⟩
    | some p=>
     by_cases M:S.pool.SD 64=0
     .have hn:S.spawn e=((S.SO g p e).put S.ts.length p zt,(S.ts.length:Int),0):=by unfold Sc.spawn;simp only[hg,J,hfr];rw[if_neg (by decide:¬(zq=zt)),if_neg (fun h=>h M)]
      rw[H,hn];exact XY e b w F s S L HH.out hi.out he u g x hj.out hx X V p hfr M
     .have d:O=(S,0,3):=by rw[H];unfold Sc.spawn;simp only[hg,J,hfr];rw[if_pos M];rfl
      subst d;rw[Xs,hfr,show Ke (zo p)=p from rfl,show Cx (zo p)=zq from rfl]at f;have o:S.pool.put 64 S.ts.length=S.pool/\S.pool.SD 64=3/\S.pool.RL 64=0/\S.pool.SU 64=0:=by
       by_cases hm:S.pool.many=64
       .unfold Pi.Ps.put Pi.Ps.SD Pi.Ps.RL Pi.Ps.SU;rw[if_pos hm,if_pos hm,if_pos hm,if_pos hm];exact⟨rfl,rfl,rfl,rfl⟩
       .exact absurd (by unfold Pi.Ps.SD;rw[if_neg hm]) M
      obtain⟨t,h4,h0,U⟩:=o;obtain⟨nn,v⟩:=yB S.ts.length
      have hp:=yw v;have hc:=yw I.1.dA;have h7:nn<=900:=by have:=I.1.tl;have:=I.1.RY;omega
      rw[<-v]at t;obtain⟨ha,hh,l⟩:=Qe t h4 (zQ h0 U);unfold Yq;clear H hg I hx X Z J hW hfr M v t h4 h0 U;go_enter func45,ntmps45;go_wp2_with fail;rw[show w.alloc (zn (OX e) 35)=w1 from A.symm,<-G];clear A G;refine r.out.mono ?_;rintro z Q ⟨rfl,B⟩;obtain rfl:=B.symm;go_wp2_with fail;refine HW.out.mono ?_;rintro z Q ⟨rfl,E⟩;have R:=yw E;have q:=yw (m.out.behind E);clear E C P K;obtain⟨-,C,-,P,-,K⟩:=(HE.out.behind R.out).c6;go_wp2_with fail;refine(f.out _ q.out).mono ?_;rintro z w3 ⟨rfl,T⟩;have Y:=yw ((N.out.below R.out).below T)
      clear T C P K;obtain⟨⟨va,vc,h6⟩,s7,-⟩:=Y.out.1.RN;rw[h6,<-hp.out]at s7;obtain⟨h5,s6,hU⟩:=Y.out.1.dS;have HU:=yw hU;have HP:=yw (Pi.bO nn (b+2) w3 0 L.pp 64 S.pool h5 hc.out (by omega) (Nat.zero_le _));rw[ha.out,hh.out,l.out.1,l.out.2]at HP;clear h6 h5 hU;go_wp2_with fail;refine HP.out.mono ?_;rintro z w4 ⟨rfl,h3,U⟩;have hf:Hid (yG w F s S L w4):=yw (Y.out.then (HU.out _ _ U h3));clear h3 U s7 s6;go_wp2_with fail;go_ret2;exact⟨L,rfl,hf.out.below (yE _ _)⟩
   .have d:O=(S,0,1):=by rw[H];unfold Sc.spawn;simp only[hg];rw[if_pos (by unfold uL;exact decide_eq_false V)]
    subst d;have HW:=yw (Gq e.n w1 (by omega));unfold Yq;clear H hg I hx X Z;go_enter func45,ntmps45;go_wp2_with fail;rw[show w.alloc (zn (OX e) 35)=w1 from A.symm,<-G];clear A G;refine r.out.mono ?_;rintro z Q ⟨rfl,B⟩;obtain rfl:=B.symm;go_wp2_with fail;refine HW.out.mono ?_;rintro z w3 ⟨rfl,hl⟩;obtain rfl:=hl.symm;go_wp2;go_ret2;exact⟨L,rfl,N.out⟩
  .have d:O=(S,0,1):=by rw[H];unfold Sc.spawn;simp only[hg];rw[if_pos (by unfold uL;exact decide_eq_false (by omega))]
   subst d;have h1:=FU e.n;have h9:=Xt h1.1 h1.2;have hq:(e.n == IntKind.i8.wrap e.n)=zt:=by simp;omega
   unfold Yq;clear H hg I hx X Z;go_enter func45,ntmps45;go_wp2_with fail;rw[show w.alloc (zn (OX e) 35)=w1 from A.symm,<-G];clear A G;refine r.out.mono ?_;rintro z Q ⟨rfl,B⟩;obtain rfl:=B.symm;go_wp2;go_ret2;exact⟨L,rfl,N.out⟩
