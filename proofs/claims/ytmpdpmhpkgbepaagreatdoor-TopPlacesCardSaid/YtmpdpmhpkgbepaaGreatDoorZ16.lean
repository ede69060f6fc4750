/- Parts for TopPlaces. Conditions: as stated. -/
import Derived.Test.YtmpdpmhpkgbepaaGreatDoorZ15
set_option linter.unusedVariables false
set_option maxRecDepth 100000
set_option maxHeartbeats 4000000
open Go.Value renaming int->zd,pointer->ze,agg->zg
open Go.IntKind renaming i64->zj
open Go.Ending renaming returned->zm
open Option renaming some->zo,none->zp
open Bool renaming true->zq,false->zt
open List renaming getElem?_eq_getElem->zy,getElem?_map->zG,getD_eq_getElem?_getD->zH,mem_of_getElem?->zW,mem_map->yh
open And renaming intro->zQ
open Go.RowKit.Below renaming refl->zU
open Go.Proofs.Tryz
namespace Go.Proofs.YtmpdpmhpkgbepaaGreatDoor
open Go Go.RowKit Go.ChangeShapes Go.WideShapes
variable {w:World}{y k:Nat}{x:SZ}{q:Pl}{s:Ps}{g:Int}
theorem EJ(i g J g2 O V:Int)(T a:SZ)(b:O=2∨(O=0/\V=2))(w:World)(M:Option Addr)
 (X:∀W,Below w.heap.size w W->Calls prog 64 #[ze M,zg #[zd zj i,zd zj g]] W fun e w'=>e=zm (.tuple #[zg (yU T),zd zj O])/\Below W.heap.size W w')
 (H:∀W,Below w.heap.size w W->Calls prog 64 #[ze M,zg #[zd zj J,zd zj g2]] W fun e w'=>e=zm (.tuple #[zg (yU a),zd zj V])/\Below W.heap.size W w'):
 Calls prog 78 #[ze M,zg #[zd zj i,zd zj g],zg #[zd zj J,zd zj g2]] w fun e w'=>e=zm (zd zj 2)/\Below w.heap.size w w':=by
 have Y:=yw (X ((w.alloc (yX i g)).alloc (yX J g2)) ((yE w _).alloc (by simp) _));have N:=yw H;clear X H;rcases b with rfl|⟨rfl,rfl⟩
 all_goals
  go_enter func78,ntmps78;go_wp2_with fail;refine Y.out.mono ?_;rintro e U ⟨rfl,B⟩;have A:Hid (Below w.heap.size w U):=yw (yC ((yE w _).alloc (by simp) _) B (by simp;omega));have D:Hid (Hx U (w.heap.size+1) J g2):=yw ((Hx.AP w _ _ _).behind B);clear B;obtain⟨R,E⟩:=yB (w.heap.size+1)
  rw[<-E]at D ⊢;clear E;obtain⟨c,Z⟩:=D.out.c2;have pl:=D.out.lt;go_wp2_with fail;refine(N.out _ (A.out.alloc A.out.size _)).mono ?_;rintro e w3 ⟨rfl,I⟩;have G:=yw (yC (A.out.alloc A.out.size (xN T)) I (by have:=A.out.size;simp;omega));clear I c Z pl;go_wp2;go_ret;exact⟨rfl,G.out.alloc G.out.size _⟩
theorem EK(i g A g2:Int)(b:Nat)(w:World)(base t p:Nat)(s:Ps)(h:PQ w base t p s)(E:s.Ok 32 b)(hb:b<=1000)(B:s.find i g=zp∨s.find A g2=zp):
 Calls prog 78 #[ze (zo ⟨t,0,zp⟩),zg #[zd zj i,zd zj g],zg #[zd zj A,zd zj g2]] w fun e w'=>e=zm (zd zj 2)/\Below w.heap.size w w':=by
 refine EJ i g A g2 (s.RS i g) (s.RS A g2) (s.SJ i g) (s.SJ A g2) ?_ w _ (fun W D=>qT i g b W base t p s (h.behind D) E hb) (fun W D=>qT A g2 b W base t p s (h.behind D) E hb);rcases B with B|B
 .exact .inl (qU B).2
 .cases hk:s.find i g with
  | none=>exact .inl (qU hk).2
  | some k=>exact .inr ⟨(qc hk).choose_spec.2.2.2.2.2,(qU B).2⟩
theorem UM(M g2:Int)(b:Nat)(w:World)(base t p:Nat)(s:Ps)(h:PQ w base t p s)(a:s.Ok 32 b)(hb:b<=1000)(g:s.RS 0 0=0)(V:s.RS M g2=0):
 Calls prog 78 #[ze (zo ⟨t,0,zp⟩),zg #[zd zj 0,zd zj 0],zg #[zd zj M,zd zj g2]] w fun e w'=>e=zm (zd zj 1)/\Below w.heap.size w w':=by
 obtain⟨Z,G,m⟩:=Qe (qT 0 0 b ((w.alloc (yX 0 0)).alloc (yX M g2)) base t p s ((h.alloc _).alloc _) a hb) (fun W (j:PQ W base t p s)=>qT M g2 b W base t p s j a hb) h;rw[g]at Z;rw[V]at G;generalize s.SJ 0 0=x1 at Z;generalize s.SJ M g2=N at G;clear h a g V;go_enter func78,ntmps78;go_wp2_with fail;refine Z.out.mono ?_;rintro e c ⟨rfl,B⟩;have A:Hid (Below w.heap.size w c):=yw (yC ((yE w _).alloc (by simp) _) B (by simp;omega));have J:Hid (Hx c (w.heap.size+1) M g2):=yw ((Hx.AP w _ _ _).behind B)
 have R:Hid (Hx c w.heap.size 0 0):=yw (((Hx.new w _ _).alloc _).behind B);clear B;obtain⟨f,O⟩:=yB (w.heap.size+1)
 obtain⟨Y,U⟩:=yB w.heap.size
 rw[<-O]at J ⊢;rw[<-U]at R ⊢;clear O U;obtain⟨l,k⟩:=J.out.c2;have pl:=J.out.lt;go_wp2_with fail;refine(G.out _ (((m.out.behind A.out)).alloc _)).mono ?_;rintro e d ⟨rfl,D⟩;go_upto_region 5 with(fail)
 have I:=yw ((yC (A.out.alloc A.out.size (xN x1)) D (by have:=A.out.size;simp;omega)).alloc (by have:=A.out.size;have:=D.size;simp at this;omega) (xN N));have T:=yw (((R.out.alloc (xN x1)).behind D).alloc (xN N));obtain⟨X,E⟩:=yB (d.alloc (xN N))
 rw[show d.alloc (Obj.cells #[zd zj N.ui,zd zj N.ug,zd zj N.dp] 130)=X from E.symm];rw[<-E]at I T;clear D l k pl E;obtain⟨z0,z1⟩:=T.out.c2;go_region_held3 (fun w'=>w'.cell? ⟨Y,0,zp⟩=zo (zd zj 0)/\w'.cell? ⟨Y,1,zp⟩=zo (zd zj 0)) (go_keep)
  (first|(go_at_call 65;refine(qw _).mono ?_;rintro e X ⟨rfl,rfl⟩))
 rename_i H;clear H;go_wp2;go_ret;exact⟨rfl,yI (I.out.alloc I.out.size _)⟩
theorem Gx.fJ(h:Gx w y x)(d:Int):Gx (w.setCell ⟨y,2,zp⟩ (zd zj d)) y ⟨x.x,x.ui,x.ug,d⟩:=by unfold Gx;rw[yD h];rfl
theorem Gx.eV(h:Gx w y x)(d:Int):Gx (w.setCell ⟨y,0,zp⟩ (zd zj d)) y ⟨x.x,d,x.ug,x.dp⟩:=by unfold Gx;rw[yD h];rfl
theorem Gx.OF(h:Gx w y x)(d:Int):Gx (w.setCell ⟨y,1,zp⟩ (zd zj d)) y ⟨x.x,x.ui,d,x.dp⟩:=by unfold Gx;rw[yD h];rfl
theorem Gx.setMv(h:Gx w y q.x)(k pk:Nat)(A by_:Int):Gx (((w.setCell ⟨y,2,zp⟩ (zd zj (q.x.dp+by_))).setCell ⟨y,0,zp⟩ (zd zj pk)).setCell ⟨y,1,zp⟩ (zd zj A)) y (AH k pk A by_ k q).x:=by have B:=((h.fJ (q.x.dp+by_)).eV pk).OF A;unfold Gx at B ⊢;rw[B];simp[AH]
theorem PQ.gK{base t p:Nat}(h:PQ w base t p s)(A:Gx w y x)(o:Nat)(u:Value):PQ (w.setCell ⟨y,o,zp⟩ u) base t p s:=h.PR A (by decide) (by decide) (by decide) o u
def iH(l:List Pl)(hk:Nat):List (Nat×Int):=qV l (fun k=>RI l k hk)
def vE(l:List Pl)(hk:Nat)(by_:Int):Bool:=(iH l hk).any (fun x=>decide (8<(l.getD x.1 gE).x.dp+by_))
def mvL(l:List Pl)(hk pk:Nat)(A by_:Int):List Pl:=JG l (AH hk pk A by_) (uJ l hk)
theorem Gj(l:List Pl):∀n,n<=l.length->((qE (OO l) (xX l) n).map (·.1)).Pairwise (· < ·)/\∀x∈qE (OO l) (xX l) n,x.1<n
 | 0,_=>by simp[qE]
 | n+1,hn=>by
  obtain⟨E,B⟩:=Gj l n (by omega);simp only[qE];refine⟨?_,?_⟩
  .rw[List.map_append,List.pairwise_append];refine⟨E,?_,?_⟩
   .split<;>simp
   .intro a D b hb;obtain⟨x,A,rfl⟩:=yh.1 D;have:=B x A;split at hb
    .simp at hb;omega
    .simp at hb
  .intro x A;rcases List.mem_append.1 A with A|A
   .have:=B x A;omega
   .split at A
    .simp at A;rw[A];simp
    .simp at A
theorem Lt(l:List Pl):∀n,n<=l.length->∀k q,k<n->l[k]?=zo q->q.used=zq->(k,q.gen)∈qE (OO l) (xX l) n
 | 0,_,k,q,hk,_,_=>by omega
 | n+1,hn,k,q,hk,hq,hu=>by
  simp only[qE];by_cases A:k=n
  .subst A;have D:(OO l).getD k zt=q.used:=by rw[OO,zH,zG,hq];rfl
   have B:(xX l).getD k 0=q.gen:=by rw[xX,zH,zG,hq];rfl
   rw[D,B,if_pos hu];simp
  .exact List.mem_append_left _ (Lt l n (by omega) k q (by omega) hq hu)
theorem UN(l:List Pl)(P:Nat->Bool):((qV l P).map (·.1)).Pairwise (· < ·):=
 List.Pairwise.sublist (List.Sublist.map _ List.filter_sublist) (Gj l _ (yA _)).1
theorem Bf{l:List Pl}{P:Nat->Bool}:(k,g)∈qV l P↔(∃q,l[k]?=zo q/\q.used=zq/\q.gen=g)/\P k=zq:=by
 unfold qV;rw[List.mem_filter];constructor
 .rintro⟨A,B⟩;exact⟨Gi A,B⟩
 .rintro⟨⟨q,A,B,E⟩,D⟩;refine⟨?_,D⟩;rw[<-E];exact Lt l _ (yA _) k q (yy A).1 A B
theorem IM{l:List Pl}{hk:Nat}{by_:Int}(h:vE l hk by_=zt)(A:l[k]?=zo q)(B:q.used=zq)(hs:RI l k hk=zq):q.x.dp+by_<=8:=by unfold vE at h;rw[List.any_eq_false]at h;have:=h (k,q.gen) (Bf.2 ⟨⟨q,A,B,rfl⟩,hs⟩);simp only[decide_eq_true_eq]at this;rw[xD A]at this;omega
theorem Lu(A:s.l[k]?=zo q)(D:q.used=zq)(x:SZ):s.set k q.gen x=⟨s.l.set k ⟨x,q.gen,q.used,q.next⟩,s.free,s.st,s.many⟩:=by
 unfold Ps.set;rw[(uS A D).1];have B:s.l.getD k ⟨.zero,0,zt,0⟩=q:=by rw[zH,A];rfl
 simp only[B]
def Cr(B:List (Nat×Int))(j:Nat)(k:Nat):Bool:=decide (k∈(B.take j).map (·.1))
theorem Gl{B:List (Nat×Int)}{j:Nat}(h:B[j]?=zo (k,g))(i:Nat):Cr B (j+1) i=(Cr B j i || decide (i=k)):=by
 have A:j<B.length:=(yy h).1;have e:B[j]=(k,g):=by have:=zy A;rw[h]at this;simpa using this.symm
 unfold Cr;rw[<-List.take_append_getElem A,e];simp[Bool.decide_or]
theorem UO{B:List (Nat×Int)}(G:(B.map (·.1)).Pairwise (· < ·)){j:Nat}(h:B[j]?=zo (k,g)):Cr B j k=zt:=by
 unfold Cr;refine decide_eq_false ?_;intro H;have E:j<B.length:=(yy h).1;have e:B[j]=(k,g):=by have:=zy E;rw[h]at this;simpa using this.symm
 obtain⟨i,I,D⟩:=List.mem_iff_getElem.1 H;have A:i<j:=by simp at I;omega
 have:=(List.pairwise_iff_getElem.1 G) i j (by simp;omega) (by simpa using E) A;simp only[List.getElem_map,List.getElem_take]at this D;rw[e]at this;omega
theorem UP(hk pk:Nat)(qh qp:Pl)(b:Nat)(w:World)(base t p:Nat)(s:Ps)(h:PQ w base t p s)(ho:s.Ok 32 b)(hb:b<=1000)(P:Tr s.l)
 (hq:s.l[hk]?=zo qh) (hu:qh.used=zq) (pq:s.l[pk]?=zo qp) (pu:qp.used=zq) (h0:hk≠0) (H7:Int) (s2:Ps)
 (k3:H7=if RI s.l pk hk=zq then 10 else if vE s.l hk (qp.x.dp+1-qh.x.dp)=zq then 5 else 0)
 (m8:s2=if RI s.l pk hk=zq then s else if vE s.l hk (qp.x.dp+1-qh.x.dp)=zq then s else⟨mvL s.l hk pk qp.gen (qp.x.dp+1-qh.x.dp),s.free,s.st,s.many⟩):
 Calls prog 78 #[ze (zo ⟨t,0,zp⟩),zg #[zd zj hk,zd zj qh.gen],zg #[zd zj pk,zd zj qp.gen]] w fun e w'=>e=zm (zd zj H7)/\PQ w' base t p s2/\OB base p w w':=by
 obtain⟨i0,hi,nf,nk,nj⟩:=info_parts uR;obtain⟨HC,k9,k4,H8⟩:=Qf (xJ hk qh b ((w.alloc (yX hk qh.gen)).alloc (yX pk qp.gen)) base t p s ((h.alloc _).alloc _) ho hb hq hu) (fun W (hW:PQ W base t p s)=>xJ pk qp b W base t p s hW ho hb pq pu) (fun W (hW:PQ W base t p s)=>Lp pk hk qp qh b W base t p s hW ho hb P pq pu hq hu) (fun W (hW:PQ W base t p s)=>UK hk qh.gen b W base t p s hW ho hb P);have k0:Ei s hk qh.gen=fun k=>RI s.l k hk:=by funext k;unfold Ei;rw[(uS hq hu).1]
 rw[k0]at H8;obtain⟨B,hB⟩:=yB (iH s.l hk)
 rw[show qV s.l (fun k=>RI s.l k hk)=B from hB.symm]at H8;have ma:(B.map (·.1)).Pairwise (· < ·):=by rw[hB];exact UN _ _
 have mi:∀k g,(k,g)∈B↔(∃q,s.l[k]?=zo q/\q.used=zq/\q.gen=g)/\RI s.l k hk=zq:=by rw[hB];intro k g;exact Bf
 have m7:B.length<=1000:=by rw[hB];have I:(iH s.l hk).length<=(Yx s.l).length:=List.length_filter_le _ _;have:=Be s.l;have:=(ho.lo hb).1;omega
 have mb:∀by_,vE s.l hk by_=B.any (fun x=>decide (8<(s.l.getD x.1 gE).x.dp+by_)):=by intro by_;rw[hB];rfl
 obtain⟨n5,H2,mf,HT,HO,mr,K3,k6⟩:=Qj ma mi mb h ho P (P.dp hq hu) (P.dp pq pu);obtain⟨n0,h8,kp⟩:=Qe (zQ hq (zQ hu (zQ pq pu))) k3 m8;have nd:((hk:Int) == 0)=zt:=beq_eq_false_iff_ne.2 (by omega);have H0:=yw h0;have ks:=h.OS;obtain⟨gh,km⟩:=yB qh.gen
 obtain⟨L,kw⟩:=yB qp.gen
 have n4:=yw kw;have M8:=yw km;rw[<-km]at HC k4 H8 ⊢;rw[<-kw]at HC k9 k4 ⊢;obtain⟨x1,K6⟩:=yB qh.x
 obtain⟨v,ki⟩:=yB qp.x
 have n2:=yw K6;have n8:=yw ki;rw[<-K6]at HC K3;rw[<-ki]at k9 k6;clear h ho P hq hu pq pu h0 k3 m8 k0 km kw K6 ki hB ma mi mb;go_enter func78,ntmps78;go_wp2_with fail;refine HC.out.mono ?_;rintro e w2 ⟨rfl,kd⟩;have hl:Hid (Below w.heap.size w w2):=yw (yC ((yE w _).alloc (by simp) _) kd (by simp;omega));have H4:Hid (Hx w2 (w.heap.size+1) pk L):=yw ((Hx.AP w _ _ _).behind kd);have K5:Hid (Hx w2 w.heap.size hk gh):=yw (((Hx.new w _ _).alloc _).behind kd);clear kd HC;obtain⟨pb,kj⟩:=yB (w.heap.size+1)
 obtain⟨hx,K7⟩:=yB w.heap.size
 rw[<-kj]at H4 ⊢;rw[<-K7]at K5 ⊢;have mq:=yw (zQ K7 kj);clear kj K7;obtain⟨p0,p1⟩:=H4.out.c2;have pl:=H4.out.lt;go_wp2_with fail;refine(k9.out _ (((HT.out.behind hl.out)).alloc _)).mono ?_;rintro e w3 ⟨rfl,Q⟩;go_upto_region 5 with(fail)
 have mz:Below w.heap.size w (w3.alloc (xN v)):=((yC (hl.out.alloc hl.out.size (xN x1)) Q (by have:=hl.out.size;simp;omega)).alloc (by have:=hl.out.size;have:=Q.size;simp at this;omega) (xN v))
 obtain⟨ke,k7,kr,ka,kh⟩:=Qg mz (((K5.out.alloc (xN x1)).behind Q).alloc (xN v)) (((H4.out.alloc (xN x1)).behind Q).alloc (xN v)) (((Gx.new w2 x1).behind Q).alloc (xN v)) (Gx.new w3 v);obtain⟨w4,kk⟩:=yB (w3.alloc (xN v))
 rw[show w3.alloc (Obj.cells #[zd zj v.ui,zd zj v.ug,zd zj v.dp] 130)=w4 from kk.symm];rw[<-kk]at ke k7 kr ka kh;obtain⟨gb,my⟩:=yB w2.heap.size
 obtain⟨qb,mp⟩:=yB w3.heap.size
 rw[<-my]at ka ⊢;rw[<-mp]at kh ⊢;clear Q p0 p1 pl kk mz my mp H4 K5 hl;obtain⟨z0,z1⟩:=k7.out.c2;go_region_held3 (fun w'=>w'.cell? ⟨hx,0,zp⟩=zo (zd zj hk)/\w'.cell? ⟨hx,1,zp⟩=zo (zd zj gh)) (go_keep)
  (first|(go_at_call 65;refine(qw _).mono ?_;rintro e w4 ⟨rfl,rfl⟩))
 rename_i R;clear R z0 z1;obtain⟨w5,kv⟩:=yB ((w4.alloc (yX 0 0)).drew)
 have hz:Below w4.heap.size w4 w5:=by rw[kv];exact yI (yE _ _)
 rw[show(w4.alloc (Obj.cells #[zd zj 0,zd zj 0] 78)).drew=w5 from kv.symm];clear kv;obtain⟨K4,K2,m4,ml,kf⟩:=Qg (k7.out.behind hz) (kr.out.behind hz) (ka.out.behind hz) (kh.out.behind hz) (yC ke.out hz ke.out.size);clear hz k7 kr ka kh ke;obtain⟨z0,z1⟩:=K4.out.c2;obtain⟨p0,p1⟩:=K2.out.c2;go_wp2_with fail;refine(k4.out _ (HT.out.behind kf.out)).mono ?_;rintro e w6 ⟨rfl,S⟩;obtain⟨K1,mh,m3,mj⟩:=Qf (K4.out.behind S) (K2.out.behind S) (m4.out.behind S) (ml.out.behind S)
 have H5:=yw (yC kf.out S kf.out.size);clear S K4 K2 m4 ml kf z0 z1 p0 p1;cases hloop:RI s.l pk hk
 case true=>
  have hr:H7=10:=by rw[h8.out,hloop];rfl
  have hs:s2=s:=by rw[kp.out,hloop];rfl
  subst hr;subst hs;clear hloop;go_wp2;go_ret;exact⟨rfl,HT.out.behind H5.out,OB.NZ H5.out ks⟩
 case false=>
  have ni:=yw hloop;obtain⟨by_,bX⟩:=yB (v.dp+1-x1.dp)
  have M1:Hid (by_=qp.x.dp+1-qh.x.dp):=yw (by rw[bX,n2.out,n8.out]);have Y:=yw h8.out;have K:=yw kp.out;rw[hloop,<-M1.out]at Y K;have k1:Hid (-8<=by_/\by_<=9):=yw (by have I:=K3.out;have h2:=k6.out;omega);clear hloop h8 kp;obtain⟨g0,g1,g2⟩:=m3.out.c3;obtain⟨q0,q1,q2⟩:=mj.out.c3;obtain⟨z0,z1⟩:=K1.out.c2;have M4:IntKind.i64.wrap (v.dp+1)=v.dp+1:=IntWalk.i64_in _ (by have h2:=k6.out;omega);have M2:IntKind.i64.wrap (v.dp+1-x1.dp)=by_:=by rw[bX];exact IntWalk.i64_in _ (by have I:=K3.out;have h2:=k6.out;omega)
  clear bX;go_wp2_with fail;refine(H8.out _ (HT.out.behind H5.out)).mono ?_;rintro e w7 ⟨ba,bc,rfl,mc,kb⟩;obtain⟨me,m5,hp,H6⟩:=Qf (K1.out.behind kb) (mh.out.behind kb) (yC H5.out kb H5.out.size) mc;obtain⟨N,hN⟩:=yB B.length
  rw[<-hN]at H6 m7 ⊢;have HN:=yw hN;clear kb mc K1 mh m3 mj g0 g1 g2 q0 q1 q2 z0 z1 M4 M2 hN k9 k4 H8;go_wp2_with fail;go_loopg [60] N (fun n vi wr=>∃j:Nat,vi=zd zj j/\j<=N/\N-j<=n/\Below w7.heap.size w7 wr/\(∀(i kx:Nat) (gx:Int),i<j->B[i]?=zo (kx,gx)->(s.l.getD kx gE).x.dp+by_<=8))
  case atStart=>exact⟨0,rfl,by omega,by omega,zU _ _,fun i kx gx hi=>by omega⟩
  case round=>
   obtain⟨j,rfl,hj,hn,mg,k2⟩:=hrel;obtain⟨a,hc,Hg⟩:=Qe mg k2 hn;clear mg k2 hn;by_cases k5:j<N
   .obtain⟨kg,U⟩:∃kg,B[j]?=zo kg:=⟨_,zy (by have:=HN.out;omega)⟩
    obtain⟨k,g⟩:=kg;obtain⟨⟨q,H,M,hg⟩,h9⟩:=(H2.out k g).1 (zW U);subst hg;obtain⟨tt,rfl⟩:=Xp H6.out (by omega);have f:=yw (qo H6.out a.out);obtain⟨y0,y1,yl⟩:=Vy f.out j k q.gen U k5;have J:=yw (zQ H (zQ M U));have hv:=yw ((HT.out.behind hp.out).behind a.out);have M6:=a.out.size;have K0:=mr.out.dp H M;have n3:IntKind.i64.wrap (q.x.dp+by_)=q.x.dp+by_:=IntWalk.i64_in _ (by have:=k1.out;omega);clear h9 U H M K0;go_wp2_with fail;refine(xJ k q b _ base t p s (hv.out.alloc _) HO.out hb J.out.1 J.out.2.1).mono ?_;rintro e w8 ⟨rfl,C⟩
    have kc:=yw (yC (a.out.alloc M6 (yX k q.gen)) C (by simp;omega));clear C y0 y1 yl;by_cases h6:q.x.dp+by_<=8
    .have HD:=yw h6;go_wp2_with fail;go_roundg (N-(j+1))
     case measure=>have:=Hg.out;omega
     case rel=>
      refine⟨j+1,by go_num,by omega,yA _,kc.out.alloc kc.out.size _,?_⟩;intro i kx gx nc ku;by_cases M9:i=j
      .subst M9;rw[J.out.2.2]at ku;cases ku;rw[xD J.out.1];exact HD.out
      .exact hc.out i kx gx (by omega) ku
    .have hd:8<q.x.dp+by_:=by omega
     have r:vE s.l hk by_=zq:=by rw[mf.out by_,List.any_eq_true];exact⟨(k,q.gen),zW J.out.2.2,by rw[xD J.out.1];exact decide_eq_true hd⟩
     have hr:H7=5:=by rw[Y.out,r];rfl
     have hs:s2=s:=by rw[K.out,r];rfl
     subst hr;subst hs;clear h6 r;go_wp2;go_ret;have X:=yC hp.out (kc.out.alloc kc.out.size (xN q.x)) hp.out.size;exact⟨rfl,HT.out.behind X,OB.NZ X ks⟩
   .have m0:j=N:=by omega
    subst m0;have r:vE s.l hk by_=zt:=by rw[mf.out by_,List.any_eq_false];rintro⟨k,g⟩ hm;obtain⟨i,hi⟩:=List.getElem?_of_mem hm;have nl:=(yy hi).1;have:=hc.out i k g (by have:=HN.out;omega) hi;simp only[decide_eq_true_eq];omega
    have hr:H7=0:=by rw[Y.out,r];rfl
    have hs:s2=⟨mvL s.l hk pk qp.gen by_,s.free,s.st,s.many⟩:=by rw[K.out,r];rfl
    subst hr;have ng:=yw r;have HS:=yw hs;clear r hs;obtain⟨n6,M3,f,kz⟩:=Qf (me.out.behind a.out) (m5.out.behind a.out) (qo H6.out a.out) (yC hp.out a.out hp.out.size);have hv:=yw (HT.out.behind kz.out);have m1:base<=wr.heap.size:=by have:=kz.out.size;omega
    clear hc Hg a me m5 hp Y K;obtain⟨N,hN⟩:=yB j
    rw[<-hN]at f HN m7;rw[<-hN];clear hN hj k5 H6;go_wp2_with fail;go_loopg [78] N (fun n vi wq=>∃(j:Nat) (c:List Pl),vi=zd zj j/\j<=N/\N-j<=n/\Yc s.l (AH hk pk L by_) (Cr B j) c/\PQ wq base t p ⟨c,s.free,s.st,s.many⟩/\OB base p wr wq)
    case atStart=>exact⟨0,s.l,rfl,by omega,by omega,(UL _ _).congr (fun k q _=>by simp[Cr]),hv.out,OB.NZ (zU _ _) m1⟩
    case round=>
     obtain⟨j,c,rfl,hj,hn,h5,m9,md⟩:=hrel;obtain⟨Hy,V,ht,Hg⟩:=Qf h5 m9 md hn;clear h5 m9 md hn;by_cases k5:j<N
     .obtain⟨kg,U⟩:∃kg,B[j]?=zo kg:=⟨_,zy (by have:=HN.out;omega)⟩
      obtain⟨k,g⟩:=kg;obtain⟨⟨q,H,M,hg⟩,h9⟩:=(H2.out k g).1 (zW U);subst hg;have he:=UO n5.out U;have mn:c[k]?=zo q:=by rw[Hy.out k,H,Option.map_some,he];rfl
      have ko:=yw (HO.out.alike (Hy.out.alike (Jr hk pk L by_)));obtain⟨v0,mx⟩:=hv.out.has;have m6:=mx.iD 78 (by decide);obtain⟨tt,rfl⟩:=Xp f.out (by omega);have m2:=yw (Oe f.out ht.out (by decide) m6);obtain⟨y0,y1,yl⟩:=Vy m2.out j k q.gen U k5;have ky:=HT.out.has.lt;have nh:hx≠p:=by have:=mq.out.1;omega
      have np:pb≠p:=by have:=mq.out.2;omega
      obtain⟨mu,mv,J⟩:=Qe (n6.out.step ht.out nh) (M3.out.step ht.out np) (zQ H (zQ M (zQ U (zQ mn he))));have K0:=mr.out.dp H M;have n3:IntKind.i64.wrap (q.x.dp+by_)=q.x.dp+by_:=IntWalk.i64_in _ (by have:=k1.out;omega);clear h9 U H M K0 he mn mx m6 ky nh np;go_wp2_with fail;refine(xJ k q b _ base t p ⟨c,s.free,s.st,s.many⟩ (V.out.alloc _) ko.out hb J.out.2.2.2.1 J.out.2.1).mono ?_;rintro e w8 ⟨rfl,C⟩;go_upto_region 22 with(fail)
      have kn:Below wr.heap.size wr w8:=yC (yE wr (yX k q.gen)) C (by simp);have X:Below wr.heap.size wr (w8.alloc (xN q.x)):=kn.alloc kn.size _;have H9:=yw (((Hx.new wr k q.gen).behind C).alloc (xN q.x));have Z:=yw (Gx.new w8 q.x);obtain⟨w9,kl⟩:=yB (w8.alloc (xN q.x))
      rw[show w8.alloc (Obj.cells #[zd zj q.x.ui,zd zj q.x.ug,zd zj q.x.dp] 130)=w9 from kl.symm];rw[<-kl]at X H9 Z;obtain⟨na,M0,mo⟩:=Qe (mu.out.behind X) (mv.out.behind X) (V.out.behind X);have m:=(V.out.OS)
      have mw:Hid (OB base p wr w9):=yw (OB.NZ X m);obtain⟨x,kt⟩:=yB wr.heap.size
      obtain⟨y,hy⟩:=yB w8.heap.size
      rw[<-kt]at H9 ⊢;rw[<-hy]at Z ⊢;have k8:x<y:=by have:=C.size;simp at this;omega
      have M7:y≠hx:=by have:=mu.out.lt;omega
      have n7:y≠pb:=by have:=mv.out.lt;omega
      have hw:=yw (zQ kt k8);clear C kn X kl kt hy y0 y1 yl k8 M7 n7;obtain⟨g0,g1,g2⟩:=Z.out.c3;have gf:=Z.out.OH;obtain⟨c0,c1⟩:=H9.out.c2;obtain⟨d0,d1⟩:=na.out.c2;obtain⟨e0,e1⟩:=M0.out.c2;by_cases K9:k=hk
      .subst K9;have mm:q=qh:=by have I:=J.out.1;rw[n0.out.1]at I;cases I;rfl
       have ms:q.gen=gh:=by rw[mm,M8.out]
       rw[ms]at c1;clear mm ms;go_upto_region 25 with(fail)
       obtain⟨A,G⟩:=yB (((w9.setCell ⟨y,2,zp⟩ (zd zj (q.x.dp+by_))).setCell ⟨y,0,zp⟩ (zd zj pk)).setCell ⟨y,1,zp⟩ (zd zj L))
       rw[<-G];have o:Hid (Gx A y (AH k pk L by_ k q).x):=yw (by rw[G];exact Z.out.setMv _ _ _ _);have d:Hid (Hx A x k q.gen):=yw (by have k8:=hw.out.2;rw[G];exact((H9.out.PR (by omega)).PR (by omega)).PR (by omega));have D:Hid (PQ A base t p ⟨c,s.free,s.st,s.many⟩):=yw (by rw[G];have I:=mo.out.gK Z.out 2 (zd zj (q.x.dp+by_));have b1:=Z.out.fJ (q.x.dp+by_);have h2:=I.gK b1 0 (zd zj pk);have b2:=b1.eV (pk:Int);exact h2.gK b2 1 (zd zj L));have h7:Hid (OB base p wr A):=yw (by have I:=hw.out;rw[G];exact((mw.out.set m (by omega)).set m (by omega)).set m (by omega))
       clear G g0 g1 g2 gf c0 c1 d0 d1 e0 e1;obtain⟨g0,g1,g2⟩:=o.out.c3;obtain⟨c0,c1⟩:=d.out.c2;obtain⟨q',F⟩:=yB ((AH k pk L by_ k q).x)
       have H3:=yw F;rw[<-F]at g0 g1 g2;clear F;have tc:=D.out.cell;have u:=yw (CZ k q.gen q' b A.drew base p 32 ⟨c,s.free,s.st,s.many⟩ (D.out.behind (yI (zU _ A))).has ko.out hb D.out.OS);have kq:=yw (fun(E:World) (hs:OB base p A.drew E)=>show(E.cell? ⟨t,0,zp⟩=zo (ze (zo ⟨p,0,zp⟩))/\E.cell? ⟨x,0,zp⟩=zo (zd zj k)/\E.cell? ⟨x,1,zp⟩=zo (zd zj q.gen)/\E.cell? ⟨y,0,zp⟩=zo (zd zj q'.ui)/\E.cell? ⟨y,1,zp⟩=zo (zd zj q'.ug)/\E.cell? ⟨y,2,zp⟩=zo (zd zj q'.dp))from by
        have ky:=V.out.has.lt;have I:=hw.out;have H1:=Hx.step (w:=A.drew) d.out.drew hs (by omega);have z:=Gx.step (w:=A.drew) (x:=q') (by rw[H3.out];exact o.out) hs (by omega);have K8:E.heap[t]?=_:=hs.same (w:=A.drew) D.out.tb D.out.ne (by decide);exact⟨by simp[World.cell?,K8],H1.c2.1,H1.c2.2,z.c3.1,z.c3.2.1,z.c3.2.2⟩)
       rw[(uS (s:=⟨c,s.free,s.st,s.many⟩) J.out.2.2.2.1 J.out.2.1).2.2,Lu (s:=⟨c,s.free,s.st,s.many⟩) J.out.2.2.2.1 J.out.2.1]at u;go_region_held3 (fun w'=>w'.cell? ⟨t,0,zp⟩=zo (ze (zo ⟨p,0,zp⟩))/\w'.cell? ⟨x,0,zp⟩=zo (zd zj k)/\w'.cell? ⟨x,1,zp⟩=zo (zd zj q.gen)/\w'.cell? ⟨y,0,zp⟩=zo (zd zj q'.ui)/\w'.cell? ⟨y,1,zp⟩=zo (zd zj q'.ug)/\w'.cell? ⟨y,2,zp⟩=zo (zd zj q'.dp))
        (first|exact⟨tc,c0,c1,g0,g1,g2⟩|assumption)
        (first|(go_at_call 128;refine u.out.mono ?_;rintro e E ⟨rfl,hf,O⟩;have ha:=kq.out E O))
       rename_i R;clear R ha;go_wp2_with fail;go_roundg (N-(j+1))
       case measure=>have:=Hg.out;omega
       case rel=>
        refine⟨j+1,c.set k (AH k pk L by_ k q),by go_num,by omega,yA _,Hy.out.step J.out.1 J.out.2.2.2.2 (Gl J.out.2.2.1),?_,?_⟩
        .have I:=(D.out.behind (yI (zU _ A))).step O hf;rw[H3.out]at I;exact I
        .have I:OB base p A A.drew:=OB.NZ (yI (zU _ A)) D.out.OS;exact ht.out.trans ((h7.out.trans I V.out.has.lt).trans O V.out.has.lt) hv.out.has.lt
      .have nb:((k:Int) == (hk:Int))=zt:=beq_eq_false_iff_ne.2 (by omega);have M5:=yw K9;clear K9;go_upto_region 25 with(fail)
       obtain⟨A,G⟩:=yB (w9.setCell ⟨y,2,zp⟩ (zd zj (q.x.dp+by_)))
       rw[<-G];have o:Hid (Gx A y (AH hk pk L by_ k q).x):=yw (by rw[G];rw[show(AH hk pk L by_ k q).x=⟨q.x.x,q.x.ui,q.x.ug,q.x.dp+by_⟩by simp only[AH,if_neg M5.out]];exact Z.out.fJ (q.x.dp+by_));have d:Hid (Hx A x k q.gen):=yw (by have k8:=hw.out.2;rw[G];exact H9.out.PR (by omega));have D:Hid (PQ A base t p ⟨c,s.free,s.st,s.many⟩):=yw (by rw[G];exact mo.out.gK Z.out 2 (zd zj (q.x.dp+by_)));have h7:Hid (OB base p wr A):=yw (by have I:=hw.out;rw[G];exact mw.out.set m (by omega))
       clear G g0 g1 g2 gf c0 c1 d0 d1 e0 e1;obtain⟨g0,g1,g2⟩:=o.out.c3;obtain⟨c0,c1⟩:=d.out.c2;obtain⟨q',F⟩:=yB ((AH hk pk L by_ k q).x)
       have H3:=yw F;rw[<-F]at g0 g1 g2;clear F;have tc:=D.out.cell;have u:=yw (CZ k q.gen q' b A.drew base p 32 ⟨c,s.free,s.st,s.many⟩ (D.out.behind (yI (zU _ A))).has ko.out hb D.out.OS);have kq:=yw (fun(E:World) (hs:OB base p A.drew E)=>show(E.cell? ⟨t,0,zp⟩=zo (ze (zo ⟨p,0,zp⟩))/\E.cell? ⟨x,0,zp⟩=zo (zd zj k)/\E.cell? ⟨x,1,zp⟩=zo (zd zj q.gen)/\E.cell? ⟨y,0,zp⟩=zo (zd zj q'.ui)/\E.cell? ⟨y,1,zp⟩=zo (zd zj q'.ug)/\E.cell? ⟨y,2,zp⟩=zo (zd zj q'.dp))from by
        have ky:=V.out.has.lt;have I:=hw.out;have H1:=Hx.step (w:=A.drew) d.out.drew hs (by omega);have z:=Gx.step (w:=A.drew) (x:=q') (by rw[H3.out];exact o.out) hs (by omega);have K8:E.heap[t]?=_:=hs.same (w:=A.drew) D.out.tb D.out.ne (by decide);exact⟨by simp[World.cell?,K8],H1.c2.1,H1.c2.2,z.c3.1,z.c3.2.1,z.c3.2.2⟩)
       rw[(uS (s:=⟨c,s.free,s.st,s.many⟩) J.out.2.2.2.1 J.out.2.1).2.2,Lu (s:=⟨c,s.free,s.st,s.many⟩) J.out.2.2.2.1 J.out.2.1]at u;go_region_held3 (fun w'=>w'.cell? ⟨t,0,zp⟩=zo (ze (zo ⟨p,0,zp⟩))/\w'.cell? ⟨x,0,zp⟩=zo (zd zj k)/\w'.cell? ⟨x,1,zp⟩=zo (zd zj q.gen)/\w'.cell? ⟨y,0,zp⟩=zo (zd zj q'.ui)/\w'.cell? ⟨y,1,zp⟩=zo (zd zj q'.ug)/\w'.cell? ⟨y,2,zp⟩=zo (zd zj q'.dp))
        (first|exact⟨tc,c0,c1,g0,g1,g2⟩|assumption)
        (first|(go_at_call 128;refine u.out.mono ?_;rintro e E ⟨rfl,hf,O⟩;have ha:=kq.out E O))
       rename_i R;clear R ha;go_wp2_with fail;go_roundg (N-(j+1))
       case measure=>have:=Hg.out;omega
       case rel=>
        refine⟨j+1,c.set k (AH hk pk L by_ k q),by go_num,by omega,yA _,Hy.out.step J.out.1 J.out.2.2.2.2 (Gl J.out.2.2.1),?_,?_⟩
        .have I:=(D.out.behind (yI (zU _ A))).step O hf;rw[H3.out]at I;exact I
        .have I:OB base p A A.drew:=OB.NZ (yI (zU _ A)) D.out.OS;exact ht.out.trans ((h7.out.trans I V.out.has.lt).trans O V.out.has.lt) hv.out.has.lt
     .have m0:j=N:=by omega
      subst m0;go_wp2;go_ret;refine⟨rfl,?_,(OB.NZ kz.out ks).trans ht.out HT.out.has.lt⟩;have n1:=Hy.out;have e:c=mvL s.l hk pk qp.gen by_:=by
       refine Yc.eq (n1.congr (T:=uJ s.l hk) ?_) (by rw[n4.out];exact Wq _ _ _);intro k q hq;unfold Cr;rw[show B.take j=B by rw[HN.out,List.take_length]];by_cases hu:q.used=zq
       .rw[Ls hq hu];cases hun:RI s.l k hk
        .refine decide_eq_false ?_;intro hm;obtain⟨⟨k',g⟩,I,h2⟩:=yh.1 hm;simp only at h2;subst h2;have:=((H2.out k' g).1 I).2;rw[hun]at this;cases this
        .refine decide_eq_true ?_;exact yh.2 ⟨(k,q.gen),(H2.out k q.gen).2 ⟨⟨q,hq,hu,rfl⟩,hun⟩,rfl⟩
       .have I:uJ s.l hk k=zt:=by
         unfold uJ;rw[xD hq];cases hh:q.used
         .rfl
         .exact absurd hh hu
        rw[I];refine decide_eq_false ?_;intro hm;obtain⟨⟨k',g⟩,n9,h2⟩:=yh.1 hm;simp only at h2;subst h2;obtain⟨⟨q',h3,h4,_⟩,_⟩:=(H2.out k' g).1 n9;rw[hq]at h3;cases h3;exact hu h4
      rw[HS.out,<-e];exact V.out
def uK(l:List Pl)(hk pk:Nat):Int:=(l.getD pk gE).x.dp+1-(l.getD hk gE).x.dp
def Ps.bQ(s:Ps)(i g A g2:Int):Int:=match s.find i g,s.find A g2 with
 | some hk,zo pk=>if hk=0 then 1 else if RI s.l pk hk=zq then 10 else if vE s.l hk (uK s.l hk pk)=zq then 5 else 0
 | _,_=>2
def Ps.dD(s:Ps)(i g A g2:Int):Ps:=match s.find i g,s.find A g2 with
 | some hk,zo pk=>if hk=0 then s else if RI s.l pk hk=zq then s else if vE s.l hk (uK s.l hk pk)=zq then s else⟨mvL s.l hk pk g2 (uK s.l hk pk),s.free,s.st,s.many⟩
 | _,_=>s
theorem EL(i g D g2:Int)(b:Nat)(w:World)(base t p:Nat)(s:Ps)(h:PQ w base t p s)(I:s.Ok 32 b)(hb:b<=1000)(G:Tr s.l):
 Calls prog 78 #[ze (zo ⟨t,0,zp⟩),zg #[zd zj i,zd zj g],zg #[zd zj D,zd zj g2]] w fun e w'=>e=zm (zd zj (s.bQ i g D g2))/\PQ w' base t p (s.dD i g D g2)/\OB base p w w':=by
 have A:s.find i g=zp∨s.find D g2=zp->Calls prog 78 #[ze (zo ⟨t,0,zp⟩),zg #[zd zj i,zd zj g],zg #[zd zj D,zd zj g2]] w fun e w'=>e=zm (zd zj 2)/\PQ w' base t p s/\OB base p w w':=fun T=>
  (EK i g D g2 b w base t p s h I hb T).mono fun e w' ⟨E,B⟩=>⟨E,h.behind B,OB.NZ B h.OS⟩
 unfold Ps.dD Ps.bQ;cases hk:s.find i g with
 | none=>exact A (.inl hk)
 | some hk0=>
  cases hp:s.find D g2 with
  | none=>exact A (.inr hp)
  | some pk=>
   obtain⟨qh,rfl,E,B,rfl,_,M⟩:=qc hk;obtain⟨qp,rfl,J,N,rfl,_,O⟩:=qc hp;by_cases H:hk0=0
   .have R:=Om G E H;subst H;simp only[if_true];rw[R]at M ⊢;exact(UM pk qp.gen b w base t p s h I hb M O).mono fun e w' ⟨E,B⟩=>⟨E,h.behind B,OB.NZ B h.OS⟩
   .simp only[if_neg H];have bX:uK s.l hk0 pk=qp.x.dp+1-qh.x.dp:=by unfold uK;rw[xD E,xD J]
    rw[bX];exact UP hk0 pk qh qp b w base t p s h I hb G E B J N H _ _ rfl rfl
theorem JH(A:Tr s.l){hk pk:Nat}{qh qp:Pl}(D:s.l[hk]?=zo qh)(H:qh.used=zq)(B:s.l[pk]?=zo qp)(I:qp.used=zq)(M:hk≠0)(G:RI s.l pk hk=zt)(hd:vE s.l hk (uK s.l hk pk)=zt):Oo s.l hk pk qh qp (uK s.l hk pk):=
 ⟨A,D,H,B,I,M,G,by unfold uK;rw[xD D,xD B],fun k q E J hs=>IM hd E J hs⟩
theorem Tr.dD(A:Tr s.l)(i g B g2:Int):Tr (s.dD i g B g2).l:=by
 unfold Ps.dD;cases hk:s.find i g with
 | none=>exact A
 | some hk0=>
  cases hp:s.find B g2 with
  | none=>exact A
  | some pk=>
   obtain⟨qh,rfl,I,G,rfl,_,h6⟩:=qc hk;obtain⟨qp,rfl,D,H,rfl,_,p6⟩:=qc hp;simp only;split
   .exact A
   .rename_i J;split
    .exact A
    .rename_i E;split
     .exact A
     .rename_i hd;exact(JH A I G D H J (by simpa using E) (by simpa using hd)).gU (Wq _ _ _)
theorem Ps.Ok.dD{b:Nat}(h:s.Ok 32 b)(i g A g2:Int):(s.dD i g A g2).Ok 32 (b+1):=by
 unfold Ps.dD;split
 .split
  .exact h.more
  .split
   .exact h.more
   .split
    .exact h.more
    .exact(h.alike ((Wq s.l _ _).alike (Jr _ _ _ _))).more
 .exact h.more
theorem Tr.dC(A:Tr s.l)(i g:Int):Tr (s.dC i g).l:=by
 unfold Ps.dC;cases hk:s.find i g with
 | none=>exact A
 | some k=>
  obtain⟨q,rfl,h1,h2,rfl,_,_⟩:=qc hk;simp only;split
  .exact A
  .rename_i M;split
   .rename_i J;unfold Ps.bB;rw[hk];refine A.less M (fun j E H D B I=>?_) _ rfl;have G:(j,E.gen)∈qV s.l (Yb s k q.gen):=by refine Bf.2 ⟨⟨E,H,D,rfl⟩,?_⟩;unfold Yb;rw[hk];exact decide_eq_true ⟨B,by unfold TA;rw[xD H,I];simp⟩
    rw[List.eq_nil_of_length_eq_zero J]at G;simp at G
   .exact A
theorem Ps.Ok.dC{b:Nat}(h:s.Ok 32 b)(i g:Int):(s.dC i g).Ok 32 (b+1):=by
 unfold Ps.dC;split
 .exact h.more
 .split
  .exact h.more
  .split
   .exact h.bB _ _
   .exact h.more
