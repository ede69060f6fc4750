/- Parts of the proof of the law TopKeeps: contracts of the functions that it reaches, and plain laws of what they compute. Conditions: those in each statement. -/
import Derived.Test.YtmgekibncmnmiaaGreatDoorM26
set_option linter.unusedVariables false
set_option maxRecDepth 100000
set_option maxHeartbeats 4000000
open Go.Proofs.Tryz
namespace Go.Proofs.YtmgekibncmnmiaaGreatDoor
open Go Go.RowKit Go.ChangeShapes Go.WideShapes
theorem zbD{h:Hm}(E:h.Ok){g u:Nat}{x:Gr}(B:h.gs g=some x)(h1:x.up=u):g≠0/\g≠u/\∃y,h.gs u=some y/\x.deep=y.deep+1:=by
 have A:g≠0:=by rintro rfl;obtain⟨r,G,hu,_⟩:=E.root;rw[B]at G;cases G;omega
 obtain⟨H,y,h0,D,hd⟩:=E.up g x B A;have:H=u:=by omega
 subst this;refine⟨A,?_,y,D,hd⟩;rintro rfl;rw[B]at D;cases D;omega
theorem zh9{h:Hm}(H:h.Ok){g u:Nat}{x y:Gr}(I:h.gs g=some x)(E:x.up=u)(T:h.gs u=some y)(O:x.on=false):
 (x.zpM y.q.min h.credit).Ok/\(x.zpM y.q.min h.credit).id=2*g+1/\y.q.get (x.zpM y.q.min h.credit).id=none/\y.q.l.length<128/\
  ((h.set u (y.zpb (y.q.put (x.zpM y.q.min h.credit)))).set g (x.zqj y.q.min h.credit)).Ok:=by
 obtain⟨U,N,_⟩:=zbD H I E;obtain⟨R,V⟩:=H.own g x I U;obtain⟨D,J⟩:=H.q u y T;have h0:=H.zq4 g x I;have hw:=Gr.zsb (x:=x) R y.q.min h.credit;have A:(x.zpM y.q.min h.credit).id=2*g+1:=V;have B:y.q.get (x.zpM y.q.min h.credit).id=none:=by
  rw[A];cases hgg:y.q.get (2*(g:Int)+1)with
  | none=>rfl
  | some a=>
   have:=(H.on u y g x T I E).1 (zbz.2 (by rw[hgg];simp));rw[O]at this;cases this
 have hlen:=room D J (i:=2*(g:Int)+1) (by omega) (by rw[<-A];exact B);have G:=zfj D hw B hlen;refine⟨hw,A,B,hlen,?_⟩;refine H.step I E T N rfl rfl rfl ⟨hw,A⟩ rfl rfl rfl rfl (zh7 D hw B hlen) ?_ ?_ ?_
 ·intro a Y;rcases(G a.id).1 ⟨a,Y,rfl⟩with M | ⟨b,hb,X⟩
  ·rw[M,A];omega
  ·rw[<-X];exact J b hb
 ·intro c hc;show(y.q.put _).has _↔_;rw[G,A];constructor
  ·rintro(M | M)
   ·omega
   ·exact M
  ·exact .inr
 ·show(y.q.put _).has _↔_;rw[G,A];exact⟨fun _=>rfl,fun _=>.inl rfl⟩
theorem zdh{h:Hm}(G:h.Ok){g u:Nat}{x y:Gr}(H:h.gs g=some x)(B:x.up=u)(M:h.gs u=some y)(J:x.on=true):
 y.q.get (2*g+1)=some (x.zpX y.q g)/\((h.set u (y.zpb (y.q.drop (2*g+1)))).set g (x.go (x.zpX y.q g))).Ok:=by
 obtain⟨N,I,_⟩:=zbD G H B;obtain⟨h0,h1⟩:=G.own g x H N;obtain⟨A,O⟩:=G.q u y M;have D:=zdc A (2*(g:Int)+1);have R:y.q.has (2*g+1):=(G.on u y g x M H B).2 J;have E:y.q.get (2*g+1)=some (x.zpX y.q g):=by
  unfold Gr.zpX;cases hgg:y.q.get (2*(g:Int)+1)with
  | none=>exact absurd hgg (zbz.1 R)
  | some a=>rfl
 refine⟨E,?_⟩;refine G.step H B M I rfl rfl rfl ⟨A.zpR _ (yh E).1,(yh E).2⟩ rfl rfl rfl rfl (zfl A _) (zfk O fun i T=>((D i).1 T).2) ?_ ?_
 ·intro c hc;show(y.q.drop _).has _↔_;rw[D];exact⟨fun h=>h.2,fun h=>⟨by omega,h⟩⟩
 ·show(y.q.drop _).has _↔_;rw[D];exact⟨fun h=>absurd rfl h.1,fun h=>by cases h⟩
theorem set_set(h:Hm){g u:Nat}(h0:g≠u)(a b c:Gr):((h.set g a).set u b).set g c=(h.set u b).set g c:=by
 unfold Hm.set
 congr 1
 funext k;simp only;by_cases e:k=g
 ·simp[e]
 ·by_cases A:k=u
  ·simp[A]
  ·simp[e,A]
theorem zgq{h:Hm}{n g u:Nat}{x y:Gr}(E:h.gs g=some x)(B:x.up=u)(D:h.gs u=some y)(hs:x.zpr=true)(A:x.on=false):
 h.settle (n+1) g=Hm.settle n ((h.set u (y.zpb (y.q.put (x.zpM y.q.min h.credit)))).set g (x.zqj y.q.min h.credit)) u:=by
 have e:x.up.toNat=u:=by rw[B];rfl
 conv=>lhs;unfold Hm.settle
 rw[E];simp only;rw[if_neg (by omega),e,D];simp only;rw[if_neg (by rw[hs,A];simp),if_pos hs]
theorem zey{h:Hm}{n g u:Nat}{x y:Gr}(E:h.gs g=some x)(B:x.up=u)(D:h.gs u=some y)(hs:x.zpr=false)(A:x.on=true):
 h.settle (n+1) g=Hm.settle n ((h.set u (y.zpb (y.q.drop (2*g+1)))).set g (x.go (x.zpX y.q g))) u:=by
 have e:x.up.toNat=u:=by rw[B];rfl
 conv=>lhs;unfold Hm.settle
 rw[E];simp only;rw[if_neg (by omega),e,D];simp only;rw[if_neg (by rw[hs,A];simp),if_neg (by rw[hs];simp)]
theorem vO{h:Hm}{n g:Nat}{x:Gr}(A:h.gs g=some x)(hs:x.up<0∨x.zpr=x.on):h.settle (n+1) g=h:=by
 conv=>lhs;unfold Hm.settle
 rw[A];simp only;split
 ·rfl
 ·rename_i hu;split
  ·rfl
  ·rcases hs with hs | hs
   ·exact absurd hs hu
   ·rw[if_pos hs]
theorem HS.zrz{w w':World}{F:Nat->Prop}{p:Nat}{h:Hm}{ps:Nat->Option Nat}{J T:Nat->Nat}(hs:HS w F p h ps J T){g b:Nat}{x y:Gr}(m:h.gs g=some x)(hb:ps g=some b)
 (V:zo8 (fun k=>k=b) w w') (G:w'.heap.size=w.heap.size) (X:zpQ w' b (J g) y) (Z:y.q=x.q):HS w' F p (h.set g y) ps J T:=by
 obtain⟨E,H,l,tb,gb,Y⟩:=hs.gx g x m;obtain rfl:E=b:=by rw[hb]at H;exact(Option.some.inj H).symm
 have A:∀k,k<w.heap.size->k≠E->w'.heap[k]?=w.heap[k]?:=fun k D B=>V.block k D B;refine⟨?_,?_,?_,hs.inj,hs.fp,hs.tp⟩
 ·exact hs.hx.of (A p hs.hx.lt (hs.hx.ztx gb))
 ·intro k D;by_cases e:k=g
  ·subst e;rw[zw]at D;cases D
  ·rw[zo h y e]at D;exact hs.zsX k D
 ·intro k z G;by_cases e:k=g
  ·subst e;rw[zw]at G;cases G;refine⟨E,hb,l,tb,X,?_⟩;rw[Z];refine Y.kept fun j N I=>A j N ?_;rintro rfl;have M:=I.2;rw[tb]at M;omega
  ·rw[zo h y e]at G;obtain⟨c,R,U,f,O,a⟩:=hs.gx k z G;have B:c≠E:=fun d=>e (hs.inj k g E (d▸R) hb);refine⟨c,R,U,f,O.of (A c O.lt B),a.kept fun j N I=>A j N ?_⟩;rintro rfl;have M:=I.2;rw[tb]at M;omega
theorem HS.zsc{w w':World}{F:Nat->Prop}{p:Nat}{h:Hm}{ps:Nat->Option Nat}{D A:Nat->Nat}(hs:HS w F p h ps D A){g:Nat}{x:Gr}{q':Qu}(G:h.gs g=some x)
 (E:zo8 (fun k=>F k/\A k=g+1) w w') (I:yA w' (Ext (fun k=>F k/\A k=g+1) w w') (D g) q'):HS w' (Ext F w w') p (h.set g (x.zpb q')) ps D (fun k=>if k<w.heap.size then A k else g+1):=by
 obtain⟨J,B,fb,tb,gb,qb⟩:=hs.gx g x G;refine hs.zpt G B (E.mono fun k H=>.inr H) ?_ I;exact gb.of (E.block J gb.lt (by rintro⟨_,e⟩;rw[tb]at e;omega))
theorem HS.zqt{w:World}{F:Nat->Prop}{p:Nat}{h:Hm}{ps:Nat->Option Nat}{B A:Nat->Nat}(hs:HS w F p h ps B A){g:Nat}{x:Gr}(D:h.gs g=some x):yA w (fun k=>F k/\A k=g+1) (B g) x.q:=by obtain⟨b0,h0,fb,tb,gb,E⟩:=hs.gx g x D;exact E
theorem HS.zpS{w:World}{F:Nat->Prop}{p:Nat}{h:Hm}{ps:Nat->Option Nat}{D B:Nat->Nat}(hs:HS w F p h ps D B){g:Nat}{x:Gr}(H:h.gs g=some x):∃b,ps g=some b/\F b/\B b=0/\zpQ w b (D g) x:=by obtain⟨E,A,G,tb,gb,qb⟩:=hs.gx g x H;exact⟨E,A,G,tb,gb⟩
theorem zo8.exts{F G:Nat->Prop}{a b c:World}(D:zo8 F a b)(B:zo8 (Ext F a b) b c):zo8 F a c:=D.trans B fun k A=>by
 rcases A with A | ⟨A,_⟩
 ·exact .inl A
 ·exact .inr A
section
attribute [local go_sem ↓] Go.wp_at_zero Go.wp_at_succ
def xO(w:World)(F:Nat->Prop)(p:Nat)(A:Hm)(z:Ending)(w':World):Prop:=z=.returned (.tuple #[])/\zB w' (Ext F w w') p A/\zo8 F w w'
theorem zgr(w:World)(F:Nat->Prop)(p g:Nat)(h:Hm)(x:Gr)(H:zB w F p h)(D:h.gs g=some x)(hu:x.up= -1):
 Calls prog 133 #[.pointer (some ⟨p,0,none⟩),.int .i64 g] w (xO w F p h):=by
 have N:=zc H;obtain⟨⟨ps,qs,tg,hs⟩,A⟩:=H;have E:=A.zq4 g x D;obtain⟨b,G,I,M,B⟩:=hs.zpS D;have O:=hs.hx.at E;rw[G]at O;have hl:=hs.hx.lt;obtain⟨c0,c1,c2,c3,c4,c5,c6,c7,c8⟩:=B.c9;rw[hu]at c0;have h0:=B.lt;clear hs A G I M B D hu;go_enter func133,ntmps133;go_wp2;go_end0;exact⟨rfl,N.out.mono fun k E J=>.inl J,zo8.refl F w⟩
theorem zl7(w:World)(F:Nat->Prop)(p g u:Nat)(h:Hm)(x y:Gr)(v:zB w F p h)(I:h.gs g=some x)(hu:x.up=u)(O:h.gs u=some y)(E:x.st=true)(D:x.on=false):
 Calls prog 133 #[.pointer (some ⟨p,0,none⟩),.int .i64 g] w (xO w F p h):=by
 have HH:=zc v;obtain⟨⟨ps,n,W,hs⟩,B⟩:=v;have Z:=B.zq4 g x I;have Y:=B.zq4 u y O;obtain⟨b,f,C,P,R⟩:=hs.zpS I;obtain⟨c,a,Q,S,T⟩:=hs.zpS O;have h8:=zc hs;have h5:=zc B;have HX:=zc I;have HY:=zc O;have K:=zc R;have HC:=zc T;have m:=zc (hs.zqt I);have h6:=zc f;have h0:=zc a;have HU:=zc hu;have HF:=zc C;have l:=zc E;have V:=zc D;have o:=hs.hx.at Z;have hd:=hs.hx.at Y;rw[f]at o;rw[a]at hd;have hl:=hs.hx.lt;have M:=R.lt;have zre:=T.lt;obtain⟨c0,s,c2,c3,c4,c5,z,U,N⟩:=R.c9;rw[hu]at c0;rw[D]at U;rw[E]at N;obtain⟨d0,d1,d2,d3,d4,d5,d6,d7,d8⟩:=T.c9
 obtain⟨q,d⟩:=zh (n g)
 obtain⟨r,j⟩:=zh (n u)
 have h9:=zc d;have h7:=zc j;rw[<-d]at c2 m K;rw[<-j]at d2 HC;clear hs B f C P R a Q S T I O hu d j E D d0 d1 d3 d4 d5 d6 d7 d8;go_enter func133,ntmps133;go_wp2_with fail;go_quiet (fail);obtain⟨H,A⟩:=zh (w.drewN nq)
 have X:zY F w H:=by rw[A];exact fun k _ _=>rfl
 have J:Hid (Below w.heap.size w H):=zc (by rw[A];exact zp (Below.refl _ w) nq);have G:H.heap=w.heap:=by rw[A];rfl
 have L:Hid (zpQ H b q x):=zc (K.out.of (by rw[G]));have Q2:Hid (yA H (fun k=>F k/\W k=g+1) q x.q):=zc (m.out.kept fun k Z t=>by rw[G]);rw[<-A];clear A X G c0 s c2 c3 c4 c5 z U N o hd d2 hl M zre;obtain⟨c0,s,c2,c3,c4,c5,z,U,N⟩:=L.out.c9;rw[HU.out]at c0;rw[V.out]at U;rw[l.out]at N;have M:=L.out.lt;go_wp2;go_end0;exact⟨rfl,HH.out.kept (.zo7 J.out) |>.mono fun k Z t=>.inl t,zo8.zo7 J.out⟩
theorem zl8(w:World)(F:Nat->Prop)(p g u:Nat)(h:Hm)(x y:Gr)(Q:zB w F p h)(R:h.gs g=some x)(hu:x.up=u)(Y:h.gs u=some y)(J:x.st=false)(hlen:x.q.l.length=0)(H:x.on=false):
 Calls prog 133 #[.pointer (some ⟨p,0,none⟩),.int .i64 g] w (xO w F p h):=by
 have HH:=zc Q;obtain⟨⟨ps,K,tg,hs⟩,B⟩:=Q;have m:=B.zq4 g x R;have j:=B.zq4 u y Y;obtain⟨b,s,S,h3,a⟩:=hs.zpS R;obtain⟨c,n,k2,k3,d⟩:=hs.zpS Y;have h9:=zc hs;have h6:=zc B;have HX:=zc R;have HY:=zc Y;have HB:=zc a;have HC:=zc d;have C:=zc (hs.zqt R);have h7:=zc s;have h5:=zc n;have HU:=zc hu;have HF:=zc S;have V:=zc J;have O:=zc H;have L:=hs.hx.at m;have hd:=hs.hx.at j;rw[s]at L;rw[n]at hd;have hl:=hs.hx.lt;have E:=a.lt;have zre:=d.lt;obtain⟨c0,X,c2,c3,c4,c5,Z,N,I⟩:=a.c9;rw[hu]at c0;rw[H]at N;rw[J]at I;obtain⟨d0,d1,d2,d3,d4,d5,d6,d7,d8⟩:=d.c9
 obtain⟨q,o⟩:=zh (K g)
 obtain⟨r,t⟩:=zh (K u)
 have ha:=zc o;have h8:=zc t;rw[<-o]at c2 C HB;rw[<-t]at d2 HC;clear hs B s S h3 a n k2 k3 d R Y hu o t J H d0 d1 d3 d4 d5 d6 d7 d8;go_enter func133,ntmps133;go_wp2_with fail;go_quiet (fail);obtain⟨G,A⟩:=zh (w.drewN nq)
 have f:zY F w G:=by rw[A];exact fun k _ _=>rfl
 have T:Hid (Below w.heap.size w G):=zc (by rw[A];exact zp (Below.refl _ w) nq);have M:G.heap=w.heap:=by rw[A];rfl
 have v:Hid (zpQ G b q x):=zc (HB.out.of (by rw[M]));have Q2:Hid (yA G (fun k=>F k/\tg k=g+1) q x.q):=zc (C.out.kept fun k m P=>by rw[M]);rw[<-A];clear A f M c0 X c2 c3 c4 c5 Z N I L hd d2 hl E zre;obtain⟨c0,X,c2,c3,c4,c5,Z,N,I⟩:=v.out.c9;rw[HU.out]at c0;rw[O.out]at N;rw[V.out]at I;have E:=v.out.lt;go_wp2_with fail;refine(uG G _ q x.q Q2.out).mono ?_;rintro z w3 ⟨⟨ea,ec,rfl⟩,D⟩;have U:=zc (zj T.out D T.out.size);have W:=zc (v.out.behind D);have h0:=zc D;clear D c0 X c2 c3 c4 c5 Z N I E;obtain⟨c0,X,c2,c3,c4,c5,Z,N,I⟩:=W.out.c9;rw[HU.out]at c0;rw[O.out]at N;rw[V.out]at I
 have E:=W.out.lt;go_wp2;go_end0;exact⟨rfl,HH.out.kept (.zo7 U.out) |>.mono fun k m P=>.inl P,zo8.zo7 U.out⟩
theorem zl9(w:World)(F:Nat->Prop)(p g u:Nat)(h:Hm)(x y:Gr)(Q:zB w F p h)(R:h.gs g=some x)(hu:x.up=u)(Y:h.gs u=some y)(J:x.st=false)(hlen:0<x.q.l.length)(H:x.on=true):
 Calls prog 133 #[.pointer (some ⟨p,0,none⟩),.int .i64 g] w (xO w F p h):=by
 have HH:=zc Q;obtain⟨⟨ps,K,tg,hs⟩,B⟩:=Q;have m:=B.zq4 g x R;have j:=B.zq4 u y Y;obtain⟨b,s,S,h3,a⟩:=hs.zpS R;obtain⟨c,n,k2,k3,d⟩:=hs.zpS Y;have h9:=zc hs;have h6:=zc B;have HX:=zc R;have HY:=zc Y;have HB:=zc a;have HC:=zc d;have C:=zc (hs.zqt R);have h7:=zc s;have h5:=zc n;have HU:=zc hu;have HF:=zc S;have V:=zc J;have O:=zc H;have L:=hs.hx.at m;have hd:=hs.hx.at j;rw[s]at L;rw[n]at hd;have hl:=hs.hx.lt;have E:=a.lt;have zre:=d.lt;obtain⟨c0,X,c2,c3,c4,c5,Z,N,I⟩:=a.c9;rw[hu]at c0;rw[H]at N;rw[J]at I;obtain⟨d0,d1,d2,d3,d4,d5,d6,d7,d8⟩:=d.c9
 obtain⟨q,o⟩:=zh (K g)
 obtain⟨r,t⟩:=zh (K u)
 have ha:=zc o;have h8:=zc t;rw[<-o]at c2 C HB;rw[<-t]at d2 HC;clear hs B s S h3 a n k2 k3 d R Y hu o t J H d0 d1 d3 d4 d5 d6 d7 d8;go_enter func133,ntmps133;go_wp2_with fail;go_quiet (fail);obtain⟨G,A⟩:=zh (w.drewN nq)
 have f:zY F w G:=by rw[A];exact fun k _ _=>rfl
 have T:Hid (Below w.heap.size w G):=zc (by rw[A];exact zp (Below.refl _ w) nq);have M:G.heap=w.heap:=by rw[A];rfl
 have v:Hid (zpQ G b q x):=zc (HB.out.of (by rw[M]));have Q2:Hid (yA G (fun k=>F k/\tg k=g+1) q x.q):=zc (C.out.kept fun k m P=>by rw[M]);rw[<-A];clear A f M c0 X c2 c3 c4 c5 Z N I L hd d2 hl E zre;obtain⟨c0,X,c2,c3,c4,c5,Z,N,I⟩:=v.out.c9;rw[HU.out]at c0;rw[O.out]at N;rw[V.out]at I;have E:=v.out.lt;go_wp2_with fail;refine(uG G _ q x.q Q2.out).mono ?_;rintro z w3 ⟨⟨ea,ec,rfl⟩,D⟩;have U:=zc (zj T.out D T.out.size);have W:=zc (v.out.behind D);have h0:=zc D;clear D c0 X c2 c3 c4 c5 Z N I E;obtain⟨c0,X,c2,c3,c4,c5,Z,N,I⟩:=W.out.c9;rw[HU.out]at c0;rw[O.out]at N;rw[V.out]at I
 have E:=W.out.lt;go_wp2;go_end0;exact⟨rfl,HH.out.kept (.zo7 U.out) |>.mono fun k m P=>.inl P,zo8.zo7 U.out⟩
theorem zma(n:Nat)(w:World)(F:Nat->Prop)(p g u:Nat)(h:Hm)(x y:Gr)(hh:zB w F p h)(s:h.gs g=some x)(hu:x.up=u)(C:h.gs u=some y)(d:x.st=false)(hlen:0<x.q.l.length)(R:x.on=false)
 (kf: -9223372036854775808<=h.credit/\h.credit<=9223372036854775807)
 (t:∀w' F',zB w' F' p ((h.set u (y.zpb (y.q.put (x.zpM y.q.min h.credit)))).set g (x.zqj y.q.min h.credit))->Calls prog 133 #[.pointer (some ⟨p,0,none⟩),.int .i64 u] w' (xO w' F' p (Hm.settle n ((h.set u (y.zpb (y.q.put (x.zpM y.q.min h.credit)))).set g (x.zqj y.q.min h.credit)) u))):
 Calls prog 133 #[.pointer (some ⟨p,0,none⟩),.int .i64 g] w (xO w F p (h.settle (n+1) g)):=by
 have Ho:x.zpr=true:=by
  unfold Gr.zpr;rw[d];cases hl:x.q.l with
  | nil=>rw[hl]at hlen;simp at hlen
  | cons a l=>simp
 rw[zgq s hu C Ho R];obtain⟨f1,f2,f3,f4,f5⟩:=zh9 hh.2 s hu C R;have ha:=zbA (hh.2.q u y C).1 f1 f3 f4;have Hg:=(zbD hh.2 s hu).2.1;obtain⟨E,hE⟩:=zh (x.zpM y.q.min h.credit)
 have Ha:E.v=zah x.own.v y.q.min h.credit:=by rw[hE];rfl
 have He:E.id=x.own.id/\E.w=x.own.w/\E.rem=x.own.rem:=by rw[hE];exact⟨rfl,rfl,rfl⟩
 have kc:=(hh.2.q u y C).1.min;rw[<-hE]at f1 f2 f3 ha;have HE:=zc hE;have kk:=zc Ha;have kj:=zc He;have k8:=zc f5;have Hv:=zc ha;have Ht:=zc f1;have ke:=zc f3;have k7:=zc f4;have H6:=zc t;have W:=zc Hg;clear Ho f1 f2 f3 f4 f5 ha Hg hE Ha He t;have HH:=zc hh;obtain⟨⟨ps,qs,tg,hs⟩,Z⟩:=hh;have H:=Z.zq4 g x s;have Hw:=Z.zq4 u y C;obtain⟨b,N,j,h3,h4⟩:=hs.zpS s;obtain⟨c,k1,k2,k3,k4⟩:=hs.zpS C;have H0:=zc hs;have ki:=zc Z;have HX:=zc s;have HY:=zc C;have HB:=zc h4;have HC:=zc k4;have HQ:=zc (hs.zqt s)
 have ho:=zc N;have kh:=zc k1;have HU:=zc hu;have HF:=zc j;have H3:=zc d;have P:=zc R;have hc:=hs.hx.at H;have hd:=hs.hx.at Hw;rw[N]at hc;rw[k1]at hd;have hl:=hs.hx.lt;have A:=h4.lt;have zre:=k4.lt;obtain⟨c0,I,c2,c3,c4,c5,G,D,B⟩:=h4.c9;rw[hu]at c0;rw[R]at D;rw[d]at B;obtain⟨d0,d1,d2,d3,d4,d5,d6,d7,d8⟩:=k4.c9;obtain⟨q,hq⟩:=zh (qs g)
 obtain⟨r,hr⟩:=zh (qs u)
 have Hq:=zc hq;have ht:=zc hr;rw[<-hq]at c2 HQ HB;rw[<-hr]at d2 HC;clear hs Z N j h3 h4 k1 k2 k3 k4 s C hu hq hr d R d0 d1 d3 d4 d5 d6 d7 d8;go_enter func133,ntmps133;go_wp2_with fail;go_quiet (fail);obtain⟨K,O⟩:=zh (w.drewN nq)
 have Hr:zY F w K:=by rw[O];exact fun k _ _=>rfl
 have Hd:Hid (Below w.heap.size w K):=zc (by rw[O];exact zp (Below.refl _ w) nq);have hi:K.heap=w.heap:=by rw[O];rfl
 have G2:Hid (zpQ K b q x):=zc (HB.out.of (by rw[hi]));have Q2:Hid (yA K (fun k=>F k/\tg k=g+1) q x.q):=zc (HQ.out.kept fun k H hf=>by rw[hi]);rw[<-O];clear O Hr hi c0 I c2 c3 c4 c5 G D B hc hd d2 hl A zre;obtain⟨c0,I,c2,c3,c4,c5,G,D,B⟩:=G2.out.c9;rw[HU.out]at c0;rw[P.out]at D;rw[H3.out]at B;have A:=G2.out.lt;go_wp2_with fail;refine(uG K _ q x.q Q2.out).mono ?_;rintro z w3 ⟨⟨ea,ec,rfl⟩,f⟩;have hg:=zc (zj Hd.out f Hd.out.size);have G3:=zc (G2.out.behind f);have kg:=zc f;clear f c0 I c2 c3 c4 c5 G D B A;obtain⟨c0,I,c2,c3,c4,c5,G,D,B⟩:=G3.out.c9;rw[HU.out]at c0;rw[P.out]at D;rw[H3.out]at B
 have A:=G3.out.lt;have h6:=zc (H0.out.kept (.zo7 hg.out));have Y3:=zc (h6.out.zqt HY.out);rw[<-ht.out]at Y3;have Hs:=h6.out.hx.c0;have Hu:=h6.out.hx.lt;obtain⟨V,hV⟩:=zh (zah x.own.v y.q.min h.credit)
 have HV:=zc hV;clear hV;go_wp2_with fail;go_region_with
  ((
   first
   | (
    go_at_call 131;refine(zew w3.drew _ r y.q (Y3.out.kept fun k _ _=>rfl)).mono ?_;rintro z w4 ⟨rfl,hw⟩;obtain rfl:=hw.symm)
   | (
    go_at_call 137;refine(zgg x.own.v y.q.min h.credit w3.drew kc kf).mono ?_;rintro z w4 ⟨rfl,hz⟩;rw[<-HV.out];have kb:=zc hz;have G4:=zc ((show zpQ w3.drew b q x from G3.out).behind hz);clear hz c0 I c2 c3 c4 c5 G D B A;obtain⟨c0,I,c2,c3,c4,c5,G,D,B⟩:=G4.out.c9;rw[HU.out]at c0;rw[P.out]at D;rw[H3.out]at B;have A:=G4.out.lt;have h0:=G4.out.zpe)))
 all_goals
  go_upto_region 8 with(fail)
  have U:Hid (Below w.heap.size w w4):=zc (zj (zv hg.out) kb.out hg.out.size);have k6:=zc (H0.out.kept (.zo7 U.out));obtain⟨m,T⟩:=zh (w4.setCell ⟨b,5,none⟩ (.int .i64 V))
  have hj:zo8 (fun k=>k=b) w4 m:=by rw[T];exact(zo8.refl _ w4).one
  have h5:m.heap.size=w4.heap.size:=by rw[T];simp[World.setCell]
  obtain⟨M,J⟩:∃M:Gr,M={ x with own:=E }:=⟨_,rfl⟩
  have L:zpQ m b q M:=by
   have N:=G4.out.zsF V;have j:({ x with own:={ x.own with v:=V } }:Gr)=M:=by rw[J,HE.out,HV.out];rfl
   rw[j]at N;rw[T];exact N
  have S:HS m F p (h.set g M) ps qs tg:=k6.out.zrz HX.out ho.out hj h5 (by rw[<-Hq.out];exact L) (by rw[J]);have Q:(h.set g M).gs u=some y:=by rw[zo _ _ (Ne.symm W.out)];exact HY.out
  have hv:=S.zqt Q;rw[<-ht.out]at hv;have k0:=zc S;have G5:=zc L;have k5:=zc hj;have kd:=zc h5;have Hy:=zc Q;have Q5:=zc hv;have Hf:=zc J;rw[<-T];clear T hj h5 L S Q hv Hs Hu c0 I c2 c3 c4 c5 G D B A h0;have H5:M.up=u:=by rw[J];exact HU.out
  have H4:M.own=E:=by rw[J]
  clear J;obtain⟨c0,I,c2,c3,c4,c5,G,D,B⟩:=G5.out.c9;rw[H4]at c3 c4 c5 G;have A:=G5.out.lt;clear c0 I c2 D B;go_wp2_with fail;refine(zev E m _ r y.q Q5.out Ht.out ke.out k7.out).mono ?_;rintro z w6 ⟨rfl,H2,Y⟩;rw[<-Hv.out]at H2;have Hj:zpQ w6 b q M:=G5.out.of (Y.block b A (by
   rintro⟨_,e⟩;obtain⟨b',e1,_,e2,_⟩:=H0.out.zpS HX.out;have:b'=b:=by rw[ho.out]at e1;exact(Option.some.inj e1).symm
   rw[this]at e2;rw[e2]at e;omega))
  have Hl:=k0.out.zsc Hy.out Y (by rw[<-ht.out];exact H2);have Hz:=zc Hl;have G6:=zc Hj;have Hp:=zc Y;clear Hl Hj Y H2 A c3 c4 c5 G;obtain⟨c0,I,c2,c3,c4,c5,G,D,B⟩:=G6.out.c9;rw[H5]at c0;have A:=G6.out.lt;have h0:=G6.out.zpe;clear I c2 c3 c4 c5 G B;go_upto_region 10 with(fail)
  obtain⟨o,X⟩:=zh (w6.setCell ⟨b,7,none⟩ (.bool true))
  have h7:zo8 (fun k=>k=b) w6 o:=by rw[X];exact(zo8.refl _ w6).one
  have h8:o.heap.size=w6.heap.size:=by rw[X];simp[World.setCell]
  have h9:zpQ o b q (x.zqj y.q.min h.credit):=by
   have N:=G6.out.zsV true;have j:({ M with on:=true }:Gr)=x.zqj y.q.min h.credit:=by rw[Hf.out,HE.out];rfl
   rw[j]at N;rw[X];exact N
  have H9:((h.set g M).set u (y.zpb (y.q.put E))).gs g=some M:=by rw[zo _ _ W.out,zw]
  have hn:=Hz.out.zrz H9 ho.out h7 h8 (by rw[<-Hq.out];exact h9) (by rw[Hf.out];rfl);rw[set_set h W.out,HE.out]at hn;have Hn:zB o (Ext F m w6) p _:=⟨⟨_,_,_,hn⟩,k8.out⟩
  have H7:=zc Hn;have k9:=zc h7;have G7:=zc h9;have ka:=zc h8;rw[<-X];clear X hn Hn h7 h9 h8 H9 c0 D A h0;obtain⟨c0,I,c2,c3,c4,c5,G,D,B⟩:=G7.out.c9;have Hi:(x.zqj y.q.min h.credit).up=u:=HU.out;rw[Hi]at c0;have A:=G7.out.lt;clear I c2 c3 c4 c5 G D B Hi;go_wp2_with fail;refine(H6.out o _ H7.out).mono ?_;rintro z w8 ⟨rfl,Hh,Hk⟩;have H8:=zc Hh;have Hc:=zc Hk;clear Hh Hk;go_wp2;go_end0;have Hb:F b:=HF.out;have z1:=U.out.size;have z2:=Hp.out.size;have z3:=Hc.out.size;have z4:=kd.out;have z5:=ka.out;have t5:zo8 F w m:=(zo8.zo7 U.out:zo8 F w w4).trans k5.out fun k H=>.inl (H▸Hb)
  have t6:zo8 F w w6:=t5.trans Hp.out fun k H=>.inl H.1;have t7:zo8 F w o:=t6.trans k9.out fun k H=>.inl (H▸Hb);refine⟨rfl,H8.out.mono fun k H hf=>?_,t7.trans Hc.out fun k H=>?_⟩
  ·rcases hf with(hf | ⟨N,j⟩) | ⟨N,j⟩
   ·exact .inl hf
   ·exact .inr ⟨by omega,by omega⟩
   ·exact .inr ⟨by omega,by omega⟩
  ·rcases H with H | ⟨N,j⟩
   ·exact .inl H
   ·exact .inr (by omega)
theorem zmb(n:Nat)(w:World)(F:Nat->Prop)(p g u:Nat)(h:Hm)(x y:Gr)(hh:zB w F p h)(d:h.gs g=some x)(hu:x.up=u)(S:h.gs u=some y)(T:x.st=true)(I:x.on=true)
 (f:∀w' F',zB w' F' p ((h.set u (y.zpb (y.q.drop (2*g+1)))).set g (x.go (x.zpX y.q g)))->Calls prog 133 #[.pointer (some ⟨p,0,none⟩),.int .i64 u] w' (xO w' F' p (Hm.settle n ((h.set u (y.zpb (y.q.drop (2*g+1)))).set g (x.go (x.zpX y.q g))) u))):
 Calls prog 133 #[.pointer (some ⟨p,0,none⟩),.int .i64 g] w (xO w F p (h.settle (n+1) g)):=by
 have H5:x.zpr=false:=by unfold Gr.zpr;rw[T];rfl
 rw[zey d hu S H5 I];obtain⟨f1,f5⟩:=zdh hh.2 d hu S I;have hj:=(zbD hh.2 d hu).2.1;obtain⟨E,hE⟩:=zh (x.zpX y.q g)
 rw[<-hE]at f1;have HE:=zc hE;have Hk:=zc f5;have Hd:=zc f1;have h5:=zc f;have Hc:=zc hj;clear H5 f1 f5 hj hE f;have HH:=zc hh;obtain⟨⟨ps,qs,tg,hs⟩,R⟩:=hh;have G:=R.zq4 g x d;have Hf:=R.zq4 u y S;obtain⟨b,X,t,h3,h4⟩:=hs.zpS d;obtain⟨c,k1,k2,k3,k4⟩:=hs.zpS S;have H9:=zc hs;have Hs:=zc R;have HX:=zc d;have HY:=zc S;have HB:=zc h4;have HC:=zc k4;have HQ:=zc (hs.zqt d);have H3:=zc X;have Hr:=zc k1;have HU:=zc hu;have HF:=zc t;have Ha:=zc T;have h8:=zc I;have hc:=hs.hx.at G;have hd:=hs.hx.at Hf;rw[X]at hc;rw[k1]at hd;have hl:=hs.hx.lt;have A:=h4.lt
 have zre:=k4.lt;obtain⟨c0,J,c2,c3,c4,c5,N,D,B⟩:=h4.c9;rw[hu]at c0;rw[I]at D;rw[T]at B;obtain⟨d0,d1,d2,d3,d4,d5,d6,d7,d8⟩:=k4.c9;obtain⟨q,hq⟩:=zh (qs g)
 obtain⟨r,hr⟩:=zh (qs u)
 have Hq:=zc hq;have H4:=zc hr;rw[<-hq]at c2 HQ HB;rw[<-hr]at d2 HC;clear hs R X t h3 h4 k1 k2 k3 k4 d S hu hq hr T I d0 d1 d3 d4 d5 d6 d7 d8;go_enter func133,ntmps133;go_wp2_with fail;go_quiet (fail);obtain⟨l,H⟩:=zh (w.drewN nq)
 have Hb:zY F w l:=by rw[H];exact fun k _ _=>rfl
 have Hg:Hid (Below w.heap.size w l):=zc (by rw[H];exact zp (Below.refl _ w) nq);have L:l.heap=w.heap:=by rw[H];rfl
 have G2:Hid (zpQ l b q x):=zc (HB.out.of (by rw[L]));have Q2:Hid (yA l (fun k=>F k/\tg k=g+1) q x.q):=zc (HQ.out.kept fun k G Q=>by rw[L]);rw[<-H];clear H Hb L c0 J c2 c3 c4 c5 N D B hc hd d2 hl A zre;obtain⟨c0,J,c2,c3,c4,c5,N,D,B⟩:=G2.out.c9;rw[HU.out]at c0;rw[h8.out]at D;rw[Ha.out]at B;have A:=G2.out.lt;obtain⟨j,V⟩:=zh l
 have K:Hid (Below w.heap.size w j):=zc (by rw[V];exact Hg.out);have G3:Hid (zpQ j b q x):=zc (by rw[V];exact G2.out);rw[<-V];clear V c0 J c2 c3 c4 c5 N D B A;obtain⟨c0,J,c2,c3,c4,c5,N,D,B⟩:=G3.out.c9;rw[HU.out]at c0;rw[h8.out]at D;rw[Ha.out]at B;have A:=G3.out.lt;have hi:=zc (H9.out.kept (.zo7 K.out));have Y3:=zc (hi.out.zqt HY.out);rw[<-H4.out]at Y3;have Ho:=zc G;go_wp2_with fail;refine(zaJ j g Ho.out).mono ?_;rintro z w9 ⟨rfl,hw⟩;obtain rfl:=hw.symm;go_wp2_with fail;refine(za7 (2*g+1) E j _ r y.q Y3.out Hd.out).mono ?_;rintro z U ⟨rfl,h9,Z⟩;have hn:zpQ U b q x:=G3.out.of (Z.block b A (by
  rintro⟨_,e⟩;obtain⟨b',e1,_,e2,_⟩:=H9.out.zpS HX.out;have:b'=b:=by rw[H3.out]at e1;exact(Option.some.inj e1).symm
  rw[this]at e2;rw[e2]at e;omega))
 have hz:=hi.out.zsc HY.out Z (by rw[<-H4.out];exact h9.mono fun k G Q=>.inl Q);have Hj:=zc hz;have G4:=zc hn;have H6:=zc Z;clear hz hn Z h9 A c0 J c2 c3 c4 c5 N D B;obtain⟨c0,J,c2,c3,c4,c5,N,D,B⟩:=G4.out.c9;rw[HU.out]at c0;have A:=G4.out.lt;have m:=G4.out.zpe;clear J c2 B;go_upto_region 9 with(fail)
 obtain⟨W,M⟩:=zh ((((U.setCell ⟨b,3,none⟩ (.int .i64 E.id)).setCell ⟨b,4,none⟩ (.int .u64 E.w)).setCell ⟨b,5,none⟩ (.int .i64 E.v)).setCell ⟨b,6,none⟩ (.int .u64 E.rem))
 obtain⟨x1,Y⟩:∃x1:Gr,x1={ x with own:=E }:=⟨_,rfl⟩
 have ht:zo8 (fun k=>k=b) U W:=by rw[M];exact(zo8.refl _ U).one.one.one.one
 have hg:W.heap.size=U.heap.size:=by rw[M];simp[World.setCell]
 have h6:zpQ W b q x1:=by rw[M,Y];exact G4.out.zsW E
 have G5:=zc h6;have Hh:=zc ht;have Hp:=zc hg;have Hi:=zc Y;have h0:x1.up=u:=by rw[Y];exact HU.out
 rw[<-M];clear M ht hg h6 Y c0 c3 c4 c5 N D A m;obtain⟨c0,J,c2,c3,c4,c5,N,D,B⟩:=G5.out.c9;rw[h0]at c0;have A:=G5.out.lt;have m:=G5.out.zpe;clear J c2 c3 c4 c5 N B;go_upto_region 10 with(fail)
 obtain⟨a,O⟩:=zh (W.setCell ⟨b,7,none⟩ (.bool false))
 have o:zo8 (fun k=>k=b) U a:=by rw[O];exact Hh.out.one
 have s:a.heap.size=U.heap.size:=by rw[O,<-Hp.out];simp[World.setCell]
 have C:zpQ a b q (x.go E):=by
  have X:=G5.out.zsV false;have t:({ x1 with on:=false }:Gr)=x.go E:=by rw[Hi.out];rfl
  rw[t]at X;rw[O];exact X
 have h7:(h.set u (y.zpb (y.q.drop (2*g+1)))).gs g=some x:=by rw[zo _ _ Hc.out];exact HX.out
 have P:=Hj.out.zrz (y:=x.go E) h7 H3.out o s (by rw[<-Hq.out];exact C) rfl;rw[HE.out]at P;have H2:zB a (Ext F j U) p _:=⟨⟨_,_,_,P⟩,Hk.out⟩
 have H7:=zc H2;have Hl:=zc o;have G7:=zc C;have Hn:=zc s;rw[<-O];clear O P H2 o C s h7 c0 D A m;obtain⟨c0,J,c2,c3,c4,c5,N,D,B⟩:=G7.out.c9;have hv:(x.go E).up=u:=HU.out;rw[hv]at c0;have A:=G7.out.lt;clear J c2 c3 c4 c5 N D B hv;go_wp2_with fail;refine(h5.out a _ H7.out).mono ?_;rintro z w8 ⟨rfl,ho,H0⟩;have H8:=zc ho;have ha:=zc H0;clear ho H0;go_wp2;go_end0;have He:F b:=HF.out;have z1:=K.out.size;have z2:=H6.out.size;have z3:=ha.out.size;have z5:=Hn.out;have t4:zo8 F w U:=(zo8.zo7 K.out:zo8 F w j).trans H6.out fun k G=>.inl G.1;have t7:zo8 F w a:=t4.trans Hl.out fun k G=>.inl (G▸He)
 refine⟨rfl,H8.out.mono fun k G Q=>?_,t7.trans ha.out fun k G=>?_⟩
 ·rcases Q with(Q | ⟨X,t⟩) | ⟨X,t⟩
  ·exact .inl Q
  ·exact .inr ⟨by omega,by omega⟩
  ·exact .inr ⟨by omega,by omega⟩
 ·rcases G with G | ⟨X,t⟩
  ·exact .inl G
  ·exact .inr (by omega)
theorem zmc(n:Nat)(w:World)(F:Nat->Prop)(p g u:Nat)(h:Hm)(x y:Gr)(hh:zB w F p h)(a:h.gs g=some x)(hu:x.up=u)(S:h.gs u=some y)(m:x.st=false)(hlen:x.q.l.length=0)(I:x.on=true)
 (d:∀w' F',zB w' F' p ((h.set u (y.zpb (y.q.drop (2*g+1)))).set g (x.go (x.zpX y.q g)))->Calls prog 133 #[.pointer (some ⟨p,0,none⟩),.int .i64 u] w' (xO w' F' p (Hm.settle n ((h.set u (y.zpb (y.q.drop (2*g+1)))).set g (x.go (x.zpX y.q g))) u))):
 Calls prog 133 #[.pointer (some ⟨p,0,none⟩),.int .i64 g] w (xO w F p (h.settle (n+1) g)):=by
 have H6:x.zpr=false:=by unfold Gr.zpr;rw[List.eq_nil_of_length_eq_zero hlen];simp
 rw[zey a hu S H6 I];obtain⟨f1,f5⟩:=zdh hh.2 a hu S I;have hn:=(zbD hh.2 a hu).2.1;obtain⟨E,hE⟩:=zh (x.zpX y.q g)
 rw[<-hE]at f1;have HE:=zc hE;have Hk:=zc f5;have He:=zc f1;have h5:=zc d;have Hd:=zc hn;clear H6 f1 f5 hn hE d;have HH:=zc hh;obtain⟨⟨ps,qs,tg,hs⟩,R⟩:=hh;have G:=R.zq4 g x a;have Hg:=R.zq4 u y S;obtain⟨b,V,t,h3,h4⟩:=hs.zpS a;obtain⟨c,k1,k2,k3,k4⟩:=hs.zpS S;have Ha:=zc hs;have Ht:=zc R;have HX:=zc a;have HY:=zc S;have HB:=zc h4;have HC:=zc k4;have HQ:=zc (hs.zqt a);have H4:=zc V;have Hs:=zc k1;have HU:=zc hu;have HF:=zc t;have Hb:=zc m;have h8:=zc I;have hc:=hs.hx.at G;have hd:=hs.hx.at Hg;rw[V]at hc;rw[k1]at hd;have hl:=hs.hx.lt;have A:=h4.lt
 have zre:=k4.lt;obtain⟨c0,J,c2,c3,c4,c5,N,D,B⟩:=h4.c9;rw[hu]at c0;rw[I]at D;rw[m]at B;obtain⟨d0,d1,d2,d3,d4,d5,d6,d7,d8⟩:=k4.c9;obtain⟨q,hq⟩:=zh (qs g)
 obtain⟨r,hr⟩:=zh (qs u)
 have Hq:=zc hq;have H5:=zc hr;rw[<-hq]at c2 HQ HB;rw[<-hr]at d2 HC;clear hs R V t h3 h4 k1 k2 k3 k4 a S hu hq hr m I d0 d1 d3 d4 d5 d6 d7 d8;go_enter func133,ntmps133;go_wp2_with fail;go_quiet (fail);obtain⟨f,H⟩:=zh (w.drewN nq)
 have Hc:zY F w f:=by rw[H];exact fun k _ _=>rfl
 have hj:Hid (Below w.heap.size w f):=zc (by rw[H];exact zp (Below.refl _ w) nq);have L:f.heap=w.heap:=by rw[H];rfl
 have G2:Hid (zpQ f b q x):=zc (HB.out.of (by rw[L]));have Q2:Hid (yA f (fun k=>F k/\tg k=g+1) q x.q):=zc (HQ.out.kept fun k G Q=>by rw[L]);rw[<-H];clear H Hc L c0 J c2 c3 c4 c5 N D B hc hd d2 hl A zre;obtain⟨c0,J,c2,c3,c4,c5,N,D,B⟩:=G2.out.c9;rw[HU.out]at c0;rw[h8.out]at D;rw[Hb.out]at B;have A:=G2.out.lt;go_wp2_with fail;refine(uG f _ q x.q Q2.out).mono ?_;rintro z w3 ⟨⟨ea,ec,rfl⟩,T⟩;have K:=zc (zj hj.out T hj.out.size);have G3:=zc (G2.out.behind T);have Hr:=zc T;clear T c0 J c2 c3 c4 c5 N D B A;obtain⟨c0,J,c2,c3,c4,c5,N,D,B⟩:=G3.out.c9;rw[HU.out]at c0;rw[h8.out]at D;rw[Hb.out]at B
 have A:=G3.out.lt;have hi:=zc (Ha.out.kept (.zo7 K.out));have Y3:=zc (hi.out.zqt HY.out);rw[<-H5.out]at Y3;have Ho:=zc G;go_wp2_with fail;refine(zaJ w3 g Ho.out).mono ?_;rintro z w9 ⟨rfl,hw⟩;obtain rfl:=hw.symm;go_wp2_with fail;refine(za7 (2*g+1) E w3 _ r y.q Y3.out He.out).mono ?_;rintro z U ⟨rfl,h9,Y⟩;have ho:zpQ U b q x:=G3.out.of (Y.block b A (by
  rintro⟨_,e⟩;obtain⟨b',e1,_,e2,_⟩:=Ha.out.zpS HX.out;have:b'=b:=by rw[H4.out]at e1;exact(Option.some.inj e1).symm
  rw[this]at e2;rw[e2]at e;omega))
 have H0:=hi.out.zsc HY.out Y (by rw[<-H5.out];exact h9.mono fun k G Q=>.inl Q);have Hj:=zc H0;have G4:=zc ho;have H9:=zc Y;clear H0 ho Y h9 A c0 J c2 c3 c4 c5 N D B;obtain⟨c0,J,c2,c3,c4,c5,N,D,B⟩:=G4.out.c9;rw[HU.out]at c0;have A:=G4.out.lt;have j:=G4.out.zpe;clear J c2 B;go_upto_region 9 with(fail)
 obtain⟨W,M⟩:=zh ((((U.setCell ⟨b,3,none⟩ (.int .i64 E.id)).setCell ⟨b,4,none⟩ (.int .u64 E.w)).setCell ⟨b,5,none⟩ (.int .i64 E.v)).setCell ⟨b,6,none⟩ (.int .u64 E.rem))
 obtain⟨x1,X⟩:∃x1:Gr,x1={ x with own:=E }:=⟨_,rfl⟩
 have hv:zo8 (fun k=>k=b) U W:=by rw[M];exact(zo8.refl _ U).one.one.one.one
 have hg:W.heap.size=U.heap.size:=by rw[M];simp[World.setCell]
 have h6:zpQ W b q x1:=by rw[M,X];exact G4.out.zsW E
 have G5:=zc h6;have Hh:=zc hv;have Hp:=zc hg;have Hi:=zc X;have h0:x1.up=u:=by rw[X];exact HU.out
 rw[<-M];clear M hv hg h6 X c0 c3 c4 c5 N D A j;obtain⟨c0,J,c2,c3,c4,c5,N,D,B⟩:=G5.out.c9;rw[h0]at c0;have A:=G5.out.lt;have j:=G5.out.zpe;clear J c2 c3 c4 c5 N B;go_upto_region 10 with(fail)
 obtain⟨Z,O⟩:=zh (W.setCell ⟨b,7,none⟩ (.bool false))
 have o:zo8 (fun k=>k=b) U Z:=by rw[O];exact Hh.out.one
 have s:Z.heap.size=U.heap.size:=by rw[O,<-Hp.out];simp[World.setCell]
 have C:zpQ Z b q (x.go E):=by
  have V:=G5.out.zsV false;have t:({ x1 with on:=false }:Gr)=x.go E:=by rw[Hi.out];rfl
  rw[t]at V;rw[O];exact V
 have h7:(h.set u (y.zpb (y.q.drop (2*g+1)))).gs g=some x:=by rw[zo _ _ Hd.out];exact HX.out
 have P:=Hj.out.zrz (y:=x.go E) h7 H4.out o s (by rw[<-Hq.out];exact C) rfl;rw[HE.out]at P;have H3:zB Z (Ext F w3 U) p _:=⟨⟨_,_,_,P⟩,Hk.out⟩
 have H7:=zc H3;have Hl:=zc o;have G7:=zc C;have Hn:=zc s;rw[<-O];clear O P H3 o C s h7 c0 D A j;obtain⟨c0,J,c2,c3,c4,c5,N,D,B⟩:=G7.out.c9;have hz:(x.go E).up=u:=HU.out;rw[hz]at c0;have A:=G7.out.lt;clear J c2 c3 c4 c5 N D B hz;go_wp2_with fail;refine(h5.out Z _ H7.out).mono ?_;rintro z w8 ⟨rfl,ht,H2⟩;have H8:=zc ht;have ha:=zc H2;clear ht H2;go_wp2;go_end0;have Hf:F b:=HF.out;have z1:=K.out.size;have z2:=H9.out.size;have z3:=ha.out.size;have z5:=Hn.out;have t4:zo8 F w U:=(zo8.zo7 K.out:zo8 F w w3).trans H9.out fun k G=>.inl G.1;have t7:zo8 F w Z:=t4.trans Hl.out fun k G=>.inl (G▸Hf)
 refine⟨rfl,H8.out.mono fun k G Q=>?_,t7.trans ha.out fun k G=>?_⟩
 ·rcases Q with(Q | ⟨V,t⟩) | ⟨V,t⟩
  ·exact .inl Q
  ·exact .inr ⟨by omega,by omega⟩
  ·exact .inr ⟨by omega,by omega⟩
 ·rcases G with G | ⟨V,t⟩
  ·exact .inl G
  ·exact .inr (by omega)
theorem xE:∀(n:Nat) (w:World) (F:Nat->Prop) (p g:Nat) (h:Hm) (x:Gr),zB w F p h->h.gs g=some x->x.deep<n-> -9223372036854775808<=h.credit/\h.credit<=9223372036854775807->
 Calls prog 133 #[.pointer (some ⟨p,0,none⟩),.int .i64 g] w (xO w F p (h.settle n g))
 | 0,w,F,p,g,h,x,hh,hx,hd,hc=>absurd (hh.2.deep g x hx).1 (by omega)
 | n+1,w,F,p,g,h,x,hh,hx,hd,hc=>by
  by_cases G:g=0
  ·subst G;obtain⟨r,I,hu,_⟩:=hh.2.root;rw[hx]at I;cases I;rw[vO hx (.inl (by omega))];exact zgr w F p 0 h x hh hx hu
  ·obtain⟨u,y,hu,D,h0⟩:=hh.2.up g x hx G;have B:=(zbD hh.2 hx hu).2.1;cases hst:x.st
   ·by_cases hlen:x.q.l.length=0
    ·have hs:x.zpr=false:=by unfold Gr.zpr;rw[List.eq_nil_of_length_eq_zero hlen];simp
     cases hon:x.on
     ·rw[vO hx (.inr (by rw[hs,hon]))];exact zl8 w F p g u h x y hh hx hu D hst hlen hon
     ·refine zmc n w F p g u h x y hh hx hu D hst hlen hon fun w' E A=>?_;refine xE n w' E p u _ (y.zpb (y.q.drop (2*g+1))) A (by rw[zo _ _ (Ne.symm B),zw]) (by show y.deep<_;omega) hc
    ·have H:0<x.q.l.length:=by omega
     have hs:x.zpr=true:=by
      unfold Gr.zpr;rw[hst];cases hl':x.q.l with
      | nil=>rw[hl']at H;simp at H
      | cons a l=>simp
     cases hon:x.on
     ·refine zma n w F p g u h x y hh hx hu D hst H hon hc fun w' E A=>?_;refine xE n w' E p u _ (y.zpb (y.q.put (x.zpM y.q.min h.credit))) A (by rw[zo _ _ (Ne.symm B),zw]) (by show y.deep<_;omega) hc
     ·rw[vO hx (.inr (by rw[hs,hon]))];exact zl9 w F p g u h x y hh hx hu D hst H hon
   ·have hs:x.zpr=false:=by unfold Gr.zpr;rw[hst];rfl
    cases hon:x.on
    ·rw[vO hx (.inr (by rw[hs,hon]))];exact zl7 w F p g u h x y hh hx hu D hst hon
    ·refine zmb n w F p g u h x y hh hx hu D hst hon fun w' E A=>?_;refine xE n w' E p u _ (y.zpb (y.q.drop (2*g+1))) A (by rw[zo _ _ (Ne.symm B),zw]) (by show y.deep<_;omega) hc
end
def En.zql(e:En):En:={ e with id:=2*e.id }
def En.half(e:En)(k:Nat):En:={ e with id:=k }
def Hm.zrW(h:Hm)(g:Nat)(x:Gr)(e:En):Hm:=h.set g (x.zpb (x.q.put e.zql))
def Hm.put(h:Hm)(g:Nat)(e:En):Hm:=match h.gs g with
 | none=>h
 | some x=>Hm.settle 9 (h.zrW g x e) g
def Hm.zqW(h:Hm)(g:Nat)(x:Gr)(k:Nat):Hm:=h.set g (x.zpb (x.q.drop (2*k)))
def Hm.drop(h:Hm)(g k:Nat):Hm:=match h.gs g with
 | none=>h
 | some x=>Hm.settle 9 (h.zqW g x k) g
def Hm.gone(h:Hm)(g k:Nat):En:=match h.gs g with
 | none=>⟨0,0,0,0⟩
 | some x=>match x.q.get (2*k)with
  | none=>⟨0,0,0,0⟩
  | some e=>e.half k
def Hm.nice(h:Hm)(g k:Nat)(w:Int):Hm:=match h.gs g with
 | none=>h
 | some x=>h.set g (x.zpb (x.q.zpo (2*k) w))
def Gr.zrm(x:Gr)(w:Int):Gr:={ x with own:={ x.own with rem:=x.own.rem*w/x.own.w,w:=w } }
def Hm.zpo(h:Hm)(g:Nat)(w:Int):Hm:=match h.gs g with
 | none=>h
 | some x=>if x.on=true then(match h.gs x.up.toNat with
  | none=>h
  | some y=>h.set x.up.toNat (y.zpb (y.q.zpo (2*g+1) w)))else h.set g (x.zrm w)
def Gr.zqy(x:Gr)(b:Bool):Gr:={ x with st:=b }
def Hm.stop(h:Hm)(g:Nat)(b:Bool):Hm:=match h.gs g with
 | none=>h
 | some x=>Hm.settle 9 (h.set g (x.zqy b)) g
def Hm.link(h:Hm)(g u:Nat):Hm:=match h.gs u with
 | none=>h
 | some y=>h.set g (zam g u y.deep)
structure xP(h h':Hm):Prop where
 ok:h'.Ok
 zsd:yV h h'
 even:∀k i,h'.even k i↔h.even k i
theorem xP.refl{h:Hm}(A:h.Ok):xP h h:=⟨A,.refl h,fun _ _=>Iff.rfl⟩
theorem xP.trans{a b c:Hm}(h:xP a b)(A:xP b c):xP a c:=⟨A.ok,h.zsd.trans A.zsd,fun k i=>(A.even k i).trans (h.even k i)⟩
theorem uH{h:Hm}(A:h.Ok)(n g:Nat):xP h (h.settle n g):=by obtain⟨D,B,E⟩:=zaI n A g;exact⟨D,B,E⟩
theorem yB{h:Hm}(B:h.Ok){g:Nat}{x:Gr}{q:Qu}(A:h.gs g=some x)(E:q.Ok)(D:∀i,q.has i↔x.q.has i):xP h (h.set g (x.zpb q)):=
 ⟨B.set A rfl rfl rfl (fun G=>B.own g x A G) E (zfk (B.q g x A).2 fun i=>(D i).1) fun c=>D _,yV.set (y:=x.zpb q) A rfl rfl,fun k i=>vk (y:=x.zpb q) A (fun i=>D _) k i⟩
theorem zgs{h:Hm}{g:Nat}{x y:Gr}(hx:h.gs g=some x)(k:Nat)(i:Int):(h.set g y).even k i↔(k=g/\y.q.has (2*i))∨(k≠g/\h.even k i):=by
 unfold Hm.even;by_cases e:k=g
 ·subst e;simp[zw]
 ·rw[zo h y e];simp[e]
theorem zgt{e:En}(h:e.Ok){k:Nat}(hk:k<64)(A:e.id=k):e.zql.Ok/\e.zql.id=2*k:=⟨⟨by show 0<=2*e.id/\2*e.id<=1000000;omega,h.w,h.v,h.rem⟩,by show 2*e.id=_;rw[A]⟩
theorem za9{h:Hm}(M:h.Ok){g:Nat}{x:Gr}(D:h.gs g=some x){e:En}(he:e.Ok){k:Nat}(E:k<64)(V:e.id=k)(R:x.q.get (2*k)=none):
 x.q.l.length<128/\(h.zrW g x e).Ok/\yV h (h.zrW g x e)/\∀j i,(h.zrW g x e).even j i↔(j=g/\i=k)∨h.even j i:=by
 obtain⟨B,I⟩:=M.q g x D;obtain⟨t1,t2⟩:=zgt he E V;have hlen:=room B I (i:=2*(k:Int)) (by omega) R;have H:x.q.get e.zql.id=none:=by rw[t2];exact R
 have J:=zfj B t1 H hlen;rw[t2]at J;refine⟨hlen,M.set D rfl rfl rfl (fun U=>M.own g x D U) (zh7 B t1 H hlen) ?_ ?_,yV.set (y:=x.zpb _) D rfl rfl,?_⟩
 ·intro a X;rcases(J a.id).1 ⟨a,X,rfl⟩with A | ⟨b,hb,O⟩
  ·rw[A];omega
  ·rw[<-O];exact I b hb
 ·intro c;show(x.q.put e.zql).has _↔_;rw[J];constructor
  ·rintro(A | A)
   ·omega
   ·exact A
  ·exact .inr
 ·intro j i;unfold Hm.zrW;rw[zgs D];show(j=g/\(x.q.put e.zql).has (2*i))∨_↔_;rw[J];constructor
  ·rintro(⟨rfl,A | A⟩ | ⟨h1,T⟩)
   ·exact .inl ⟨rfl,by omega⟩
   ·exact .inr ⟨x,D,A⟩
   ·exact .inr T
  ·rintro(⟨rfl,rfl⟩ | A)
   ·exact .inl ⟨rfl,.inl rfl⟩
   ·by_cases e:j=g
    ·subst e;obtain⟨x',G,N⟩:=A;rw[D]at G;cases G;exact .inl ⟨rfl,.inr N⟩
    ·exact .inr ⟨e,A⟩
theorem zao{h:Hm}(H:h.Ok){g:Nat}{x:Gr}(A:h.gs g=some x)(k:Nat):(h.zqW g x k).Ok/\yV h (h.zqW g x k)/\∀j i,(h.zqW g x k).even j i↔¬(j=g/\i=k)/\h.even j i:=by
 obtain⟨E,M⟩:=H.q g x A;have J:=zdc E (2*(k:Int));refine⟨H.set A rfl rfl rfl (fun N=>H.own g x A N) (zfl E _) (zfk M fun i O=>((J i).1 O).2) ?_,yV.set (y:=x.zpb _) A rfl rfl,?_⟩
 ·intro c;show(x.q.drop _).has _↔_;rw[J];exact⟨fun h=>h.2,fun h=>⟨by omega,h⟩⟩
 ·intro j i;unfold Hm.zqW;rw[zgs A];show(j=g/\(x.q.drop _).has (2*i))∨_↔_;rw[J];constructor
  ·rintro(⟨rfl,G,B⟩ | ⟨G,B⟩)
   ·exact⟨fun e=>G (by rw[e.2]),x,A,B⟩
   ·exact⟨fun e=>G e.1,B⟩
  ·rintro⟨G,B⟩;by_cases e:j=g
   ·subst e;obtain⟨x',D,I⟩:=B;rw[A]at D;cases D;exact .inl ⟨rfl,fun e=>G ⟨rfl,by omega⟩,I⟩
   ·exact .inr ⟨e,B⟩
theorem zez{h:Hm}(D:h.Ok){g:Nat}{x:Gr}(B:h.gs g=some x){e:En}(he:e.Ok){k:Nat}(A:k<64)(J:e.id=k)(H:x.q.get (2*k)=none):
 (h.put g e).Ok/\yV h (h.put g e)/\∀j i,(h.put g e).even j i↔(j=g/\i=k)∨h.even j i:=by
 obtain⟨_,G,E,I⟩:=za9 D B he A J H;have:=uH G 9 g;unfold Hm.put;rw[B];exact⟨this.ok,E.trans this.zsd,fun j i=>(this.even j i).trans (I j i)⟩
theorem zdi{h:Hm}(B:h.Ok){g:Nat}{x:Gr}(A:h.gs g=some x)(k:Nat):(h.drop g k).Ok/\yV h (h.drop g k)/\∀j i,(h.drop g k).even j i↔¬(j=g/\i=k)/\h.even j i:=by obtain⟨E,D,G⟩:=zao B A k;have:=uH E 9 g;unfold Hm.drop;rw[A];exact⟨this.ok,D.trans this.zsd,fun j i=>(this.even j i).trans (G j i)⟩
theorem zdj{h:Hm}(A:h.Ok)(g k:Nat)(w:Int):xP h (h.nice g k w):=by
 unfold Hm.nice;cases hx:h.gs g with
 | none=>exact .refl A
 | some x=>exact yB A hx (zgp (A.q g x hx).1 _ _) fun i=>zaH _ _ _ _
theorem zmd{x:Gr}(h:x.own.Ok){w:Int}(B:2<=w)(A:w<=262144):(x.zrm w).own.Ok:=⟨h.id,⟨B,A⟩,h.v,zfo h.rem.1 h.rem.2 (by omega)⟩
theorem zap{h:Hm}(A:h.Ok)(g:Nat){w:Int}(E:2<=w)(D:w<=262144):xP h (h.zpo g w):=by
 unfold Hm.zpo;cases hx:h.gs g with
 | none=>exact .refl A
 | some x=>
  simp only;split
  ·cases hy:h.gs x.up.toNat with
   | none=>exact .refl A
   | some y=>exact yB A hy (zgp (A.q _ y hy).1 _ _) fun i=>zaH _ _ _ _
  ·exact⟨A.set hx rfl rfl rfl (fun B=>⟨zmd (A.own g x hx B).1 E D,(A.own g x hx B).2⟩) (A.q g x hx).1 (A.q g x hx).2 fun c=>Iff.rfl,yV.set (y:=x.zrm w) hx rfl rfl,fun k i=>vk (y:=x.zrm w) hx (fun i=>Iff.rfl) k i⟩
theorem qM{h:Hm}(B:h.Ok){g:Nat}{x:Gr}(A:h.gs g=some x)(b:Bool):xP h (h.set g (x.zqy b)):=
 ⟨B.set A rfl rfl rfl (fun D=>B.own g x A D) (B.q g x A).1 (B.q g x A).2 fun c=>Iff.rfl,yV.set (y:=x.zqy b) A rfl rfl,fun k i=>vk (y:=x.zqy b) A (fun i=>Iff.rfl) k i⟩
theorem zia{h:Hm}(A:h.Ok)(g:Nat)(b:Bool):xP h (h.stop g b):=by
 unfold Hm.stop;cases hx:h.gs g with
 | none=>exact .refl A
 | some x=>exact(qM A hx b).trans (uH (qM A hx b).ok 9 g)
theorem zbE(i:Int):¬Qu.new.has i:=by rintro⟨e,he,_⟩;simp[Qu.new]at he
theorem zjC{h:Hm}(D:h.Ok){g u:Nat}{y:Gr}(Z:g≠0)(b:g<32)(T:h.gs g=none)(O:h.gs u=some y)(hd:y.deep<8):(h.link g u).Ok/\(∀k i,(h.link g u).even k i↔h.even k i)/\h.link g u=h.set g (zam g u y.deep):=by
 have he:h.link g u=h.set g (zam g u y.deep):=by unfold Hm.link;rw[O]
 have G:∀k z,h.gs k=some z->k≠g:=fun k z A e=>by rw[e,T]at A;cases A
 have d:∀k z,h.gs k=some z->z.up≠g:=fun k z A e=>by
  by_cases N:k=0
  ·subst N;obtain⟨r,R,hu,_⟩:=D.root;rw[A]at R;cases R;omega
  ·obtain⟨v,H,E,B,_⟩:=D.up k z A N;have:v=g:=by omega
   subst this;rw[T]at B;cases B
 have nd:=(D.deep u y O).1;rw[he];refine⟨⟨?_,?_,?_,?_,?_,?_,?_,?_⟩,?_,rfl⟩
 ·obtain⟨r,R,hu,hd⟩:=D.root;exact⟨r,by rw[zo _ _ (Ne.symm Z)];exact R,hu,hd⟩
 ·intro k z A;by_cases e:k=g
  ·rw[e];exact b
  ·rw[zo _ _ e]at A;exact D.zq4 k z A
 ·intro k z A I;by_cases e:k=g
  ·subst e;rw[zw]at A;cases A;exact⟨u,y,rfl,by rw[zo _ _ (G u y O)];exact O,rfl⟩
  ·rw[zo _ _ e]at A;obtain⟨v,H,E,B,X⟩:=D.up k z A I;exact⟨v,H,E,by rw[zo _ _ (G v H B)];exact B,X⟩
 ·intro k z A;by_cases e:k=g
  ·subst e;rw[zw]at A;cases A;exact⟨by show 0<=y.deep+1;omega,by show y.deep+1<=8;omega⟩
  ·rw[zo _ _ e]at A;exact D.deep k z A
 ·intro k z A I;by_cases e:k=g
  ·subst e;rw[zw]at A;cases A;exact⟨⟨by show 0<=(2*k+1:Int)/\(2*k+1:Int)<=1000000;omega,by show 2<=(1024:Int)/\(1024:Int)<=262144;omega,by show _<=(0:Int)/\(0:Int)<=_;omega,by show 0<=(0:Int)/\(0:Int) <1024;omega⟩,rfl⟩
  ·rw[zo _ _ e]at A;exact D.own k z A I
 ·intro k z A;by_cases e:k=g
  ·subst e;rw[zw]at A;cases A;exact⟨Qu.Ok.new,by intro a j;simp[zam,Qu.new]at j⟩
  ·rw[zo _ _ e]at A;exact D.q k z A
 ·intro k z c A Y;by_cases e:k=g
  ·subst e;rw[zw]at A;cases A;exact absurd Y (zbE _)
  ·rw[zo _ _ e]at A;obtain⟨H,B,V⟩:=D.ztb k z c A Y;exact⟨H,by rw[zo _ _ (G c H B)];exact B,V⟩
 ·intro k z c v A E M;by_cases e:k=g
  ·subst e;rw[zw]at A;cases A;by_cases J:c=k
   ·subst J;rw[zw]at E;cases E;exact⟨fun h=>absurd h (zbE _),fun h=>by cases h⟩
   ·rw[zo _ _ J]at E;exact absurd M (d c v E)
  ·rw[zo _ _ e]at A;by_cases J:c=g
   ·subst J;rw[zw]at E;cases E;constructor
    ·intro U;obtain⟨H,B,_⟩:=D.ztb k z c A U;rw[T]at B;cases B
    ·intro U;cases U
   ·rw[zo _ _ J]at E;exact D.on k z c v A E M
 ·intro k i;unfold Hm.even;by_cases e:k=g
  ·subst e;rw[zw,T];constructor
   ·rintro⟨z,A,f⟩;cases A;exact absurd f (zbE _)
   ·rintro⟨z,A,_⟩;cases A
  ·rw[zo _ _ e]
theorem zib(credit gran:Int):(Hm.new credit gran).Ok/\∀k i,¬(Hm.new credit gran).even k i:=by
 have B:∀k z,(Hm.new credit gran).gs k=some z->k=0/\z=vj:=fun k z A=>by
  simp only[Hm.new]at A;split at A
  ·exact⟨by assumption,by cases A;rfl⟩
  ·cases A
 refine⟨⟨⟨vj,by simp[Hm.new],rfl,rfl⟩,?_,?_,?_,?_,?_,?_,?_⟩,?_⟩
 ·intro g z A;obtain⟨rfl,_⟩:=B g z A;omega
 ·intro g z A D;exact absurd (B g z A).1 D
 ·intro g z A;obtain⟨_,rfl⟩:=B g z A;exact⟨by simp[vj],by simp[vj]⟩
 ·intro g z A D;exact absurd (B g z A).1 D
 ·intro g z A;obtain⟨_,rfl⟩:=B g z A;exact⟨Qu.Ok.new,by intro a I;simp[vj,Qu.new]at I⟩
 ·intro g z c A J;obtain⟨_,rfl⟩:=B g z A;exact absurd J (zbE _)
 ·intro g z c v A H E;obtain⟨_,rfl⟩:=B g z A;obtain⟨_,rfl⟩:=B c v H;exact absurd E (by simp[vj])
 ·rintro k i ⟨z,A,G⟩;obtain⟨_,rfl⟩:=B k z A;exact absurd G (zbE _)
section
attribute [local go_sem ↓] Go.wp_at_zero Go.wp_at_succ
def yW(w:World)(F:Nat->Prop)(p:Nat)(A:Hm)(w':World):Prop:=zB w' (Ext F w w') p A/\zo8 F w w'
theorem yW.then{w w1 D:World}{F:Nat->Prop}{p:Nat}{B:Hm}(a:zo8 F w w1)(b:yW w1 (Ext F w w1) p B D):yW w F p B D:=
 ⟨b.1.mono fun k A E=>Ext.trans a.size b.2.size k E,a.trans b.2 fun k A=>by
  rcases A with A | ⟨A,_⟩
  ·exact .inl A
  ·exact .inr A⟩
theorem yW.zo7{w w1 E:World}{F:Nat->Prop}{p:Nat}{A:Hm}(a:Below w.heap.size w w1)(b:yW w1 F p A E):yW w F p A E:=
 ⟨b.1.mono fun k D B=>by
  rcases B with B | ⟨h1,A⟩
  ·exact .inl B
  ·exact .inr ⟨by have:=a.size;omega,A⟩,(zo8.zo7 a:zo8 F w w1).trans b.2 fun k D=>.inl D⟩
theorem yW.mono{w w':World}{F G:Nat->Prop}{p:Nat}{h:Hm}(a:yW w F p h w')(A:∀k,F k->G k):yW w G p h w':=
 ⟨a.1.mono fun k hk B=>B.imp (A k) id,a.2.mono A⟩
theorem zB.zsK{w:World}{F:Nat->Prop}{p:Nat}{h:Hm}(D:zB w F p h):zB w (fun k=>F k/\k<w.heap.size) p h:=D.mono fun k A B=>⟨B,A⟩
theorem zkl(g k:Nat)(e:En)(w:World)(F:Nat->Prop)(p:Nat)(h:Hm)(x:Gr)(hh:zB w F p h)(J:h.gs g=some x)(he:e.Ok)(U:k<64)(hi:e.id=k)(hg:x.q.get (2*k)=none)
 (hv: -9223372036854775808<=h.credit/\h.credit<=9223372036854775807) (hF:∀k,F k->k<w.heap.size):
 Calls prog 138 #[.pointer (some ⟨p,0,none⟩),.int .i64 g,.agg (xy e)] w fun z w'=>z=.returned (.int .i64 0)/\yW w F p (h.put g e) w':=by
 obtain⟨a1,a2,a3,a4⟩:=za9 hh.2 J he U hi hg;obtain⟨t1,t2⟩:=zgt he U hi;have y:=zbA (hh.2.q g x J).1 t1 (by rw[t2];exact hg) a1;have M:h.put g e=Hm.settle 9 (h.zrW g x e) g:=by unfold Hm.put;rw[J]
 rw[M];obtain⟨⟨ps,qs,K,hs⟩,O⟩:=hh;have h7:=O.zq4 g x J;have hz:=(O.deep g x J).2;obtain⟨b,Q,h2,h3,C⟩:=hs.zpS J;obtain⟨w1,H⟩:=zh (w.alloc (zgj e))
 have I:Below w.heap.size w w1:=by rw[H];exact zk w _
 have D:Ex w1 w.heap.size e:=by rw[H];exact Ex.new w e
 obtain⟨B,hB⟩:=zh w.heap.size
 rw[<-hB]at D;have X:=hs.kept (.zo7 I);have h0:=zc X;have ho:=zc I;have G1:=zc (C.behind I);have E1:=zc D;have HX:=zc J;have ht:=zc Q;have h5:=zc a1;have hc:=zc a2;have hr:=zc t1;have h9:=zc y;have h6:=zc t2;have HG:=zc hg;have H2:=zc h2;have H3:=zc h3;have S:=zc hB;have T:=zc (uF w1 p g h.credit h.gran ps X.hx h7);have m:=zc (zan w1 k U);rw[Q]at T;have HI:=zc hi;obtain⟨Z,e1,e2,e3⟩:=D.c4;rw[hi]at Z;have G:=D.lt;have hl:=D.zpe;clear hs O Q h2 h3 C I D X a1 a2 a3 a4 t1 t2 y M J he hg;go_enter func138,ntmps138
 go_upto_region 1 with(fail)
 rw[<-hB];rw[show w.alloc (.cells #[.int .i64 e.id,.int .u64 e.w,.int .i64 e.v,.int .u64 e.rem] 80)=w1 from H.symm];clear H hB;go_wp2_with fail;refine T.out.mono ?_;rintro z A ⟨rfl,hw⟩;obtain rfl:=hw.symm;go_wp2_with fail;refine m.out.mono ?_;rintro z A ⟨rfl,hw⟩;obtain rfl:=hw.symm;go_upto_region 5 with(fail)
 have a:∀k,F k->k≠B:=fun k U e=>by have:=hF k U;have:=S.out;omega
 obtain⟨A,E⟩:=zh (w1.setCell ⟨B,0,none⟩ (.int .i64 (k*2)))
 have L:HS A F p h ps qs K:=by rw[E];exact h0.out.kept fun j hj hf=>Below.heap_setCell _ _ _ _ (a j hf)
 have r:Ex A B e.zql:=by have Q:(w1.setCell ⟨B,0,none⟩ (.int .i64 (2*e.id))).heap[B]?=_:=zi E1.out;rw[E,show(k:Int)*2=2*e.id by rw[HI.out];omega];exact Q
 have o:Below w.heap.size w A:=by rw[E];exact ho.out.setCell (by show w.heap.size<=B;rw[S.out];exact zg _) _
 have V:=zc L;have E2:=zc r;have ha:=zc o;rw[<-E];clear E L r o Z e1 e2 e3 G hl T m;obtain⟨Z,e1,e2,e3⟩:=E2.out.c4;have G:=E2.out.lt;have s:zpQ A b (qs g) x:=by
  obtain⟨b',j1,_,_,j4⟩:=V.out.zpS HX.out;have:b'=b:=by rw[ht.out]at j1;exact(Option.some.inj j1).symm
  exact this▸j4
 have G2:=zc s;have Q2:=zc (V.out.zqt HX.out);obtain⟨q,hq⟩:=zh (qs g)
 have hy:=zc hq;rw[<-hq]at G2 Q2;clear hq s;obtain⟨c0,c1,c2,c3,c4,c5,c6,c7,c8⟩:=G2.out.c9;have t:=G2.out.lt;clear c0 c1 c3 c4 c5 c6 c7 c8;have P:yA A.drew (fun k=>F k/\K k=g+1) q x.q:=Q2.out.kept fun k _ _=>rfl;have h8:=zc P;clear P;have H0:F b:=H2.out;go_region_held3 (fun w'=>w'.cell? ⟨b,2,none⟩=some (.pointer (some ⟨q,0,none⟩))/\w'.cell? ⟨B,0,none⟩=some (.int .i64 e.zql.id)/\w'.cell? ⟨B,1,none⟩=some (.int .u64 e.zql.w)/\w'.cell? ⟨B,2,none⟩=some (.int .i64 e.zql.v)/\w'.cell? ⟨B,3,none⟩=some (.int .u64 e.zql.rem)) (go_keep)
  ((
   go_at_call 184;refine(zev e.zql A.drew _ q x.q h8.out hr.out (by rw[h6.out];exact HG.out) h5.out).mono ?_;rintro z R ⟨rfl,l,Y⟩;have N:∀j,j<A.heap.size->¬(F j/\K j=g+1)->R.heap[j]?=A.heap[j]?:=fun j hj hn=>Y.block j hj hn;have W:¬(F b/\K b=g+1):=by rintro⟨_,e⟩;rw[H3.out]at e;omega
   have d:¬(F B/\K B=g+1):=by rintro⟨e,_⟩;exact a B e rfl
   have u:zpQ R b q x:=G2.out.of (N b t W);have c:Ex R B e.zql:=E2.out.of (N B G d);have Q3:=zc l;have T3:=zc Y;have G3:=zc u;have E3:=zc c;clear l Y N W d u c c2 Z e1 e2 e3 G t;obtain⟨c0,c1,c2,c3,c4,c5,c6,c7,c8⟩:=G3.out.c9;clear c0 c1 c3 c4 c5 c6 c7 c8;obtain⟨Z,e1,e2,e3⟩:=E3.out.c4;have G:=E3.out.lt))
 all_goals
  go_wp2_with fail;have f:=(V.out.kept (w':=A.drew) (fun _ _ _=>rfl)).zsc (q':=x.q.put e.zql) HX.out T3.out (by rw[<-hy.out,h9.out];exact Q3.out);have n:zB R (Ext F A.drew R) p (h.zrW g x e):=⟨⟨_,_,_,f⟩,hc.out⟩
  refine(xE 9 R _ p g (h.zrW g x e) (x.zpb (x.q.put e.zql)) n (zw _ _ _) (by show x.deep<9;omega) hv).mono ?_;rintro z w4 ⟨rfl,C,t4⟩;have H4:=zc C;have T4:=zc t4;clear C t4 f n;go_wp2;go_ret;refine⟨rfl,yW.zo7 ha.out (yW.then (w1:=R) (T3.out.mono fun k U=>U.1).zqS ⟨H4.out,T4.out⟩)⟩
theorem zme(g k:Nat)(e:En)(w:World)(F:Nat->Prop)(p:Nat)(h:Hm)(x:Gr)(E:zB w F p h)(I:h.gs g=some x)(he:e.Ok)(A:k<64)(G:e.id=k)(H:x.q.get (2*k)=none)
 (B: -9223372036854775808<=h.credit/\h.credit<=9223372036854775807):
 Calls prog 138 #[.pointer (some ⟨p,0,none⟩),.int .i64 g,.agg (xy e)] w fun z w'=>z=.returned (.int .i64 0)/\yW w F p (h.put g e) w':=
 (zkl g k e w _ p h x E.zsK I he A G H B fun k A=>A.2).mono fun z w' D=>⟨D.1,D.2.mono fun k A=>A.1⟩
theorem zic(g k:Nat)(e:En)(w:World)(F:Nat->Prop)(p:Nat)(h:Hm)(x:Gr)(hh:zB w F p h)(X:h.gs g=some x)(Y:k<64)(hg:x.q.get (2*k)=some e)
 (H7: -9223372036854775808<=h.credit/\h.credit<=9223372036854775807) (hF:∀k,F k->k<w.heap.size):
 Calls prog 143 #[.pointer (some ⟨p,0,none⟩),.int .i64 g,.int .i64 k] w fun z w'=>z=.returned (.tuple #[.agg (xy (e.half k)),.int .i64 0])/\yW w F p (h.drop g k) w':=by
 obtain⟨a2,a3,a4⟩:=zao hh.2 X k;have I:h.drop g k=Hm.settle 9 (h.zqW g x k) g:=by unfold Hm.drop;rw[X]
 rw[I];obtain⟨⟨ps,qs,tg,hs⟩,d⟩:=hh;have hi:=d.zq4 g x X;have Hb:=(d.deep g x X).2;obtain⟨b,U,a,h3,h4⟩:=hs.zpS X;obtain⟨w1,J⟩:=zh (w.alloc (zgj En.zero))
 have V:Below w.heap.size w w1:=by rw[J];exact zk w _
 have m:Ex w1 w.heap.size En.zero:=by rw[J];exact Ex.new w _
 obtain⟨R,hR⟩:=zh w.heap.size
 rw[<-hR]at m;have T:=hs.kept (.zo7 V);have hc:=zc T;have o:=zc V;have G1:=zc (h4.behind V);have R1:=zc m;have HX:=zc X;have Hd:=zc U;have hr:=zc a2;have HG:=zc hg;have H2:=zc a;have H3:=zc h3;have r:=zc hR;have l:=zc (uF w1 p g h.credit h.gran ps T.hx hi);have C:=zc (zan w1 k Y);rw[U]at l;have u:=zc (T.zqt X);have H:=G1.out;obtain⟨q,hq⟩:=zh (qs g)
 have H8:=zc hq;rw[<-hq]at u H;have H9:=zc H;obtain⟨c0,c1,c2,c3,c4,c5,c6,c7,c8⟩:=H.c9;have hv:=H.lt;clear c0 c1 c3 c4 c5 c6 c7 c8 hs d U a h3 h4 V m T a2 a3 a4 I X hg hq H;go_enter func143,ntmps143;go_upto_region 1 with(fail)
 rw[<-hR];rw[show w.alloc (.cells #[.int .i64 0,.int .u64 0,.int .i64 0,.int .u64 0] 80)=w1 from J.symm];clear J hR;go_wp2_with fail;refine l.out.mono ?_;rintro z B ⟨rfl,hw⟩;obtain rfl:=hw.symm;go_wp2_with fail;refine C.out.mono ?_;rintro z B ⟨rfl,hw⟩;obtain rfl:=hw.symm;go_wp2_with fail;refine(za7 (2*k) e w1 _ q x.q u.out HG.out).mono ?_;rintro z B ⟨rfl,P,zpZ⟩;have W:=hc.out.zsc (q':=x.q.drop (2*k)) HX.out zpZ (by rw[<-H8.out];exact P.mono fun k Y G=>.inl G);have T2:=zc zpZ;have hl:=zc W;have K:Ex B R En.zero:=R1.out.of (zpZ.block R R1.out.lt (by rintro⟨e',_⟩;have:=hF R e';have:=r.out;omega))
 have R2:=zc K;clear P zpZ W K hv c2 l C;go_upto_region 5 with(fail)
 obtain⟨M,O⟩:=zh (B.alloc (zgj e))
 have N:Below B.heap.size B M:=by rw[O];exact zk B _
 have c:Ex M B.heap.size e:=by rw[O];exact Ex.new B e
 obtain⟨L,hL⟩:=zh B.heap.size
 rw[show B.alloc (.cells #[.int .i64 e.id,.int .u64 e.w,.int .i64 e.v,.int .u64 e.rem] 80)=M from O.symm,<-hL];rw[<-hL]at c;have HL:=zc hL;have ho:=zc (hl.out.kept (.zo7 N));have R3:=zc (R2.out.behind N);have L3:=zc c;have n:=zc N;clear O hL N c;obtain⟨e0,e1,e2,e3⟩:=L3.out.c4;have S:=L3.out.lt;have ht:=L3.out.zpe;go_upto_region 8 with(fail)
 obtain⟨Z,D⟩:=zh (M.setCell ⟨L,0,none⟩ (.int .i64 k))
 have s1:=o.out.size;have s2:=T2.out.size;have s3:=n.out.size;have h6:=r.out;have H6:=HL.out;have Q:=R1.out.lt;have y:∀j,Ext F w1 B j->j≠R:=fun j A e=>by
  rcases A with A | ⟨U,a⟩
  ·have:=hF j A;omega
  ·omega
 have f:∀j,Ext F w1 B j->j≠L:=fun j A e=>by
  rcases A with A | ⟨U,a⟩
  ·have:=hF j A;omega
  ·omega
 have ha:R≠L:=by omega
 have t:zB M (Ext F w1 B) p (h.zqW g x k):=⟨⟨_,_,_,ho.out⟩,hr.out⟩
 have h7:zB Z (Ext F w1 B) p (h.zqW g x k):=by rw[D];exact t.kept fun j A G=>Below.heap_setCell _ _ _ _ (f j G)
 clear t;have s:Ex Z L (e.half k):=by rw[D];exact zi L3.out
 have h8:Ex Z R En.zero:=by rw[D];exact R3.out.zpP ha
 have h9:zo8 F w Z:=by rw[D];exact(((zo8.zo7 o.out:zo8 F w w1).trans (T2.out.mono fun k Y=>Y.1) fun k Y=>.inl Y).trans (zo8.zo7 n.out:zo8 F B M) fun k Y=>.inl Y).setCell (.inr (by show w.heap.size<=L;omega)) _
 have hy:=zc h7;have L4:=zc s;have R4:=zc h8;have T4:=zc h9;have h0:=zc y;have H4:=zc f;have hn:Hid (Z.heap.size=M.heap.size):=zc (by rw[D];simp[World.setCell]);rw[<-D];clear D h7 s h8 h9 e0 e1 e2 e3 S ht y f s1 s2 s3 h6 H6 Q ha;go_wp2_with fail;refine(xE 9 Z _ p g (h.zqW g x k) (x.zpb (x.q.drop (2*k))) hy.out (zw _ _ _) (by show x.deep<9;omega) H7).mono ?_;rintro z w5 ⟨rfl,h5,t5⟩;have H5:=zc h5;have T5:=zc t5;have L5:=zc (L4.out.of (t5.block L L4.out.lt fun G=>H4.out L G rfl));have R5:=zc (R4.out.of (t5.block R R4.out.lt fun G=>h0.out R G rfl));clear h5 t5
 obtain⟨e0,e1,e2,e3⟩:=L5.out.c4;have S:=L5.out.lt;obtain⟨r0,r1,r2,r3⟩:=R5.out.c4;have Ha:=R5.out.lt;have Hc:=R5.out.zpe;go_wp2;obtain⟨E,hE⟩:=zh (e.half k)
 rw[<-hE];have H0:=R5.out.ztw E;obtain⟨g0,g1,g2,g3⟩:=H0.c4;refine bodyPost_ret (v:=.tuple #[.agg (xy E),.int .i64 0]) ?_ rfl ⟨rfl,?_⟩
 ·simp[results,results143,go_sem,g0,g1,g2,g3]
 ·have s1:=o.out.size;have s2:=T2.out.size;have s3:=n.out.size;have s4:=hn.out;have s5:=T5.out.size;have h6:=r.out;have Q:=R1.out.lt;refine⟨(H5.out.kept (w':=(((w5.setCell ⟨R,0,none⟩ (.int .i64 E.id)).setCell ⟨R,1,none⟩ (.int .u64 E.w)).setCell ⟨R,2,none⟩ (.int .i64 E.v)).setCell ⟨R,3,none⟩ (.int .u64 E.rem)) ?_).mono fun j A G=>?_,?_⟩
  ·refine zY.zpK (qV (F:=fun j=>j=R) (zo8.refl _ w5) (.inl rfl)) fun j A e'=>?_;rcases A with A | ⟨U,a⟩
   ·exact h0.out j A e'
   ·omega
  ·have hz:((((w5.setCell ⟨R,0,none⟩ (.int .i64 E.id)).setCell ⟨R,1,none⟩ (.int .u64 E.w)).setCell ⟨R,2,none⟩ (.int .i64 E.v)).setCell ⟨R,3,none⟩ (.int .u64 E.rem)).heap.size=w5.heap.size:=by simp[World.setCell]
   rcases G with(G | ⟨U,a⟩) | ⟨U,a⟩
   ·exact .inl G
   ·exact .inr ⟨by omega,by omega⟩
   ·exact .inr ⟨by omega,by omega⟩
  ·refine qV (T4.out.trans T5.out fun j A=>?_) (.inr (by omega));rcases A with A | ⟨U,a⟩
   ·exact .inl A
   ·exact .inr (by omega)
theorem zkm(g k:Nat)(e:En)(w:World)(F:Nat->Prop)(p:Nat)(h:Hm)(x:Gr)(E:zB w F p h)(H:h.gs g=some x)(A:k<64)(G:x.q.get (2*k)=some e)
 (B: -9223372036854775808<=h.credit/\h.credit<=9223372036854775807):
 Calls prog 143 #[.pointer (some ⟨p,0,none⟩),.int .i64 g,.int .i64 k] w fun z w'=>z=.returned (.tuple #[.agg (xy (e.half k)),.int .i64 0])/\yW w F p (h.drop g k) w':=
 (zic g k e w _ p h x E.zsK H A G B fun k A=>A.2).mono fun z w' D=>⟨D.1,D.2.mono fun k A=>A.1⟩
theorem zkn(g k:Nat)(n:Int)(e:En)(w:World)(F:Nat->Prop)(p:Nat)(h:Hm)(x:Gr)(d:zB w F p h)(A:h.gs g=some x)(M:k<64)(a:x.q.get (2*k)=some e)(O:2<=n)(X:n<=262144):
 Calls prog 90 #[.pointer (some ⟨p,0,none⟩),.int .i64 g,.int .i64 k,.int .u64 n] w fun z w'=>z=.returned (.int .i64 0)/\yW w F p (h.nice g k n) w':=by
 have I:=zc (zdj d.2 g k n);have G:h.nice g k n=h.set g (x.zpb (x.q.zpo (2*k) n)):=by unfold Hm.nice;rw[A]
 rw[G]at I ⊢;obtain⟨⟨ps,t,tg,hs⟩,H⟩:=d;have V:=H.zq4 g x A;obtain⟨b,c,j,u,N⟩:=hs.zpS A;have R:=zc hs;have C:=zc A;have m:=zc a;have B:=zc (uF w p g h.credit h.gran ps hs.hx V);have Y:=zc (zan w k M);rw[c]at B;have E:=zc (hs.zqt A);obtain⟨q,T⟩:=zh (t g)
 have Z:=zc T;rw[<-T]at E N;obtain⟨c0,r,c2,c3,c4,c5,y,o,l⟩:=N.c9;have h0:=N.lt;clear c0 r c3 c4 c5 y o l hs H c j u N A a T G;go_enter func90,ntmps90;go_wp2_with fail;refine B.out.mono ?_;rintro z f ⟨rfl,hw⟩;obtain rfl:=hw.symm;go_wp2_with fail;refine Y.out.mono ?_;rintro z f ⟨rfl,hw⟩;obtain rfl:=hw.symm;go_wp2_with fail;refine(zcr (2*k) n e w _ q x.q E.out m.out O X).mono ?_;rintro z f ⟨rfl,J,zpZ⟩;have D:=R.out.zsc (q':=x.q.zpo (2*k) n) C.out zpZ (by rw[<-Z.out];exact J.mono fun k M s=>.inl s);have v:=zc zpZ;have U:=zc D;clear J zpZ D;go_wp2;go_ret
 exact⟨rfl,⟨⟨_,_,_,U.out⟩,I.out.ok⟩,v.out.mono fun k M=>M.1⟩
theorem zb4(g:Nat)(v:Bool)(w:World)(F:Nat->Prop)(p:Nat)(h:Hm)(x:Gr)(o:zB w F p h)(G:h.gs g=some x)(r:g≠0)
 (j: -9223372036854775808<=h.credit/\h.credit<=9223372036854775807):
 Calls prog 82 #[.pointer (some ⟨p,0,none⟩),.int .i64 g,.bool v] w fun z w'=>z=.returned (.int .i64 0)/\yW w F p (h.stop g v) w':=by
 have l:=zc (qM o.2 G v);have N:h.stop g v=Hm.settle 9 (h.set g (x.zqy v)) g:=by unfold Hm.stop;rw[G]
 rw[N];obtain⟨⟨ps,L,tg,hs⟩,H⟩:=o;have d:=H.zq4 g x G;have h6:=(H.deep g x G).2;obtain⟨b,Z,m,P,J⟩:=hs.zpS G;have V:=zc hs;have HX:=zc G;have c:=zc Z;have S:=zc J;have f:=zc m;have B:=zc (vN w p g h.credit h.gran ps hs.hx d r);rw[Z]at B;obtain⟨c0,C,c2,c3,c4,c5,W,u,q⟩:=J.c9;have U:=J.lt;have T:=J.zpe;clear c0 C c2 c3 c4 c5 W u hs H Z m P J G N;go_enter func82,ntmps82;go_wp2_with fail;refine B.out.mono ?_;rintro z I ⟨rfl,hw⟩;obtain rfl:=hw.symm;go_upto_region 5 with(fail)
 obtain⟨I,A⟩:=zh (w.setCell ⟨b,8,none⟩ (.bool v))
 have D:zo8 (fun k=>k=b) w I:=by rw[A];exact(zo8.refl _ w).one
 have E:I.heap.size=w.heap.size:=by rw[A];simp[World.setCell]
 have O:zpQ I b (L g) (x.zqy v):=by rw[A];exact S.out.setSt v
 have M:=V.out.zrz (y:=x.zqy v) HX.out c.out D E O rfl;have X:=zc M;have Q:=zc D;have Y:=zc E;rw[<-A];clear A D E O M q U T B;go_wp2_with fail;refine(xE 9 I F p g (h.set g (x.zqy v)) (x.zqy v) ⟨⟨_,_,_,X.out⟩,l.out.ok⟩ (zw _ _ _) (by show x.deep<9;omega) j).mono ?_;rintro z w5 ⟨rfl,n,t5⟩;have s:=zc n;have t:=zc t5;clear n t5;go_wp2;go_ret;have hz:=Y.out;refine⟨rfl,s.out.mono fun k R K=>K.imp id fun⟨a,b⟩=>⟨by omega,b⟩,(Q.out.mono fun k R=>R▸f.out).trans t.out fun k R=>.inl R⟩
theorem zmf{w w':World}{F:Nat->Prop}{A:Nat->Nat}{g j:Nat}(D:zo8 (fun k=>F k/\A k=g+1) w w')(E:A j=0)(B:j<w.heap.size)(o:Nat):w'.cell? ⟨j,o,none⟩=w.cell? ⟨j,o,none⟩:=by have:=D.block j B (by rintro⟨_,e⟩;rw[E]at e;omega);simp[World.cell?,this]
theorem zmg(g:Nat)(n:Int)(w:World)(F:Nat->Prop)(p:Nat)(h:Hm)(x:Gr)(X:zB w F p h)(G:h.gs g=some x)(K:g≠0)(H:2<=n)(V:n<=262144)(B:x.on=true):
 Calls prog 105 #[.pointer (some ⟨p,0,none⟩),.int .i64 g,.int .u64 n] w fun z w'=>z=.returned (.int .i64 0)/\yW w F p (h.zpo g n) w':=by
 have U:=zc (zap X.2 g H V);obtain⟨u,y,hu,E,hd⟩:=X.2.up g x G K;have T:h.zpo g n=h.set u (y.zpb (y.q.zpo (2*g+1) n)):=by unfold Hm.zpo;rw[G];simp only;rw[if_pos B,hu];rw[show((u:Int)).toNat=u from rfl,E]
 rw[T]at U ⊢;have R:=(zdh X.2 G hu E B).1;obtain⟨⟨ps,Q,tg,hs⟩,D⟩:=X;have N:=D.zq4 g x G;have m:=D.zq4 u y E;obtain⟨b,L,h2,s,j⟩:=hs.zpS G;obtain⟨c,C,S,v,Y⟩:=hs.zpS E;have hd:=hs.hx.at m;rw[C]at hd;have f:=hs.hx.lt;have Z:=zc hs;have HY:=zc E;have HG:=zc R;have l:=zc (And.intro s (And.intro v hs.tp));have h8:(0:Int)<=u:=by omega
 have ha:(u:Int)<=32:=by omega
 have h5:(u:Int) <32:=by omega
 have O:=zc (vN w p g h.credit h.gran ps hs.hx N K);rw[L]at O;have J:=zc (hs.zqt E);obtain⟨q,o⟩:=zh (Q u)
 have r:=zc o;rw[<-o]at J Y;obtain⟨c0,c1,c2,c3,c4,c5,c6,c7,W⟩:=j.c9;rw[hu]at c0;rw[B]at c7;have d:=j.lt;obtain⟨d0,d1,d2,d3,d4,d5,d6,d7,d8⟩:=Y.c9;have zre:=Y.lt;clear c1 c2 c3 c4 c5 c6 W d0 d1 d3 d4 d5 d6 d7 d8 hs D L h2 s j C S v Y G o T E R hu;go_enter func105,ntmps105;go_wp2_with fail;refine O.out.mono ?_;rintro z w2 ⟨rfl,hw⟩;obtain rfl:=hw.symm;go_wp2_with fail;go_region_held3 (fun w'=>w'.cell? ⟨b,0,none⟩=some (.int .i64 u)/\w'.cell? ⟨p,2+u,none⟩=some (.pointer (some ⟨c,0,none⟩))/\w'.cell? ⟨c,2,none⟩=some (.pointer (some ⟨q,0,none⟩))) (go_keep)
  (first
   | (
    go_at_call 123;refine(zaJ w.drew g N).mono ?_;rintro z w9 ⟨rfl,hw⟩;obtain rfl:=hw.symm)
   | (
    go_at_call 140;refine(zcr (2*g+1) n _ w.drew _ q y.q (J.out.kept fun k _ _=>rfl) HG.out H V).mono ?_;rintro z w3 ⟨rfl,M,A⟩;have I:=(Z.out.kept (w':=w.drew) (fun _ _ _=>rfl)).zsc (q':=y.q.zpo (2*g+1) n) HY.out A (by rw[<-r.out];exact M.mono fun k t hf=>.inl hf);have P:=zc A;have a:=zc I;have h7:=(zmf A l.out.1 d 0).trans c0;have h9:=(zmf A l.out.2.1 zre 2).trans d2;have h6:=(zmf A l.out.2.2 f (2+u)).trans hd;clear M A I hd c0 d2))
 all_goals
  go_wp2;go_ret;exact⟨rfl,⟨(⟨_,_,_,a.out⟩),U.out.ok⟩,(P.out.mono fun k t=>t.1).zqS⟩
theorem zdk{r n d:Int}(h1:0<=r)(h2:r<d)(h3:2<=n)(h4:n<=262144)(h5:2<=d)(h6:d<=262144)(w:World):Calls prog 91 #[.int .u64 r,.int .u64 n,.int .u64 d] w fun e w'=>e=.returned (.tuple #[.int .u64 (r*n/d),.int .u64 (r*n%d),.bool true])/\Below w.heap.size w w':=
 zbC r n d w ⟨by omega,by omega⟩ ⟨by omega,by omega⟩ ⟨by omega,by omega⟩ (zaK ⟨by omega,by omega⟩ ⟨by omega,by omega⟩)
theorem zko(g:Nat)(n:Int)(w:World)(F:Nat->Prop)(p:Nat)(h:Hm)(x:Gr)(m:zB w F p h)(E:h.gs g=some x)(u:g≠0)(J:2<=n)(T:n<=262144)(M:x.on=false):
 Calls prog 105 #[.pointer (some ⟨p,0,none⟩),.int .i64 g,.int .u64 n] w fun z w'=>z=.returned (.int .i64 0)/\yW w F p (h.zpo g n) w':=by
 have Y:=zc (zap m.2 g J T);have U:h.zpo g n=h.set g (x.zrm n):=by unfold Hm.zpo;rw[E];simp only;rw[if_neg (by rw[M];simp)]
 rw[U]at Y ⊢;obtain⟨l,_⟩:=m.2.own g x E u;obtain⟨⟨ps,K,tg,hs⟩,V⟩:=m;have q:=V.zq4 g x E;obtain⟨b,D,t,W,O⟩:=hs.zpS E;have d:=zc hs;have HX:=zc E;have o:=zc D;have G1:=zc O;have s:=zc t;have I:=zc (vN w p g h.credit h.gran ps hs.hx q u);rw[D]at I;have N:=l.w;have R:=l.rem;obtain⟨c0,j,c2,c3,c4,c5,P,Z,c⟩:=O.c9;rw[M]at Z;have H:=O.lt;have G:=O.zpe;clear c0 j c2 c3 c5 c hs V D t W O E U l;go_enter func105,ntmps105;go_wp2_with fail;refine I.out.mono ?_;rintro z w2 ⟨rfl,hw⟩;obtain rfl:=hw.symm;go_wp2_with fail;go_region_with
  ((
   go_at_call 91;refine(zdk R.1 R.2 J T N.1 N.2 w.drew).mono ?_;rintro z A ⟨rfl,B⟩;have f:=zc B;have a:=zc ((show zpQ w.drew b (K g) x from G1.out).behind B);clear B c4 P Z H G;obtain⟨c0,j,c2,c3,c4,c5,P,Z,c⟩:=a.out.c9;have H:=a.out.lt;have G:=a.out.zpe;clear c0 j c2 c3 c5 Z c))
 all_goals
  go_wp2;go_ret;obtain⟨r,L⟩:=zh (x.own.rem*n/x.own.w)
  rw[<-L];have X:Below w.heap.size w A:=zj (zv (Below.refl _ w)) f.out (zg _);have hG:zpQ ((A.setCell ⟨b,6,none⟩ (.int .u64 r)).setCell ⟨b,4,none⟩ (.int .u64 n)) b (K g) (x.zrm n):=by have D:=(a.out.zrg r).ztv n;unfold Gr.zrm;rw[L]at D ⊢;exact D
  have C:zo8 (fun k=>k=b) A ((A.setCell ⟨b,6,none⟩ (.int .u64 r)).setCell ⟨b,4,none⟩ (.int .u64 n)):=(zo8.refl _ A).one.one;have Q:((A.setCell ⟨b,6,none⟩ (.int .u64 r)).setCell ⟨b,4,none⟩ (.int .u64 n)).heap.size=A.heap.size:=by simp[World.setCell]
  have hS:=(d.out.kept (.zo7 X)).zrz (y:=x.zrm n) HX.out o.out C Q hG rfl;refine⟨rfl,⟨⟨_,_,_,hS.mono fun k v S=>.inl S⟩,Y.out.ok⟩,?_⟩;exact(zo8.zo7 X:zo8 F w A).trans C fun k v=>.inl (v▸s.out)
theorem zid(g:Nat)(n:Int)(w:World)(F:Nat->Prop)(p:Nat)(h:Hm)(x:Gr)(D:zB w F p h)(G:h.gs g=some x)(E:g≠0)(A:2<=n)(B:n<=262144):
 Calls prog 105 #[.pointer (some ⟨p,0,none⟩),.int .i64 g,.int .u64 n] w fun z w'=>z=.returned (.int .i64 0)/\yW w F p (h.zpo g n) w':=by
 cases hon:x.on
 ·exact zko g n w F p h x D G E A B hon
 ·exact zmg g n w F p h x D G E A B hon
def zrp(f:Nat->Option Nat)(g b:Nat):Nat->Option Nat:=fun k=>if k=g then some b else f k
theorem zra.zpd{w:World}{p:Nat}{credit gran:Int}{ps:Nat->Option Nat}(h:zra w p credit gran ps){g b:Nat}(hg:g<32):zra (w.setCell ⟨p,2+g,none⟩ (.pointer (some ⟨b,0,none⟩))) p credit gran (zrp ps g b):=by
 obtain⟨cs,E⟩:=h.ty;have A:=zi (i:=2+g) (u:=.pointer (some ⟨b,0,none⟩)) E;refine⟨⟨_,A⟩,?_,?_,?_⟩
 ·rw[World.cell?_setCell_other _ _ _ _ (by simp)];exact h.c0
 ·rw[World.cell?_setCell_other _ _ _ _ (by intro e;injection e with e1 e2;omega)];exact h.c1
 ·intro k B;unfold zrp;by_cases e:k=g
  ·subst e;rw[Nat.add_comm k 2,World.cell?_setCell_same _ _ _ (h.at B)];simp
  ·rw[World.cell?_setCell_other _ _ _ _ (by intro D;injection D with e1 e2;omega),if_neg e];exact h.cs k B
theorem HS.add{w w':World}{F:Nat->Prop}{p:Nat}{h:Hm}{ps:Nat->Option Nat}{I H:Nat->Nat}(hs:HS w F p h ps I H){g b q:Nat}{x:Gr}(hn:h.gs g=none)(hp:zra w' p h.credit h.gran (zrp ps g b))(Y:zo8 (fun k=>k=p) w w')
 (hb:w.heap.size<=b) (f:zpQ w' b q x) (n:yA w' (fun k=>w.heap.size<=k/\k≠b) q x.q):
 HS w' (Ext F w w') p (h.set g x) (zrp ps g b) (fun k=>if k=g then q else I k) (fun k=>if k<w.heap.size then H k else if k=b then 0 else g+1):=by
 have T:=hs.hx.lt;refine⟨hp,?_,?_,?_,.inl hs.fp,?_⟩
 ·intro k B;by_cases e:k=g
  ·subst e;rw[zw]at B;cases B
  ·rw[zo h x e]at B;unfold zrp;rw[if_neg e];exact hs.zsX k B
 ·intro k z E;by_cases e:k=g
  ·subst e;rw[zw]at E;cases E;refine⟨b,by unfold zrp;rw[if_pos rfl],.inr ⟨hb,f.lt⟩,?_,?_,?_⟩
   ·show(if b<w.heap.size then H b else if b=b then 0 else k+1)=0;rw[if_neg (by omega),if_pos rfl]
   ·show zpQ w' b (if k=k then q else I k) x;rw[if_pos rfl];exact f
   ·show yA w' _ (if k=k then q else I k) x.q;rw[if_pos rfl];refine n.mono fun j J D=>⟨.inr ⟨D.1,J⟩,?_⟩
    show(if j<w.heap.size then H j else if j=b then 0 else k+1)=k+1;rw[if_neg (by omega),if_neg D.2]
  ·rw[zo h x e]at E;obtain⟨c,M,R,V,G,U⟩:=hs.gx k z E;have O:c≠p:=fun o=>hs.hx.ztx G o.symm;refine⟨c,by unfold zrp;rw[if_neg e];exact M,.inl R,?_,?_,?_⟩
   ·show(if c<w.heap.size then H c else _)=0;rw[if_pos G.lt];exact V
   ·show zpQ w' c (if k=g then q else I k) z;rw[if_neg e];exact G.of (Y.block c G.lt O)
   ·show yA w' _ (if k=g then q else I k) z.q;rw[if_neg e];obtain⟨m,t,Z,l,a,X⟩:=U;have r:QS w' (fun j=>F j/\H j=k+1/\j<w.heap.size) (I k) m t Z l a z.q:=(X.mono fun j J D=>⟨D.1,D.2,J⟩).kept fun j J D=>Y.block j J (by rintro rfl;have s:=D.2.1;rw[hs.tp]at s;omega);refine⟨m,t,Z,l,a,r.mono fun j J D=>⟨.inl D.1,?_⟩⟩;show(if j<w.heap.size then H j else _)=k+1;rw[if_pos D.2.2];exact D.2.1
 ·intro k N c B A;unfold zrp at B A;split at B <;> split at A
  ·omega
  ·cases B;cases E:h.gs N with
   | none=>rw[hs.zsX N E]at A;cases A
   | some z=>
    obtain⟨d,M,R,V,G,U⟩:=hs.gx N z E;rw[M]at A;cases A;have:=G.lt;omega
  ·cases A;cases E:h.gs k with
   | none=>rw[hs.zsX k E]at B;cases B
   | some z=>
    obtain⟨d,M,R,V,G,U⟩:=hs.gx k z E;rw[M]at B;cases B;have:=G.lt;omega
  ·exact hs.inj k N c B A
 ·show(if p<w.heap.size then H p else _)=0;rw[if_pos T];exact hs.tp
abbrev zgu(q:Nat)(x:Gr):Obj:=.cells #[.int .i64 x.up,.int .i64 x.deep,.pointer (some ⟨q,0,none⟩),.int .i64 x.own.id,.int .u64 x.own.w,.int .i64 x.own.v,.int .u64 x.own.rem,.bool x.on,.bool x.st] 138
theorem zpQ.new(w:World)(q:Nat)(x:Gr):zpQ (w.alloc (zgu q x)) w.heap.size q x:=heap_alloc_new w _
theorem zkp(g u:Nat)(w:World)(F:Nat->Prop)(p:Nat)(h:Hm)(y:Gr)(C:zB w F p h)(b:h.gs g=none)(U:h.gs u=some y)(j:y.deep<8)(h0:g≠0)(O:g<32):
 Calls prog 75 #[.pointer (some ⟨p,0,none⟩),.int .i64 g,.int .i64 u] w fun z w'=>z=.returned (.int .i64 0)/\yW w F p (h.link g u) w':=by
 obtain⟨t,W,v⟩:=zjC C.2 h0 O b U j;rw[v]at t ⊢;obtain⟨⟨ps,Q,tg,hs⟩,H⟩:=C;have q:=H.zq4 u y U;have h7:=(H.deep u y U).1;obtain⟨c,P,S,k3,Z⟩:=hs.zpS U;have x:=hs.hx.at O;rw[hs.zsX g b]at x;have V:=hs.hx.lt;have M:=hs.hx.zpe;have D:=zc hs;have L:=zc b;have m:=zc t;have N:=zc (uF w p u h.credit h.gran ps hs.hx q);rw[P]at N;obtain⟨d0,d1,d2,d3,d4,d5,d6,d7,d8⟩:=Z.c9;have zre:=Z.lt;have C1:=zc Z;have h2:(0:Int)<=g:=by omega
 have h6:(g:Int)<=32:=by omega
 have h8:(g:Int) <32:=by omega
 have h5:1<=(g:Int):=by omega
 have h4:IntKind.i64.wrap (y.deep+1)=y.deep+1:=by simp only[IntKind.wrap,IntKind.signed,IntKind.bits];simp;omega
 have ha:(y.deep == 8)=false:=beq_eq_false_iff_ne.2 (by omega);clear d0 d2 d3 d4 d5 d6 d7 d8 hs H P S k3 Z b U t W v;go_enter func75,ntmps75;go_wp2_with fail;refine N.out.mono ?_;rintro z w2 ⟨rfl,hw⟩;obtain rfl:=hw.symm;go_wp2_with fail;go_region_with
  ((
   first
   | (
    go_at_call 69;go_loud (
     refine(zeu _).mono ?_;rintro z G ⟨rfl,J,A⟩;have n:=zc J;have o:=zc A;have K:=zc ((show zpQ w.drew c (Q u) y from C1.out).behind A);have a:=zc ((D.out.hx.of (w':=w.drew) rfl).behind A);have l:=a.out.at O;rw[D.out.zsX g L.out]at l;clear J A x d1 zre V M;have V:=a.out.lt;have M:=a.out.zpe;obtain⟨d0,d1,d2,d3,d4,d5,d6,d7,d8⟩:=K.out.c9;have zre:=K.out.lt;clear d0 d2 d3 d4 d5 d6 d7 d8))
   | (
    go_at_call 123;refine(zaJ _ g O).mono ?_;rintro z w9 ⟨rfl,hw⟩;obtain rfl:=hw.symm)))
 all_goals
  go_wp2;go_ret;refine⟨rfl,?_⟩;have A:Below w.heap.size w G:=zj (zv (Below.refl _ w)) o.out (zg _);have h3:=A.size;have h9:=D.out.hx.lt;obtain⟨E,B⟩:=zh (G.setCell ⟨p,2+g,none⟩ (.pointer (some ⟨G.heap.size,0,none⟩)))
  have r:E.heap.size=G.heap.size:=by rw[B];simp[World.setCell]
  have T:zra E p h.credit h.gran (zrp ps g G.heap.size):=by rw[B];exact a.out.zpd O
  have s:zo8 (fun k=>k=p) w E:=by rw[B];exact(zo8.zo7 A:zo8 _ w G).one
  have Y:yA E (fun k=>w.heap.size<=k/\k≠G.heap.size) (w.heap.size+2) Qu.new:=by
   have h1:yA G (fun k=>w.heap.size<=k/\k≠G.heap.size) (w.heap.size+2) Qu.new:=n.out.mono fun k R f=>⟨f,by omega⟩
   rw[B];exact h1.kept fun k R f=>Below.heap_setCell _ _ _ _ (by show k≠p;have:=f.1;omega)
  rw[<-B];rw[<-r]at T Y;clear B;have I:=zk E (zgu (w.heap.size+2) (zam g u y.deep));have d:=zpQ.new E (w.heap.size+2) (zam g u y.deep);have X:zo8 (fun k=>k=p) w (E.alloc (zgu (w.heap.size+2) (zam g u y.deep))):=s.trans (zo8.zo7 I:zo8 (fun k=>k=p) E _) fun k R=>.inl R;refine⟨⟨⟨_,_,_,D.out.add L.out (T.behind I) X (by omega) d (Y.behind I)⟩,m.out⟩,X.mono fun k R=>R▸D.out.fp⟩
abbrev zfq(credit gran:Int):Array Value:=#[.int .i64 credit,.int .i64 gran,.pointer none,.pointer none,.pointer none,.pointer none,.pointer none,.pointer none,.pointer none,.pointer none,.pointer none,.pointer none,.pointer none,.pointer none,.pointer none,.pointer none,.pointer none,.pointer none,.pointer none,.pointer none,.pointer none,.pointer none,.pointer none,.pointer none,.pointer none,.pointer none,.pointer none,.pointer none,.pointer none,.pointer none,.pointer none,.pointer none,.pointer none,.pointer none]
theorem zra.fresh(w:World)(credit gran:Int):zra (w.alloc (.cells (zfq credit gran) 152)) w.heap.size credit gran (fun _=>none):=by
 have A:(w.alloc (.cells (zfq credit gran) 152)).heap[w.heap.size]?=some (.cells (zfq credit gran) 152 (0,0)):=heap_alloc_new w _;refine⟨⟨_,A⟩,by simp,by simp,fun k hk=>?_⟩;have:k=0∨k=1∨k=2∨k=3∨k=4∨k=5∨k=6∨k=7∨k=8∨k=9∨k=10∨k=11∨k=12∨k=13∨k=14∨k=15∨k=16∨k=17∨k=18∨k=19∨k=20∨k=21∨k=22∨k=23∨k=24∨k=25∨k=26∨k=27∨k=28∨k=29∨k=30∨k=31:=by omega
 rcases this with rfl | rfl | rfl | rfl | rfl | rfl | rfl | rfl | rfl | rfl | rfl | rfl | rfl | rfl | rfl | rfl | rfl | rfl | rfl | rfl | rfl | rfl | rfl | rfl | rfl | rfl | rfl | rfl | rfl | rfl | rfl | rfl <;> simp
theorem zmh(credit gran:Int)(w:World):
 Calls prog 37 #[.int .i64 credit,.int .i64 gran] w fun z w'=>z=.returned (.pointer (some ⟨w.heap.size,0,none⟩))/\zB w' (fun k=>w.heap.size<=k) w.heap.size (Hm.new credit gran)/\Below w.heap.size w w':=by
 go_enter func37,ntmps37;go_upto_region 2 with(fail)
 obtain⟨w1,I⟩:=zh (w.alloc (.cells (zfq credit gran) 152))
 have c:Below w.heap.size w w1:=by rw[I];exact zk w _
 have E:zra w1 w.heap.size credit gran (fun _=>none):=by rw[I];exact zra.fresh w credit gran
 rw[<-I];have J:=zc E;have Z:=zc c;have o:=E.at (k:=0) (by omega);have N:=E.lt;have M:=E.zpe;obtain⟨p,hp⟩:=zh w.heap.size
 rw[<-hp]at J o N M ⊢;have s:=zc hp;clear I E c hp;go_region_with
  ((
   go_at_call 69;refine(zeu _).mono ?_;rintro z H ⟨rfl,a,D⟩;have h:=zc a;have j:=zc D;have d:=zc ((J.out.of (w':=w1.drew) rfl).behind D);clear a D o N M;have o:=d.out.at (k:=0) (by omega);have N:=d.out.lt;have M:=d.out.zpe))
 all_goals
  go_wp2;go_ret;have T:=s.out;have D:Below w1.heap.size w1 H:=zj (zv (Below.refl _ w1)) j.out (zg _);have l:=Z.out.size;have h3:=D.size;have h0:=J.out.lt;have hs:HS w1 (fun k=>w.heap.size<=k) p ⟨credit,gran,fun _=>none⟩ (fun _=>none) (fun _=>0) (fun _=>0):=
   ⟨J.out,fun _ _=>rfl,(fun g x t=>by cases t),(fun g g' b hb=>by cases hb),by omega,rfl⟩
  obtain⟨G,A⟩:=zh (H.setCell ⟨p,2,none⟩ (.pointer (some ⟨H.heap.size,0,none⟩)))
  have m:G.heap.size=H.heap.size:=by rw[A];simp[World.setCell]
  have X:zra G p credit gran (zrp (fun _=>none) 0 H.heap.size):=by rw[A];exact d.out.zpd (g:=0) (by omega)
  have n:zo8 (fun k=>k=p) w1 G:=by rw[A];exact(zo8.zo7 D:zo8 _ w1 H).one
  have V:yA G (fun k=>w1.heap.size<=k/\k≠H.heap.size) (w1.heap.size+2) Qu.new:=by
   have q:yA H (fun k=>w1.heap.size<=k/\k≠H.heap.size) (w1.heap.size+2) Qu.new:=h.out.mono fun k U R=>⟨R,by omega⟩
   rw[A];exact q.kept fun k U R=>Below.heap_setCell _ _ _ _ (by show k≠p;have:=R.1;omega)
  rw[<-A];rw[<-m]at X V;clear A;have O:=zk G (zgu (w1.heap.size+2) vj);have f:=zpQ.new G (w1.heap.size+2) vj;have Y:zo8 (fun k=>k=p) w1 (G.alloc (zgu (w1.heap.size+2) vj)):=n.trans (zo8.zo7 O:zo8 (fun k=>k=p) G _) fun k U=>.inl U;have r:=hs.add (g:=0) rfl (X.behind O) Y (by omega) f (V.behind O);have hm:(⟨credit,gran,fun _=>none⟩:Hm).set 0 vj=Hm.new credit gran:=rfl;rw[hm]at r;rw[<-T];refine⟨rfl,⟨⟨_,_,_,r.mono fun k U R=>?_⟩,(zib credit gran).1⟩,?_⟩
  ·rcases R with R | ⟨q,h2⟩ <;> omega
  ·rw[T];exact zj Z.out ((Y.below (B:=w.heap.size) l fun k U=>by omega)) (by omega)
end
def Hm.down(f b:Qu->Qu):Nat->Hm->Nat->Hm×Nat×Int
 | 0,h,g=>(h,g,-1)
 | k+1,h,g=>match h.gs g with
  | none=>(h,g,-1)
  | some x=>
   if(f x.q).cur<0∨(f x.q).cur%2=0 then((h.set g (x.zpb (f x.q))).set g ((x.zpb (f x.q)).zpb (b (f x.q))),g,(f x.q).cur)
   else Hm.down f b k ((h.set g (x.zpb (f x.q))).set g ((x.zpb (f x.q)).zpb (b (f x.q)))) ((f x.q).cur/2).toNat
def zpv(q:Qu):Qu:=q
def vP(n:Int):Int:=if n<0 then -1 else n/2
def Hm.running(h:Hm):Int:=vP (h.down zpv zpv 9 0).2.2
def xi(gran:Int)(q:Qu):Qu:=q.pick gran
def vQ(ns:Int)(q:Qu):Qu:=q.zpg ns
def Hm.pick(h:Hm):Hm×Int:=((h.down (xi h.gran) zpv 9 0).1,vP (h.down (xi h.gran) zpv 9 0).2.2)
def Hm.zpg(h:Hm)(ns:Int):Hm:=(h.down zpv (vQ ns) 9 0).1
def Hm.zp9(h:Hm)(g:Nat):Hm:=match h.gs g with
 | none=>h
 | some x=>h.set g (x.zpb (x.q.yield h.gran))
def Hm.yield(h:Hm):Hm×Int:=if h.running= -1 then h.pick else(h.zp9 (h.down zpv zpv 9 0).2.1).pick
structure yu(f:Qu->Qu):Prop where
 ok:∀q:Qu,q.Ok->(f q).Ok
 has:∀(q:Qu) i,q.Ok->((f q).has i↔q.has i)
theorem yu.id:yu zpv:=⟨fun _ h=>h,fun _ _ _=>Iff.rfl⟩
theorem zcP{x:Qu}(h:x.Ok)(B:Int):(x.pick B).Ok:=by
 have A:(x.pick B).l=x.l:=by unfold Qu.pick;repeat' split <;> try rfl
 have hm:(x.pick B).min=x.min:=by unfold Qu.pick;repeat' split <;> try rfl
 refine⟨by rw[A];exact h.zpR,by rw[A];exact h.ids,by rw[A];exact h.ord,?_,by rw[hm];exact h.min,by rw[A];exact h.len⟩;rw[A];unfold Qu.pick;split
 ·exact h.cur
 ·rename_i o D;have hm:=List.mem_of_find?_eq_some D;split
  ·exact .inr ⟨o,hm,rfl⟩
  ·split
   ·exact h.cur
   ·exact .inr ⟨o,hm,rfl⟩
theorem yu.pick(A:Int):yu (xi A):=⟨fun q h=>zcP h A,fun q i _=>zbB q A i⟩
theorem yu.zpg(ns:Int):yu (vQ ns):=⟨fun q h=>zqR h ns,fun q i _=>zdd ns i⟩
theorem vm{f b:Qu->Qu}(B:yu f)(hb:yu b):∀(k:Nat) {h:Hm} (A:h.Ok) (g:Nat),xP h (h.down f b k g).1
 | 0,h,A,g=>.refl A
 | k+1,h,A,g=>by
  unfold Hm.down;cases hx:h.gs g with
  | none=>exact .refl A
  | some x=>
   simp only;have D:=(A.q g x hx).1;have E:=yB A hx (B.ok _ D) fun i=>B.has _ i D;have a2:=yB E.ok (zw h g (x.zpb (f x.q))) (q:=b (f x.q)) (hb.ok _ (B.ok _ D)) fun i=>hb.has _ i (B.ok _ D);split
   ·exact E.trans a2
   ·exact(E.trans a2).trans (vm B hb k a2.ok _)
theorem xe{h:Hm}{g:Nat}{x:Gr}(A:h.gs g=some x):h.set g x=h:=by
 cases h with
 | mk c gr gs=>
  unfold Hm.set
  congr 1
  funext k;simp only;split
  ·rename_i e;rw[e];exact A.symm
  ·rfl
theorem zjD:∀(k:Nat) (h:Hm) (g:Nat),(h.down zpv zpv k g).1=h
 | 0,h,g=>rfl
 | k+1,h,g=>by
  unfold Hm.down;cases hx:h.gs g with
  | none=>rfl
  | some x=>
   simp only;have e:(h.set g (x.zpb (zpv x.q))).set g ((x.zpb (zpv x.q)).zpb (zpv (zpv x.q)))=h:=by have A:h.set g (x.zpb (zpv x.q))=h:=xe (x:=x.zpb (zpv x.q)) hx;rw[A];exact xe (x:=(x.zpb (zpv x.q)).zpb (zpv (zpv x.q))) hx
   rw[e];split
   ·rfl
   ·exact zjD k h _
def zkq(h A:Hm):Prop:=∀g,(h.gs g=none/\A.gs g=none)∨∃x y,h.gs g=some x/\A.gs g=some y/\y.q.cur=x.q.cur
theorem zkq.set{h B:Hm}(D:zkq h B){g:Nat}{x y:Gr}(e:y.q.cur=x.q.cur):zkq (h.set g x) (B.set g y):=fun k=>by
 by_cases A:k=g
 ·subst A;exact .inr ⟨x,y,zw _ _ _,zw _ _ _,e⟩
 ·rw[zo _ _ A,zo _ _ A];exact D k
theorem zgv{b G:Qu->Qu}(hb:∀q,(b q).cur=q.cur)(A:∀q,(G q).cur=q.cur):∀(k:Nat) (h B:Hm) (g:Nat),zkq h B->(B.down zpv G k g).2=(h.down zpv b k g).2
 | 0,h,B,g,hc=>rfl
 | k+1,h,B,g,hc=>by
  unfold Hm.down;rcases hc g with⟨E,D⟩ | ⟨x,y,E,D,H⟩
  ·rw[E,D]
  ·rw[E,D];simp only;have e:(zpv y.q).cur=(zpv x.q).cur:=H;rw[e];split
   ·rfl
   ·refine zgv hb A k _ _ _ ((hc.set (x:=x.zpb (zpv x.q)) (y:=y.zpb (zpv y.q)) H).set ?_);show(G y.q).cur=(b x.q).cur;rw[hb,A,H]
theorem zkq.refl(h:Hm):zkq h h:=fun g=>by
 cases hg:h.gs g with
 | none=>exact .inl ⟨rfl,rfl⟩
 | some x=>exact .inr ⟨x,x,rfl,rfl,rfl⟩
theorem zie(ns:Int)(q:Qu):(vQ ns q).cur=q.cur:=by
 unfold vQ Qu.zpg;split
 ·rfl
 ·rw[qU]
theorem zgw(h:Hm)(ns:Int)(k g:Nat):(h.down zpv (vQ ns) k g).2=(h.down zpv zpv k g).2:=zgv (fun _=>rfl) (zie ns) k h h g (.refl h)
theorem zeA{f b:Qu->Qu}(B:yu f)(hb:yu b):∀(k:Nat) {h:Hm} (A:h.Ok) (g:Nat) (x:Gr),h.gs g=some x->9<=k+x.deep->∃y,(h.down f b k g).1.gs (h.down f b k g).2.1=some y
 | 0,h,A,g,x,hx,hd=>by have:=(A.deep g x hx).2;omega
 | k+1,h,A,g,x,hx,hd=>by
  unfold Hm.down;rw[hx];simp only;have D:=(A.q g x hx).1;have O:=yB A hx (B.ok _ D) fun i=>B.has _ i D;have a2:=yB O.ok (zw h g (x.zpb (f x.q))) (q:=b (f x.q)) (hb.ok _ (B.ok _ D)) fun i=>hb.has _ i (B.ok _ D);split
  ·exact⟨_,zw _ _ _⟩
  ·rename_i hn;have I:=B.ok _ D;have G:∃e∈(f x.q).l,e.id=(f x.q).cur:=I.cur.resolve_left (by omega);obtain⟨c,R⟩:∃c:Nat,(f x.q).cur=2*c+1:=⟨((f x.q).cur/2).toNat,by omega⟩
   have N:x.q.has (2*c+1):=by rw[<-R];exact(B.has _ _ D).1 G
   obtain⟨y,M,J⟩:=A.ztb g x c hx N;obtain⟨h0,H,x',E,h1⟩:=zbD A M J;rw[hx]at E;cases E;have e:((f x.q).cur/2).toNat=c:=by omega
   rw[e];refine zeA B hb k a2.ok c y ?_ (by omega);rw[zo _ _ H,zo _ _ H];exact M
theorem zba{h:Hm}(A:h.Ok):xP h h.pick.1:=vm (.pick _) .id 9 A 0
theorem zeh{h:Hm}(A:h.Ok)(ns:Int):xP h (h.zpg ns):=vm .id (.zpg ns) 9 A 0
theorem zmi{x:Qu}(h:x.Ok)(A:Int):(x.yield A).Ok:=by
 unfold Qu.yield;split
 ·rename_i o c B hc;split
  ·exact⟨h.zpR,h.ids,h.ord,.inr ⟨o,List.mem_of_find?_eq_some B,rfl⟩,h.min,h.len⟩
  ·exact zcP h A
 ·exact zcP h A
theorem xQ{h:Hm}(A:h.Ok)(g:Nat):xP h (h.zp9 g):=by
 unfold Hm.zp9;cases hx:h.gs g with
 | none=>exact .refl A
 | some x=>exact yB A hx (zmi (A.q g x hx).1 _) fun i=>zb2 _ _ _
theorem zgx{h:Hm}(A:h.Ok):xP h h.yield.1:=by
 unfold Hm.yield;split
 ·exact zba A
 ·exact(xQ A _).trans (zba (xQ A _).ok)
theorem zb5{f b:Qu->Qu}(B:yu f)(hb:yu b):∀(k:Nat) {h:Hm} (E:h.Ok) (g:Nat),(h.down f b k g).2.2<0∨∃g' i,(h.down f b k g).2.2=2*i/\0<=i/\i<64/\h.even g' i∨(h.down f b k g).2.2<0
 | 0,h,E,g=>.inl (by show(-1:Int) <0;omega)
 | k+1,h,E,g=>by
  unfold Hm.down;cases hx:h.gs g with
  | none=>exact .inl (by show(-1:Int) <0;omega)
  | some x=>
   simp only;have D:=(E.q g x hx).1;have I:=yB E hx (B.ok _ D) fun i=>B.has _ i D;have a2:=yB I.ok (zw h g (x.zpb (f x.q))) (q:=b (f x.q)) (hb.ok _ (B.ok _ D)) fun i=>hb.has _ i (B.ok _ D);split
   ·rename_i hn;by_cases H:(f x.q).cur<0
    ·exact .inl H
    ·refine .inr ⟨g,(f x.q).cur/2,.inl ?_⟩;have G:∃e∈(f x.q).l,e.id=(f x.q).cur:=(B.ok _ D).cur.resolve_left (by omega);have J:x.q.has (f x.q).cur:=(B.has _ _ D).1 G;obtain⟨e,he,hi⟩:=J;have:=(E.q g x hx).2 e he;refine⟨by show(f x.q).cur=_;omega,by omega,by omega,x,hx,e,he,by omega⟩
   ·rcases zb5 B hb k a2.ok ((f x.q).cur/2).toNat with A | ⟨g',i,A | A⟩
    ·exact .inl A
    ·exact .inr ⟨g',i,.inl ⟨A.1,A.2.1,A.2.2.1,(I.even _ _).1 ((a2.even _ _).1 A.2.2.2)⟩⟩
    ·exact .inl A
theorem zmj{h:Hm}{f b:Qu->Qu}(B:yu f)(hb:yu b)(D:h.Ok):vP (h.down f b 9 0).2.2= -1∨∃(g:Nat) (i:Nat),vP (h.down f b 9 0).2.2=i/\i<64/\h.even g i:=by
 unfold vP;rcases zb5 B hb 9 D 0 with A | ⟨g',i,A | A⟩
 ·rw[if_pos A];exact .inl rfl
 ·rw[if_neg (by omega)];obtain⟨j,rfl⟩:=Int.eq_ofNat_of_zero_le A.2.1;exact .inr ⟨g',j,by omega,by omega,A.2.2.2⟩
 ·rw[if_pos A];exact .inl rfl
def Hm.zsv(h:Hm)(g0:Nat):Prop:=∀g x,h.gs g=some x->g≠0->g≠g0->x.on=x.zpr
def Hm.zpC(h:Hm):Prop:=∀g x,h.gs g=some x->g≠0->x.on=x.zpr
theorem qA:∀(n:Nat) {h:Hm} (J:h.Ok) (g:Nat) (x:Gr) (G:h.gs g=some x) (hd:x.deep<n) (N:h.zsv g),(h.settle n g).zpC
 | 0,h,J,g,x,G,hd,N=>absurd (J.deep g x G).1 (by omega)
 | n+1,h,J,g,x,G,hd,N=>by
  have D:=(zaI 1 J g).1;unfold Hm.settle at D ⊢;rw[G]at D ⊢;simp only at D ⊢;by_cases H:x.up<0
  ·rw[if_pos H];have M:g=0:=Classical.byContradiction fun X=>by obtain⟨u,y,hu,_⟩:=J.up g x G X;omega
   subst M;exact fun k z B A=>N k z B A A
  ·rw[if_neg H]at D ⊢;have M:g≠0:=by rintro rfl;obtain⟨r,V,hu,_⟩:=J.root;rw[G]at V;cases V;omega
   obtain⟨u,y,T,U,h0⟩:=J.up g x G M;have e:x.up.toNat=u:=by rw[T];rfl
   rw[e,U]at D ⊢;simp only at D ⊢;have O:g≠u:=by rintro rfl;rw[G]at U;cases U;omega
   by_cases hs:x.zpr=x.on
   ·rw[if_pos hs];intro k z B A;by_cases E:k=g
    ·subst E;rw[G]at B;cases B;exact hs.symm
    ·exact N k z B A E
   ·rw[if_neg hs]at D ⊢;by_cases R:x.zpr=true
    ·rw[if_pos R]at D ⊢;unfold Hm.settle at D;refine qA n D u (y.zpb (y.q.put (x.zpM y.q.min h.credit))) (by rw[zo _ _ (Ne.symm O),zw]) (by show y.deep<n;omega) ?_;intro k z B A I;by_cases E:k=g
     ·subst E;rw[zw]at B;cases B;exact R.symm
     ·rw[zo _ _ E,zo _ _ I]at B;exact N k z B A E
    ·rw[if_neg R]at D ⊢;unfold Hm.settle at D;refine qA n D u (y.zpb (y.q.drop (2*g+1))) (by rw[zo _ _ (Ne.symm O),zw]) (by show y.deep<n;omega) ?_;intro k z B A I;by_cases E:k=g
     ·subst E;rw[zw]at B;cases B;show false=x.zpr;cases hb:x.zpr with
      | false=>rfl
      | true=>exact absurd hb R
     ·rw[zo _ _ E,zo _ _ I]at B;exact N k z B A E
theorem zdK{h:Hm}(D:h.zpC)(g:Nat)(x:Gr):(h.set g x).zsv g:=fun k z A B E=>by rw[zo _ _ E]at A;exact D k z A B
theorem zbg{h:Hm}(D:h.zpC){g:Nat}{x:Gr}(G:h.gs g=some x){q:Qu}(E:q.l.isEmpty=x.q.l.isEmpty):(h.set g (x.zpb q)).zpC:=fun k z A B=>by
 by_cases e:k=g
 ·subst e;rw[zw]at A;cases A;have:=D k x G B;show x.on=(!x.st && !q.l.isEmpty)
  rw[E];exact this
 ·rw[zo _ _ e]at A;exact D k z A B
theorem xG{q q':Qu}(h:∀i,q'.has i↔q.has i):q'.l.isEmpty=q.l.isEmpty:=by
 rw[Bool.eq_iff_iff,List.isEmpty_iff,List.isEmpty_iff];constructor
 ·intro e;cases hl:q.l with
  | nil=>rfl
  | cons a r=>
   obtain⟨b,hb,_⟩:=(h a.id).2 ⟨a,by rw[hl];exact List.mem_cons_self,rfl⟩;rw[e]at hb;cases hb
 ·intro e;cases hl:q'.l with
  | nil=>rfl
  | cons a r=>
   obtain⟨b,hb,_⟩:=(h a.id).1 ⟨a,by rw[hl];exact List.mem_cons_self,rfl⟩;rw[e]at hb;cases hb
theorem zcc{f b:Qu->Qu}(A:yu f)(hb:yu b):∀(k:Nat) {h:Hm} (D:h.Ok) (g:Nat),h.zpC->(h.down f b k g).1.zpC
 | 0,h,D,g,hfi=>hfi
 | k+1,h,D,g,hfi=>by
  unfold Hm.down;cases hx:h.gs g with
  | none=>exact hfi
  | some x=>
   simp only;have B:=(D.q g x hx).1;have E:=yB D hx (A.ok _ B) fun i=>A.has _ i B;have a2:=yB E.ok (zw h g (x.zpb (f x.q))) (q:=b (f x.q)) (hb.ok _ (A.ok _ B)) fun i=>hb.has _ i (A.ok _ B);have f1:=zbg hfi hx (q:=f x.q) (xG fun i=>A.has _ i B);have f2:=zbg f1 (zw h g (x.zpb (f x.q))) (q:=b (f x.q)) (xG fun i=>hb.has _ i (A.ok _ B));split
   ·exact f2
   ·exact zcc A hb k a2.ok _ f2
theorem Hm.zpC.pick{h:Hm}(A:h.Ok)(B:h.zpC):h.pick.1.zpC:=zcc (.pick _) .id 9 A 0 B
theorem Hm.zpC.zpg{h:Hm}(A:h.Ok)(B:h.zpC)(ns:Int):(h.zpg ns).zpC:=zcc .id (.zpg ns) 9 A 0 B
theorem zmO{q:Qu}(G:q.Ok)(A:q.l≠ [])(B:Int):0<=(q.pick B).cur/\q.has (q.pick B).cur:=by
 have mem:∀e∈q.l,0<=e.id/\q.has e.id:=fun e he=>⟨(G.zpR e he).id.1,e,he,rfl⟩
 unfold Qu.pick;cases hf:q.first with
 | none=>
  show 0<=q.cur/\q.has q.cur;cases hl:q.l with
  | nil=>exact absurd hl A
  | cons a r=>
   have E:a∈q.l:=by rw[hl];exact List.mem_cons_self
   have I:=List.find?_eq_none.1 hf a E;have H:a.id=q.cur:=by simpa[ua]using I
   rw[<-H];exact mem a E
 | some o=>
  have D:o∈q.l:=List.mem_of_find?_eq_some hf;simp only;cases hg:q.get q.cur with
  | none=>exact mem o D
  | some c=>
   simp only;split
   ·obtain⟨J,M⟩:=yh hg;rw[<-M];exact mem c J
   ·exact mem o D
theorem zdL(A:Int):∀(k:Nat) {h:Hm} (D:h.Ok) (O:h.zpC) (g:Nat) (x:Gr) (B:h.gs g=some x) (G:x.q.l≠ []) (hd:9<=k+x.deep),0<=(h.down (xi A) zpv k g).2.2
 | 0,h,D,O,g,x,B,G,hd=>absurd (D.deep g x B).2 (by omega)
 | k+1,h,D,O,g,x,B,G,hd=>by
  unfold Hm.down;rw[B];simp only;have H:=(D.q g x B).1;have b:=yB D B ((yu.pick A).ok _ H) fun i=>(yu.pick A).has _ i H;have a2:=yB b.ok (zw h g (x.zpb (xi A x.q))) (q:=zpv (xi A x.q)) (yu.id.ok _ ((yu.pick A).ok _ H)) fun i=>yu.id.has _ i ((yu.pick A).ok _ H);have f1:=zbg O B (q:=xi A x.q) (xG fun i=>(yu.pick A).has _ i H);have f2:=zbg f1 (zw h g (x.zpb (xi A x.q))) (q:=zpv (xi A x.q)) (xG fun i=>yu.id.has _ i ((yu.pick A).ok _ H));obtain⟨c0,Z⟩:=zmO H G A;split
  ·exact c0
  ·rename_i R;have h0:¬(xi A x.q).cur%2=0:=fun e=>R (.inr e);have E:(xi A x.q).cur=2*(((xi A x.q).cur/2).toNat:Int)+1:=by have:0<=(xi A x.q).cur:=c0;omega
   obtain⟨c,d⟩:=zh (((xi A x.q).cur/2).toNat)
   rw[<-d]at E ⊢;have X:x.q.has (2*(c:Int)+1):=by rw[<-E];exact Z
   obtain⟨y,I,U⟩:=D.ztb g x c B X;have T:=(D.on g x c y B I U).1 X;have J:c≠0:=by rintro rfl;obtain⟨r,Y,hu,_⟩:=D.root;rw[I]at Y;cases Y;omega
   have h4:y.deep=x.deep+1:=by
    obtain⟨u,z,h1,V,a⟩:=D.up c y I J;have:u=g:=by omega
    subst this;rw[B]at V;cases V;exact a
   have N:c≠g:=by rintro rfl;rw[B]at I;cases I;omega
   have M:y.q.l≠ []:=by have:=O c y I J;rw[T]at this;intro e;unfold Gr.zpr at this;rw[e]at this;simp at this
   exact zdL A k a2.ok f2 c y (by rw[zo _ _ N,zo _ _ N];exact I) M (by omega)
theorem zkJ{h:Hm}(B:h.Ok)(G:h.zpC)(x:Gr)(E:h.gs 0=some x)(A:x.q.l≠ []):0<=h.pick.2:=by
 have h0:x.deep=0:=by obtain⟨r,D,_,hd⟩:=B.root;rw[E]at D;cases D;exact hd
 have:=zdL h.gran 9 B G 0 x E A (by omega);unfold Hm.pick vP;simp only;rw[if_neg (by omega)];omega
theorem zmP{h:Hm}(E:h.Ok)(G:h.zpC){g:Nat}{x:Gr}(D:h.gs g=some x){e:En}(he:e.Ok){k:Nat}(B:k<64)(I:e.id=k)(H:x.q.get (2*k)=none):(h.put g e).zpC:=by obtain⟨_,A,_⟩:=za9 E D he B I H;have hd:=(E.deep g x D).2;unfold Hm.put;rw[D];simp only;unfold Hm.zrW at A ⊢;exact qA 9 A g (x.zpb (x.q.put e.zql)) (zw _ _ _) (by show x.deep<9;omega) (zdK G _ _)
theorem zkK{h:Hm}(B:h.Ok)(D:h.zpC)(g k:Nat):(h.drop g k).zpC:=by
 unfold Hm.drop;cases hx:h.gs g with
 | none=>exact D
 | some x=>
  obtain⟨A,_⟩:=zao B hx k;have hd:=(B.deep g x hx).2;simp only;unfold Hm.zqW at A ⊢;exact qA 9 A g (x.zpb (x.q.drop (2*k))) (zw _ _ _) (by show x.deep<9;omega) (zdK D _ _)
theorem zkL{h:Hm}(B:h.Ok)(D:h.zpC)(g:Nat)(b:Bool):(h.stop g b).zpC:=by
 unfold Hm.stop;cases hx:h.gs g with
 | none=>exact D
 | some x=>
  have A:=(qM B hx b).ok;have hd:=(B.deep g x hx).2;simp only;exact qA 9 A g (x.zqy b) (zw _ _ _) (by show x.deep<9;omega) (zdK D _ _)
theorem zkM{h:Hm}(A:h.zpC)(g k:Nat)(w:Int):(h.nice g k w).zpC:=by
 unfold Hm.nice;cases hx:h.gs g with
 | none=>exact A
 | some x=>exact zbg A hx (xG fun i=>zaH x.q _ w i)
theorem ziD{h:Hm}(A:h.zpC)(g:Nat)(w:Int):(h.zpo g w).zpC:=by
 unfold Hm.zpo;cases hx:h.gs g with
 | none=>exact A
 | some x=>
  simp only;split
  ·cases hy:h.gs x.up.toNat with
   | none=>exact A
   | some y=>exact zbg A hy (xG fun i=>zaH y.q _ w i)
  ·intro k z D B;by_cases e:k=g
   ·subst e;rw[zw]at D;cases D;exact A k x hx B
   ·rw[zo _ _ e]at D;exact A k z D B
theorem zcs{h:Hm}(A:h.zpC)(g:Nat):(h.zp9 g).zpC:=by
 unfold Hm.zp9;cases hx:h.gs g with
 | none=>exact A
 | some x=>exact zbg A hx (xG fun i=>zb2 x.q _ i)
theorem ziE{h:Hm}(A:h.Ok)(B:h.zpC):h.yield.1.zpC:=by
 unfold Hm.yield;split
 ·exact Hm.zpC.pick A B
 ·exact Hm.zpC.pick (xQ A _).ok (zcs B _)
theorem zkN{h:Hm}(D:h.zpC)(g u:Nat):(h.link g u).zpC:=by
 unfold Hm.link;cases hy:h.gs u with
 | none=>exact D
 | some y=>
  intro k z A B;by_cases e:k=g
  ·subst e;simp only at A;rw[zw]at A;cases A;rfl
  ·simp only at A;rw[zo _ _ e]at A;exact D k z A B
theorem zmQ(credit gran:Int):(Hm.new credit gran).zpC:=by intro k z A B;unfold Hm.new at A;simp only at A;rw[if_neg B]at A;cases A
theorem zfF{h:Hm}(D:h.Ok)(G:h.running≠ -1):∃x,h.gs 0=some x/\x.q.l≠ []:=by
 obtain⟨x,B,_⟩:=D.root;refine⟨x,B,fun e=>G ?_⟩;have A:x.q.cur= -1:=by
  rcases(D.q 0 x B).1.cur with H | ⟨a,E,_⟩
  ·exact H
  ·rw[e]at E;cases E
 unfold Hm.running;unfold Hm.down;rw[B];simp only;rw[if_pos (.inl (by show x.q.cur<0;omega))];show vP x.q.cur= -1;rw[A];rfl
theorem ziF{h:Hm}(I:h.Ok)(R:h.zpC)(J:h.running≠ -1):∃(g i:Nat),h.yield.2=i/\i<64/\h.even g i:=by
 obtain⟨x,G,A⟩:=zfF I J;have D:=xQ I (h.down zpv zpv 9 0).2.1;have T:h.yield=(h.zp9 (h.down zpv zpv 9 0).2.1).pick:=by unfold Hm.yield;rw[if_neg J]
 rw[T];have O:=zcs R (h.down zpv zpv 9 0).2.1;obtain⟨y,H,E⟩:∃y,(h.zp9 (h.down zpv zpv 9 0).2.1).gs 0=some y/\y.q.l≠ []:=by
  unfold Hm.zp9;cases hz:h.gs (h.down zpv zpv 9 0).2.1 with
  | none=>exact⟨x,G,A⟩
  | some z=>
   simp only;by_cases e:(0:Nat)=(h.down zpv zpv 9 0).2.1
   ·rw[<-e]at hz ⊢;rw[G]at hz;cases hz;refine⟨_,zw _ _ _,fun N=>A ?_⟩;have:=xG (q:=x.q) (q':=x.q.yield h.gran) fun i=>zb2 x.q _ i;have V:(x.q.yield h.gran).l= []:=N;rw[V]at this;exact List.isEmpty_iff.1 this.symm
   ·exact⟨x,by rw[zo _ _ e];exact G,A⟩
 have h0:=zkJ D.ok O y H E;rcases zmj (.pick (h.zp9 (h.down zpv zpv 9 0).2.1).gran) .id D.ok with B | ⟨g,i,B,M,U⟩
 ·have:(h.zp9 (h.down zpv zpv 9 0).2.1).pick.2= -1:=B;omega
 ·exact⟨g,i,B,M,(D.even g i).1 U⟩
end Go.Proofs.YtmgekibncmnmiaaGreatDoor
