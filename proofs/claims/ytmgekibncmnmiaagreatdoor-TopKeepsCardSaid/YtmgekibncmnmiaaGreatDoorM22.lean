/- Parts of the proof of the law TopKeeps: contracts of the functions that it reaches, and plain laws of what they compute. Conditions: those in each statement. -/
import Derived.Test.YtmgekibncmnmiaaGreatDoorM18
import Derived.Test.YtmgekibncmnmiaaGreatDoorM20
set_option linter.unusedVariables false
set_option maxRecDepth 100000
set_option maxHeartbeats 4000000
open Go.Proofs.Tryz
namespace Go.Proofs.YtmgekibncmnmiaaGreatDoor
open Go Go.RowKit Go.ChangeShapes Go.WideShapes
def znN(s:Ps)(i g A B:Int):Bool:=match s.find A B with
 | none=>false
 | some j=>match s.find i g with
  | none=>false
  | some k=>zsj s.l k j
theorem ut{s:Ps}{i g:Int}{k:Nat}(h:s.find i g=some k):∃q,i=(k:Int)/\s.l[k]?=some q/\q.used=true/\q.gen=g/\s.zqU i g=q.x/\s.zqO i g=0:=by
 obtain⟨q,⟨D,A,G,B⟩,E⟩:=ztR h;refine⟨q,D,A,G,B,?_,?_⟩
 ·unfold Ps.zqU;rw[h];simp only[E]
 ·unfold Ps.zqO;rw[h]
theorem zfx{s:Ps}{k:Nat}{q:Pl}(A:s.l[k]?=some q)(E:q.used=true):s.find k q.gen=some k/\s.zqU k q.gen=q.x/\s.zqO k q.gen=0:=by
 have e:s.find k q.gen=some k:=by unfold Ps.find;simp[A,E]
 obtain⟨q',_,B,_,_,G,D⟩:=ut e;rw[A]at B;cases B;exact⟨e,G,D⟩
theorem qX(k:Nat)(q:Pl)(b:Nat)(w:World)(base t p:Nat)(s:Ps)(h:zqn w base t p s)(D:s.Ok 32 b)(hb:b<=1000)(B:s.l[k]?=some q)(A:q.used=true):
 Calls prog 64 #[.pointer (some ⟨t,0,none⟩),.agg #[.int .i64 k,.int .i64 q.gen]] w fun e w'=>e=.returned (.tuple #[.agg (zO q.x),.int .i64 0])/\Below w.heap.size w w':=by
 have:=vR k q.gen b w base t p s h D hb;rwa[(zfx B A).2.1,(zfx B A).2.2]at this
theorem Tr.zti{l:List Pl}(h:Tr l){c:Nat}{q:Pl}(A:l[c]?=some q)(hu:q.used=true)(E:c≠0):∃(d:Nat) (p:Pl),l[d]?=some p/\p.used=true/\q.x.ui=d/\q.x.ug=p.gen/\zrk l c=d/\dep l c=dep l d+1:=by
 obtain⟨d,p,hp,D,B,_⟩:=h.kid c q A hu E;have e:zrk l c=d:=by unfold zrk;rw[zbG A,B];simp
 have:=(h.up ⟨q,A,hu⟩ E).2;rw[e]at this;exact⟨d,p,hp,D,by rw[B],by rw[B],e,this⟩
theorem Tr.isRoot{l:List Pl}(h:Tr l){d:Nat}{p:Pl}(hp:l[d]?=some p):decide ((d:Int)=0/\p.gen=0)=decide (d=0):=by
 by_cases hd:d=0
 ·subst hd;obtain⟨q,A,_,B,_⟩:=h.root;rw[hp]at A;cases A;simp[B]
 ·simp[hd]
theorem zaM(c:Nat)(q:Pl)(over:Bool)(b:Nat)(w:World)(base t p a hb A:Nat)(s:Ps)(H:zqn w base t p s)(J:s.Ok 32 b)(B:b<=1000)(D:Tr s.l)(E:s.l[c]?=some q)(G:q.used=true)
 (h:zqK w a hb A (some ⟨t,0,none⟩) c q.gen false):
 Calls prog 122 #[.pointer (some ⟨a,0,none⟩),.pointer (some ⟨hb,0,none⟩),.pointer (some ⟨A,0,none⟩)] w fun e w'=>e=.returned (.tuple #[.agg #[.int .i64 c,.int .i64 q.gen],.bool true])/\zqK w' a hb A (some ⟨t,0,none⟩) q.x.ui q.x.ug (decide (c=0))/\zo8 (fun z=>z=hb∨z=A) w w':=by
 have:=zmq c q.gen q.x w a hb A (some ⟨t,0,none⟩) h (fun W I=>qX c q b W base t p s (H.behind I) J B E G);rwa[D.isRoot E]at this
theorem zms(i g:Int)(b:Nat)(w:World)(base t p a hb A:Nat)(s:Ps)(D:zqn w base t p s)(G:s.Ok 32 b)(B:b<=1000)(h:zqK w a hb A (some ⟨t,0,none⟩) i g true):
 Calls prog 122 #[.pointer (some ⟨a,0,none⟩),.pointer (some ⟨hb,0,none⟩),.pointer (some ⟨A,0,none⟩)] w fun e w'=>e=.returned (.tuple #[.agg #[.int .i64 0,.int .i64 0],.bool false])/\Below w.heap.size w w':=
 zks i g _ _ w a hb A (some ⟨t,0,none⟩) h (fun W E=>vR i g b W base t p s (D.behind E) G B)
theorem Hx.zpW{F:Nat->Prop}{w w':World}{k:Nat}{i g:Int}(h:Hx w k i g)(B:zo8 F w w')(A:¬F k):Hx w' k i g:=by unfold Hx;rw[B.block k h.lt A];exact h
theorem zfy(A:Option Addr)(i g:Int)(w:World):
 Calls prog 70 #[.pointer A,.agg #[.int .i64 i,.int .i64 g]] w fun e w'=>∃a hb ob,e=.returned (itv a hb ob)/\(w.heap.size<=a/\w.heap.size<=hb/\w.heap.size<=ob)/\zqK w' a hb ob A i g false/\Below w.heap.size w w':=
 (zoF A i g w).mono fun e w' ⟨D,B,E⟩=>⟨_,_,_,D,⟨by omega,by omega,by omega⟩,B,E⟩
theorem Tr.zsT{l:List Pl}(h:Tr l){k:Nat}{q:Pl}(B:l[k]?=some q)(A:q.used=true):dep l k<=8:=(h.zr2 ⟨q,B,A⟩).1
structure Wk(w1 wr:World)(t a hb ob xb:Nat)(l:List Pl)(c:Nat)(q:Pl):Prop where
 at_:l[c]?=some q
 usd:q.used=true
 x:Hx wr xb c q.gen
 it:zqK wr a hb ob (some ⟨t,0,none⟩) q.x.ui q.x.ug (decide (c=0))
 new:w1.heap.size<=a/\w1.heap.size<=hb/\w1.heap.size<=ob/\w1.heap.size<=xb
 ne:xb≠hb/\xb≠ob
theorem zkt(k j:Nat)(N K:Pl)(b:Nat)(w:World)(base t p:Nat)(s:Ps)(h:zqn w base t p s)(ho:s.Ok 32 b)(hb:b<=1000)(h9:Tr s.l)
 (hk:s.l[k]?=some N) (hg:N.used=true) (hj:s.l[j]?=some K) (h6:K.used=true):
 Calls prog 38 #[.pointer (some ⟨t,0,none⟩),.agg #[.int .i64 k,.int .i64 N.gen],.agg #[.int .i64 j,.int .i64 K.gen]] w fun e w'=>e=.returned (.bool (zsj s.l k j))/\Below w.heap.size w w':=by
 have HC:=zc (qX j K b ((w.alloc (zP k N.gen)).alloc (zP j K.gen)) base t p s ((h.alloc _).alloc _) ho hb hj h6);have HT:=zc h;have HO:=zc ho;have M:=zc h9;have HK:=zc (And.intro hk hg);have HJ:=zc (And.intro hj h6);obtain⟨res,R⟩:=zh (zsj s.l k j)
 rw[<-R];have H8:=zc R;clear h ho h9 hk hg hj h6 R;go_enter func38,ntmps38;go_wp2_with fail;refine HC.out.mono ?_;rintro e D ⟨rfl,g⟩;have I:Hid (Below w.heap.size w D):=zc (zj ((zk w _).alloc (by simp) _) g (by simp;omega));have W:Hid (Hx D w.heap.size k N.gen):=zc (((Hx.new w _ _).alloc _).behind g);have P:Hid (Hx D (w.heap.size+1) j K.gen):=zc ((Hx.zrR w _ _ _).behind g);obtain⟨kb,V⟩:=zh w.heap.size
 obtain⟨jb,f⟩:=zh (w.heap.size+1)
 rw[<-f,<-V];rw[<-f]at P;rw[<-V]at W;have Hg:=zc (And.intro V f);clear g V f;obtain⟨j0,y⟩:=P.out.c2;obtain⟨k0,k1⟩:=W.out.c2;have kl:=W.out.lt;go_wp2_with fail;refine(zfy _ _ _ _).mono ?_;rintro e w3 ⟨a,v,u,rfl,hn,H6,ha⟩;have O:Below D.heap.size D w3:=zj (zk D _) ha (by simp);have HN:Hid (D.heap.size<=a/\D.heap.size<=v/\D.heap.size<=u):=zc (by simp at hn;omega);have hy:=zc H6;have He:=zc ((HT.out.behind I.out).behind O);have hv:=zc O;clear ha O hn H6 j0 y k0 k1 kl;go_wp2_with fail;refine(zaM k N false b _ base t p a v u s He.out HO.out hb M.out HK.out.1 HK.out.2 hy.out).mono ?_
 rintro e Z ⟨rfl,X,H5⟩;have F:=zc (X.behind (zk Z (zP k N.gen)));have o:Below D.heap.size D Z:=zj hv.out (H5.below (B:=D.heap.size) hv.out.size (by have:=HN.out;rintro z (rfl | rfl) <;> omega)) (zg _);have H0:=zc (o.alloc o.size (zP k N.gen));have h4:=zc (Hx.new Z k N.gen);have U:Hid (D.heap.size<=Z.heap.size/\Z.heap.size≠v/\Z.heap.size≠u):=zc ⟨o.size,by have:=X.lt.2.1;omega,by have:=X.lt.2.2;omega⟩;obtain⟨w5,Y⟩:=zh (Z.alloc (zP k N.gen))
 obtain⟨xb,m⟩:=zh Z.heap.size
 rw[<-Y,<-m]at h4;rw[<-Y]at F H0;rw[<-m]at U;go_wp2_with fail;rw[show Z.alloc (Obj.cells #[Value.int IntKind.i64 k,Value.int IntKind.i64 N.gen] 78)=w5 from Y.symm,<-m];have h7:Hid (∃c q,(9:Nat)=9/\dep s.l c+1<=9/\Wk D w5 t a v u xb s.l c q/\zsj s.l c j=res):=zc ⟨k,N,rfl,by have:=M.out.zsT HK.out.1 HK.out.2;omega,⟨HK.out.1,HK.out.2,h4.out,F.out,⟨HN.out.1,HN.out.2.1,HN.out.2.2,U.out.1⟩,U.out.2⟩,H8.out.symm⟩;clear X H5 o Y m F h4 U hy HC
 go_loopg [10,11] 9 (fun n vx vi wr=>∃(xb:Nat) (is:Bool),vx=.pointer (some ⟨xb,0,none⟩)/\vi=.bool is/\Below D.heap.size D wr/\((is=true/\∃c q,dep s.l c+1<=n/\Wk D wr t a v u xb s.l c q/\zsj s.l c j=res)∨(is=false/\res=false)))
 case atStart=>
  obtain⟨c,q,_,h1,h2,h3⟩:=h7.out;exact⟨xb,true,rfl,rfl,H0.out,.inl ⟨rfl,c,q,h1,h2,h3⟩⟩
 case round=>
  obtain⟨xr,is,rfl,rfl,hh,Hb⟩:=hrel;have A:=zc hh;clear hh;rcases Hb with⟨rfl,c,q,hn,hw,hu⟩ | ⟨rfl,hr⟩
  ·have G:=zc hw;have HU:=zc hu;have H4:=zc hn;clear hw hu hn;have H3:=zc ((HT.out.behind I.out).behind A.out);have Q:=zc (P.out.behind A.out);obtain⟨x0,x1⟩:=G.out.x.c2;obtain⟨j0,y⟩:=Q.out.c2;by_cases C:c=j
   ·subst C;have hq:q=K:=by have h1:=G.out.at_;rw[HJ.out.1]at h1;cases h1;rfl
    subst hq;have hr:res=true:=by rw[<-HU.out];exact decide_eq_true (zmp M.out ⟨_,G.out.at_,G.out.usd⟩)
    subst hr;go_wp2;go_ret;exact⟨rfl,zj I.out A.out I.out.size⟩
   ·have Hc:((c:Int) == (j:Int))=false:=beq_eq_false_iff_ne.2 (by omega);have T:=zc C;clear C;clear x0 x1 j0 y Hc h7;by_cases J:c=0
    ·subst J;have hr:res=false:=by rw[<-HU.out,un];exact decide_eq_false (fun e=>T.out e.symm)
     have hI:=G.out.it.behind (zk wr (zP (0:Nat) q.gen));simp only[decide_true]at hI;have HI:=zc hI;have HR:=zc hr;clear hI hr;obtain⟨x0,x1⟩:=G.out.x.c2;obtain⟨j0,y⟩:=Q.out.c2;have hi:((0:Int) == (j:Int))=false:=beq_eq_false_iff_ne.2 (by have:=T.out;omega);go_wp2_with fail;refine(zms _ _ b _ base t p a v u s (H3.out.behind (zk wr _)) HO.out hb HI.out).mono ?_;rintro e w7 ⟨rfl,S⟩;have h0:=zc (zj (A.out.alloc A.out.size _) S (by have:=A.out.size;simp;omega));have E:=zc ((Hx.new wr _ _).behind S);clear S;obtain⟨r,H⟩:=zh wr.heap.size
     rw[<-H]at E ⊢;have hz:Hid (D.heap.size<=r):=zc (by rw[H];exact A.out.size);clear H;have xf:=E.out.zpe;have xl:=E.out.lt;obtain⟨c0,c1⟩:=E.out.c2;clear x0 x1 j0 y;go_wp2_with fail;go_roundg 0
     case measure=>have:=H4.out;omega
     case rel=>exact⟨r,false,rfl,rfl,(h0.out.setCell hz.out _).setCell hz.out _,.inr ⟨rfl,HR.out⟩⟩
    ·obtain⟨d,pd,hx,hl,h8,H2,hc,H7⟩:=M.out.zti G.out.at_ G.out.usd J;have hI:=G.out.it.behind (zk wr (zP c q.gen));rw[decide_eq_false J,h8,H2]at hI;have HI:=zc hI;have HD:=zc (And.intro hx hl);have Hf:=zc J;have HR:Hid (zsj s.l d j=res):=zc (by rw[<-HU.out,uo M.out ⟨q,G.out.at_,G.out.usd⟩ J,hc,decide_eq_false (fun e=>T.out e.symm),Bool.false_or])
     have Hd:Hid (dep s.l d+2<=gk):=zc (by have:=H4.out;omega);clear hI hx hl h8 H2 hc H7 J;obtain⟨x0,x1⟩:=G.out.x.c2;obtain⟨j0,y⟩:=Q.out.c2;have hi:((c:Int) == (j:Int))=false:=beq_eq_false_iff_ne.2 (by have:=T.out;omega);go_wp2_with fail;refine(zaM d pd false b _ base t p a v u s (H3.out.behind (zk wr _)) HO.out hb M.out HD.out.1 HD.out.2 HI.out).mono ?_;rintro e w7 ⟨rfl,hf,h5⟩;obtain⟨n0,n1,n2,n3⟩:=G.out.new;have H9:=G.out.it.lt;have L:Below D.heap.size D (wr.alloc (zP c q.gen)):=A.out.alloc A.out.size _;have h0:=zc (zj L (h5.below (B:=D.heap.size) L.size (by rintro z (rfl | rfl) <;> omega)) (zg _))
     have E:=zc ((Hx.new wr c q.gen).zpW h5 (by rintro(e | e) <;> omega));have Ha:=zc hf;have ht:Hid (wr.heap.size≠a/\wr.heap.size≠v/\wr.heap.size≠u/\D.heap.size<=wr.heap.size):=zc (by have:=A.out.size;omega);clear L h5 hf n0 n1 n2 n3 H9;obtain⟨r,H⟩:=zh wr.heap.size
     rw[<-H]at E ht ⊢;clear H;have xf:=E.out.zpe;have xl:=E.out.lt;obtain⟨c0,c1⟩:=E.out.c2;clear x0 x1 j0 y hi;go_wp2_with fail;go_roundg (dep s.l d+1)
     case measure=>have:=Hd.out;omega
     case rel=>
      obtain⟨n0,n1,n2,n3⟩:=G.out.new;obtain⟨m0,m1,m2,m3⟩:=ht.out;exact⟨r,true,rfl,rfl,(h0.out.setCell m3 _).setCell m3 _,.inl ⟨rfl,d,pd,zg _,⟨HD.out.1,HD.out.2,(E.out.zsD _).zsR _,(Ha.out.zpP m0 m1 m2).zpP m0 m1 m2,⟨n0,n1,n2,m3⟩,⟨m1,m2⟩⟩,HR.out⟩⟩
  ·subst hr;go_wp2;go_ret;exact⟨rfl,zj I.out A.out I.out.size⟩
theorem zku(i g D E:Int)(w:World)(G:Option Addr)(H:∀W,Below w.heap.size w W->Calls prog 64 #[.pointer G,.agg #[.int .i64 D,.int .i64 E]] W fun e w'=>e=.returned (.tuple #[.agg (zO .zero),.int .i64 2])/\Below W.heap.size W w'):
 Calls prog 38 #[.pointer G,.agg #[.int .i64 i,.int .i64 g],.agg #[.int .i64 D,.int .i64 E]] w fun e w'=>e=.returned (.bool false)/\Below w.heap.size w w':=by
 have J:=zc (H ((w.alloc (zP i g)).alloc (zP D E)) ((zk w _).alloc (by simp) _));clear H;go_enter func38,ntmps38;go_wp2_with fail;refine J.out.mono ?_;rintro e I ⟨rfl,A⟩;have B:Hid (Below w.heap.size w I):=zc (zj ((zk w _).alloc (by simp) _) A (by simp;omega));clear A;go_wp2_with fail;go_ret;exact⟨rfl,B.out.alloc B.out.size _⟩
theorem zkv(i g:Int)(j:Nat)(J:Pl)(b:Nat)(w:World)(base t p:Nat)(s:Ps)(h:zqn w base t p s)(c:s.Ok 32 b)(hb:b<=1000)
 (f:s.find i g=none) (m:s.l[j]?=some J) (U:J.used=true):
 Calls prog 38 #[.pointer (some ⟨t,0,none⟩),.agg #[.int .i64 i,.int .i64 g],.agg #[.int .i64 j,.int .i64 J.gen]] w fun e w'=>e=.returned (.bool false)/\Below w.heap.size w w':=by
 have F:=zc (qX j J b ((w.alloc (zP i g)).alloc (zP j J.gen)) base t p s ((h.alloc _).alloc _) c hb m U);have HT:=zc h;have K:=zc c;have k:=zc f;clear h c f m U;go_enter func38,ntmps38;go_wp2_with fail;refine F.out.mono ?_;rintro e M ⟨rfl,B⟩;have H:Hid (Below w.heap.size w M):=zc (zj ((zk w _).alloc (by simp) _) B (by simp;omega));have E:Hid (Hx M w.heap.size i g):=zc (((Hx.new w _ _).alloc _).behind B);have O:Hid (Hx M (w.heap.size+1) j J.gen):=zc ((Hx.zrR w _ _ _).behind B);obtain⟨q,G⟩:=zh w.heap.size
 obtain⟨o,D⟩:=zh (w.heap.size+1)
 rw[<-D,<-G];rw[<-D]at O;rw[<-G]at E;clear B G D;obtain⟨P,u⟩:=O.out.c2;obtain⟨y,r⟩:=E.out.c2;have S:=E.out.lt;go_wp2_with fail;refine(zfy _ _ _ _).mono ?_;rintro e v ⟨a,C,z,rfl,L,X,V⟩;have A:Below M.heap.size M v:=zj (zk M _) V (by simp);have Y:=zc X;have Z:=zc ((HT.out.behind H.out).behind A);have N:=zc (zj H.out A H.out.size);clear V A L X P u y r S;go_wp2_with fail;refine(zmr i g .zero _ a C z (some ⟨t,0,none⟩) Y.out (fun W x=>by have:=vR i g b W base t p s (Z.out.behind x) K.out hb;rwa[(qN k.out).1,(qN k.out).2]at this)).mono ?_
 rintro e w4 ⟨rfl,R⟩;have I:=zc (zj N.out R N.out.size);have hz:=I.out.size;clear R;go_wp2_with fail;go_loopg [10,11] 1 (fun n vx Q wr=>Q=.bool false/\Below w.heap.size w wr)
 case atStart=>exact⟨rfl,I.out.alloc I.out.size _⟩
 case round=>
  obtain⟨rfl,T⟩:=hrel;have d:=zc T;clear T;go_wp2;go_ret;exact⟨rfl,d.out⟩
theorem zkw(i g D B:Int)(b:Nat)(w:World)(base t p:Nat)(s:Ps)(h:zqn w base t p s)(I:s.Ok 32 b)(hb:b<=1000)(J:Tr s.l):
 Calls prog 38 #[.pointer (some ⟨t,0,none⟩),.agg #[.int .i64 i,.int .i64 g],.agg #[.int .i64 D,.int .i64 B]] w fun e w'=>e=.returned (.bool (znN s i g D B))/\Below w.heap.size w w':=by
 unfold znN;cases hj:s.find D B with
 | none=>
  exact zku i g D B w _ (fun W O=>by have:=vR D B b W base t p s (h.behind O) I hb;rwa[(qN hj).1,(qN hj).2]at this)
 | some j=>
  obtain⟨M,rfl,A,E,rfl,_⟩:=ut hj;cases hk:s.find i g with
  | none=>exact zkv i g j M b w base t p s h I hb hk A E
  | some k=>
   obtain⟨N,rfl,H,G,rfl,_⟩:=ut hk;exact zkt k j N M b w base t p s h I hb J H G A E
theorem vq{w w':World}{G:Value}{A:Nat}{e:TypeId}{size n:Nat}{xs:List Value}(I:w.grownBy w' G.ownBlock)(J:w.ownsRow A e size G n xs){k:Nat}{cs:Array Value}{t:TypeId}{fr:Nat×Nat}(B:w.heap[k]?=some (.cells cs t fr))(H:t≠e):w'.heap[k]?=some (.cells cs t fr):=by
 rw[I.block k (zd B).1 ?_]
 ·exact B
 ·intro D;rcases J.2 with⟨rfl,_⟩ | ⟨g,cap,cur,rfl,_,E,_⟩
  ·simp[Value.ownBlock]at D
  ·simp[Value.ownBlock]at D;subst D;rw[B]at E;simp only[Option.some.injEq,Obj.cells.injEq]at E;exact H E.2.1
theorem zqK.grown{w w':World}{a hb G:Nat}{E:Option Addr}{i g:Int}{over:Bool}(h:zqK w a hb G E i g over){H:Value}{A:Nat}{e:TypeId}{size n:Nat}{xs:List Value}(B:w.grownBy w' H.ownBlock)(D:w.ownsRow A e size H n xs)(J:55≠e)(I:78≠e)(M:4≠e):zqK w' a hb G E i g over:=
 ⟨vq B D h.ta J,vq B D h.hx I,vq B D h.ox M⟩
theorem zgI{F:Nat->Prop}{w w':World}{base:Nat}{e:TypeId}{size:Nat}{v:Value}{n:Nat}{xs:List Value}(h:w.ownsRow base e size v n xs)(E:zo8 F w w')(H:∀k,F k->∃cs t fr,w.heap[k]?=some (.cells cs t fr)/\t≠e):w'.ownsRow base e size v n xs:=by
 refine⟨h.1,?_⟩;rcases h.2 with M | ⟨g,cap,cur,N,B,A,J⟩
 ·exact .inl M
 ·refine .inr ⟨g,cap,cur,N,B,?_,J⟩;rw[E.block g (zd A).1 ?_]
  ·exact A
  ·intro I;obtain⟨cs,t,fr,G,D⟩:=H g I;rw[G]at A;simp only[Option.some.injEq,Obj.cells.injEq]at A;exact D A.2.1
theorem zqK.types{w:World}{a hb A:Nat}{B:Option Addr}{i g:Int}{over:Bool}(h:zqK w a hb A B i g over)(e:TypeId)(D:78≠e)(E:4≠e):∀k,(k=hb∨k=A)->∃cs t fr,w.heap[k]?=some (.cells cs t fr)/\t≠e:=by
 rintro k (rfl | rfl)
 ·exact⟨_,_,_,h.hx,D⟩
 ·exact⟨_,_,_,h.ox,E⟩
def zs(l:List Nat):List Int:=l.map (fun n:Nat=>(n:Int))
theorem zkx(l:List Nat):(zs l).length=l.length:=by simp[zs]
theorem zmt(k:Nat)(I:Pl)(b:Nat)(w:World)(base t p:Nat)(s:Ps)(h:zqn w base t p s)(ho:s.Ok 32 b)(hb:b<=1000)(hc:Tr s.l)
 (hk:s.l[k]?=some I) (S:I.used=true):
 Calls prog 149 #[.pointer (some ⟨t,0,none⟩),.agg #[.int .i64 k,.int .i64 I.gen]] w fun e w'=>∃a c,e=.returned (.tuple #[.slice a (zqT s.l k).length c,.int .i64 0])/\w'.ownsRow w.heap.size 3 1 (.slice a (zqT s.l k).length c) (zqT s.l k).length (iv (zs (zqT s.l k)))/\Below w.heap.size w w':=by
 obtain⟨i0,hi,hv,Hc,H4⟩:=info_parts zj3;have HC:=zc (qX k I b (w.alloc (zP k I.gen)) base t p s (h.alloc _) ho hb hk S);have HT:=zc h;have HO:=zc ho;have T:=zc hc;have HK:=zc (And.intro hk S);obtain⟨P,hP⟩:=zh (zqT s.l k)
 rw[<-hP];have HP:=zc hP;clear h ho hc hk S hP;go_enter func149,ntmps149;go_wp2_with fail;refine HC.out.mono ?_;rintro e A ⟨rfl,h1⟩;have E:Hid (Below w.heap.size w A):=zc (zj (zk w _) h1 (by simp));have h0:Hid (Hx A w.heap.size k I.gen):=zc ((Hx.new w _ _).behind h1);obtain⟨kb,V⟩:=zh w.heap.size
 rw[<-V];rw[<-V]at h0;have Hw:=zc V;clear h1 V;obtain⟨k0,k1⟩:=h0.out.c2;have kl:=h0.out.lt;go_wp2_with fail;refine(zfy _ _ _ _).mono ?_;rintro e w3 ⟨a,y,v,rfl,hn,He,hf⟩;have O:Below A.heap.size A w3:=zj (zk A _) hf (by simp);have HN:Hid (A.heap.size<=a/\A.heap.size<=y/\A.heap.size<=v):=zc (by simp at hn;omega);have H9:=zc He;have Ht:=zc ((HT.out.behind E.out).behind O);have H7:=zc O;clear hf O hn He k0 k1 kl;go_wp2_with fail;refine(zaM k I false b _ base t p a y v s Ht.out HO.out hb T.out HK.out.1 HK.out.2 H9.out).mono ?_;rintro e f ⟨rfl,X,Hd⟩
 have K:=zc (X.behind (zk f (zP k I.gen)));have r:Below A.heap.size A f:=zj H7.out (Hd.below (B:=A.heap.size) H7.out.size (by have:=HN.out;rintro z (rfl | rfl) <;> omega)) (zg _);have h2:=zc (r.alloc r.size (zP k I.gen));have h3:=zc (Hx.new f k I.gen);have U:Hid (A.heap.size<=f.heap.size/\f.heap.size≠y/\f.heap.size≠v):=zc ⟨r.size,by have:=X.lt.2.1;omega,by have:=X.lt.2.2;omega⟩;obtain⟨w5,Z⟩:=zh (f.alloc (zP k I.gen))
 obtain⟨xb,j⟩:=zh f.heap.size
 rw[<-Z,<-j]at h3;rw[<-Z]at K h2;rw[<-j]at U;go_wp2_with fail;rw[show f.alloc (Obj.cells #[Value.int IntKind.i64 k,Value.int IntKind.i64 I.gen] 78)=w5 from Z.symm,<-j];have hh:Hid (Wk A w5 t a y v xb s.l k I):=zc ⟨HK.out.1,HK.out.2,h3.out,K.out,⟨HN.out.1,HN.out.2.1,HN.out.2.2,U.out.1⟩,U.out.2⟩;clear X Hd r Z j K h3 U H9 HC
 go_loopg [8,10,11] 9 (fun n vl vx vi wr=>∃(xb c m:Nat) (q:Pl) (acc:List Nat) (ar:Option Addr) (cr:Nat),vl=.slice ar m cr/\vx=.pointer (some ⟨xb,0,none⟩)/\vi=.bool true/\m=acc.length/\m+n<=9/\dep s.l c+1<=n/\Below A.heap.size A wr/\Wk A wr t a y v xb s.l c q/\zqT s.l k=zqT s.l c++acc.reverse/\wr.ownsRow A.heap.size 3 1 (.slice ar m cr) m (iv (zs acc)))
 case atStart=>exact⟨xb,k,0,I,[],none,0,rfl,rfl,rfl,rfl,by omega,by have:=T.out.zsT HK.out.1 HK.out.2;omega,h2.out,hh.out,by simp,World.ownsRow_nil _ _ _ _⟩
 case round=>
  obtain⟨xr,c,m,q,acc,ar,cr,rfl,rfl,rfl,hm,Hv,hn,hy,hw,hp,C⟩:=hrel;have N:=zc hy;have Y:=zc hw;have H3:=zc hp;have F:=zc C;have HM:=zc hm;have Hr:=zc hn;clear hy hw hp C hm hn hh h2;have Hy:=zc ((HT.out.behind E.out).behind N.out);obtain⟨x0,x1⟩:=Y.out.x.c2;by_cases R:c=0
  ·subst R;have h5:Hid (P=acc.reverse):=zc (by rw[HP.out,H3.out,uq,List.nil_append]);clear hi hv Hc H4;by_cases Hn:m=0
   ·subst Hn;go_wp2_with fail;refine(zgH _ _ _).mono ?_;rintro e H ⟨rfl,rfl⟩;go_wp2;go_ret2;have Hg:P= []:=by rw[h5.out];have:acc= []:=List.eq_nil_of_length_eq_zero HM.out.symm;rw[this];rfl
    rw[Hg];have hr:=F.out;have ha:acc= []:=List.eq_nil_of_length_eq_zero HM.out.symm;rw[ha]at hr;exact⟨ar,cr,rfl,zaf hr E.out.size,zj E.out N.out E.out.size⟩
   ·obtain⟨g,hg⟩:=zkr F.out (by omega);subst hg;go_wp2_with fail;refine(zgG A.heap.size g m cr (zs acc) wr F.out (by rw[zkx];exact HM.out) (by omega)).mono ?_;rintro e H ⟨rfl,ht,h9⟩;have L:=zc ht;have J:=zc (zj E.out (zj N.out (h9.below (B:=A.heap.size) N.out.size (by rintro z rfl;exact(F.out.lt z rfl).1)) (zg _)) E.out.size);clear ht h9;go_wp2;go_ret2;have hz:zs P=(zs acc).reverse:=by rw[h5.out];simp[zs]
    have hl:P.length=m:=by rw[h5.out,List.length_reverse];exact HM.out.symm
    rw[hz,hl];exact⟨_,cr,rfl,zaf L.out E.out.size,J.out⟩
  ·obtain⟨d,pd,H8,H5,h8,Hb,hj,Hh⟩:=T.out.zti Y.out.at_ Y.out.usd R;have hI:=Y.out.it;rw[decide_eq_false R,h8,Hb]at hI;have HI:=zc hI;have HD:=zc (And.intro H8 H5);have Hq:Hid (zqT s.l k=zqT s.l d++(acc++ [c]).reverse):=zc (by rw[H3.out,ur T.out ⟨q,Y.out.at_,Y.out.usd⟩ R,hj];simp);have h6:Hid (dep s.l d+2<=gk):=zc (by have:=Hr.out;omega);have Hk:((c:Int) != 0)=true:=by simp;omega
   have Hu:m<=7:=by have:=h6.out;omega
   clear hI H8 H5 h8 Hb hj Hh R;have Ha:=N.out.size;go_wp2_with (at_builtin;go_loud (refine wpList_append_own _ rfl _ _ 43 rfl A.heap.size 3 i0 (.int .i64 0) 1 8 underlying43 hi hv Hc H4 rfl (by decide) _ m (iv (zs acc)) rfl (F.out.alloc _) ⟨wr.heap.size,0,none⟩ 1 1 [.int .i64 c] rfl rfl ?c1 ?c2 ?c3 ?c4 ?c5 ?_))
   case c1=>
    intro jj u h4;have Hi:jj=0:=by have:=(ze h4).1;simp at this;omega
    subst Hi;simp at h4;subst h4;simp[go_sem]
   case c2=>intro u hu;simp at hu;subst hu;rfl
   case c3=>unfold maxLen;omega
   case c4=>omega
   case c5=>simp;omega
   intro v6 H G D _;have L:Hid (H.ownsRow A.heap.size 3 1 v6 (m+1) (iv (zs (acc++ [c])))):=zc (by
    have e:iv (zs acc)++ [Value.int .i64 (c:Int)]=iv (zs (acc++ [c])):=by simp[iv,zs]
    rw[<-e];exact G)
   have J:=zc (Below.grown (N.out.alloc Ha (.cells #[.int .i64 c] 3)) D (by simp;omega) (fun kk Hf=>(F.out.lt kk Hf).1));have Ho:Hid (Hx H xr c q.gen):=zc (vq D (F.out.alloc _) (Y.out.x.alloc _) (by decide));have W:Hid (zqK H a y v (some ⟨t,0,none⟩) d pd.gen false):=zc (zqK.grown (HI.out.behind (zk wr _)) D (F.out.alloc _) (by decide) (by decide) (by decide));have Hs:=zc ((HT.out.behind E.out).behind J.out);obtain⟨a6,c6,rfl⟩:=zmo G;clear G D x0 x1 Hk Ha;obtain⟨x0,x1⟩:=Ho.out.c2;go_wp2_with fail
   refine(zaM d pd false b _ base t p a y v s (Hs.out.behind (zk H _)) HO.out hb T.out HD.out.1 HD.out.2 (W.out.behind (zk H (zP c q.gen)))).mono ?_;rintro e w7 ⟨rfl,hq,o⟩;obtain⟨n0,n1,n2,n3⟩:=Y.out.new;have Hj:=W.out.lt;have Q:Below A.heap.size A (H.alloc (zP c q.gen)):=J.out.alloc J.out.size _;have Hp:=zc (zj Q (o.below (B:=A.heap.size) Q.size (by rintro z (rfl | rfl) <;> omega)) (zg _));have M:=zc ((Hx.new H c q.gen).zpW o (by rintro(e | e) <;> omega))
   have H0:=zc (zgI (L.out.alloc (zP c q.gen)) o ((W.out.behind (zk H (zP c q.gen))).types 3 (by decide) (by decide)));have Hl:=zc hq;have H6:Hid (H.heap.size≠a/\H.heap.size≠y/\H.heap.size≠v/\A.heap.size<=H.heap.size):=zc (by have:=J.out.size;omega);clear Q o hq n0 n1 n2 n3 Hj;obtain⟨xn,H2⟩:=zh H.heap.size
   rw[<-H2]at M H6 ⊢;clear H2;have xf:=M.out.zpe;have xl:=M.out.lt;obtain⟨c0,c1⟩:=M.out.c2;clear x0 x1;go_wp2_with fail;go_roundg (dep s.l d+1)
   case measure=>have:=h6.out;omega
   case rel=>
    obtain⟨n0,n1,n2,n3⟩:=Y.out.new;obtain⟨m0,m1,m2,m3⟩:=H6.out;have hx:=M.out;have h7:(Value.slice a6 (m+1) c6).ownBlock≠some xn:=zoA H0.out hx (by decide);exact⟨xn,d,m+1,pd,acc++ [c],a6,c6,rfl,rfl,rfl,by rw[List.length_append,<-HM.out];rfl,by have:=h6.out;omega,zg _,(Hp.out.setCell m3 _).setCell m3 _,⟨HD.out.1,HD.out.2,(M.out.zsD _).zsR _,(Hl.out.zpP m0 m1 m2).zpP m0 m1 m2,⟨n0,n1,n2,m3⟩,⟨m1,m2⟩⟩,Hq.out,zbY (zbY H0.out h7) h7⟩
theorem zmu(i g:Int)(w:World)(D:Option Addr)(E:∀W,Below w.heap.size w W->Calls prog 64 #[.pointer D,.agg #[.int .i64 i,.int .i64 g]] W fun e w'=>e=.returned (.tuple #[.agg (zO .zero),.int .i64 2])/\Below W.heap.size W w'):
 Calls prog 149 #[.pointer D,.agg #[.int .i64 i,.int .i64 g]] w fun e w'=>e=.returned (.tuple #[.slice none 0 0,.int .i64 2])/\Below w.heap.size w w':=by
 have H:=zc (E (w.alloc (zP i g)) (zk w _));clear E;go_enter func149,ntmps149;go_wp2_with fail;refine H.out.mono ?_;rintro e G ⟨rfl,A⟩;have B:Hid (Below w.heap.size w G):=zc (zj (zk w _) A (by simp));clear A;go_wp2;go_ret2;exact⟨rfl,B.out.alloc B.out.size _⟩
def zdt(s:Ps)(i g:Int):List Nat:=match s.find i g with
 | none=> []
 | some k=>zqT s.l k
theorem zmv(i g:Int)(b:Nat)(w:World)(base t p:Nat)(s:Ps)(h:zqn w base t p s)(E:s.Ok 32 b)(hb:b<=1000)(D:Tr s.l):
 Calls prog 149 #[.pointer (some ⟨t,0,none⟩),.agg #[.int .i64 i,.int .i64 g]] w fun e w'=>∃a c,e=.returned (.tuple #[.slice a (zdt s i g).length c,.int .i64 (s.zqO i g)])/\w'.ownsRow w.heap.size 3 1 (.slice a (zdt s i g).length c) (zdt s i g).length (iv (zs (zdt s i g)))/\Below w.heap.size w w':=by
 unfold zdt;cases hk:s.find i g with
 | none=>
  refine(zmu i g w _ (fun W H=>?_)).mono ?_
  ·have:=vR i g b W base t p s (h.behind H) E hb;rwa[(qN hk).1,(qN hk).2]at this
  ·rintro e w' ⟨rfl,I⟩;rw[(qN hk).2];exact⟨none,0,rfl,World.ownsRow_nil _ _ _ _,I⟩
 | some k=>
  obtain⟨G,rfl,B,A,rfl,_,J⟩:=ut hk;rw[J];exact zmt k G b w base t p s h E hb D B A
theorem Hx.step{w w':World}{base p k:Nat}{i g:Int}(h:Hx w k i g)(hs:zpa base p w w')(hp:k≠p):Hx w' k i g:=hs.same h hp (by decide)
theorem Gx.step{w w':World}{base p k:Nat}{x:zrf}(h:Gx w k x)(hs:zpa base p w w')(hp:k≠p):Gx w' k x:=hs.same h hp (by decide)
theorem zpa.set{w w':World}{base p y o:Nat}{u:Value}(h:zpa base p w w')(hb:base<=w.heap.size)(A:w.heap.size<=y):zpa base p w (w'.setCell ⟨y,o,none⟩ u):=
 ⟨h.zpW.setCell (.inr A) _,h.below.setCell (by show base<=y;omega) _,fun hp z D B=>h.row hp z D (B.same (Below.heap_setCell _ _ _ _ (by exact fun e=>by have:p=y:=e;omega)))⟩
theorem zqn.zpP{w:World}{base t p:Nat}{s:Ps}(h:zqn w base t p s){y:Nat}{cs:Array Value}{ty:TypeId}{fr:Nat×Nat}(A:w.heap[y]?=some (.cells cs ty fr))(H:ty≠144)(G:ty≠209)(I:ty≠211)(o:Nat)(u:Value):zqn (w.setCell ⟨y,o,none⟩ u) base t p s:=by
 obtain⟨v,hp⟩:=h.has;have D:t≠y:=by rintro rfl;rw[h.tb]at A;simp only[Option.some.injEq,Obj.cells.injEq]at A;exact H A.2.1.symm
 have hyp:y≠p:=by rintro rfl;rw[hp.zp5]at A;simp only[Option.some.injEq,Obj.cells.injEq]at A;exact G A.2.1.symm
 refine⟨by rw[Below.heap_setCell _ _ _ _ (by exact D)];exact h.tb,⟨v,hp.zpP hyp ?_⟩,h.lo⟩;rcases hp.own.2 with⟨rfl,_⟩ | ⟨g,cap,cur,rfl,_,B,_⟩
 ·simp[Value.ownBlock]
 ·intro E;simp[Value.ownBlock]at E;subst E;rw[A]at B;simp only[Option.some.injEq,Obj.cells.injEq]at B;exact I B.2.1
theorem zqn.farH{w:World}{base t p:Nat}{s:Ps}(h:zqn w base t p s){y:Nat}{i g:Int}(A:Hx w y i g)(o:Nat)(u:Value):zqn (w.setCell ⟨y,o,none⟩ u) base t p s:=h.zpP A (by decide) (by decide) (by decide) o u
theorem zmw(w:World):
 Calls prog 33 #[] w fun e w'=>∃t p,e=.returned (.pointer (some ⟨t,0,none⟩))/\zqn w' w.heap.size t p zsJ/\Below w.heap.size w w':=by
 have G:=zc (zm.made w 32 w.heap.size (zg _));go_enter func33,ntmps33;go_wp2_with fail;refine(zq8 32 w (by omega)).mono ?_;rintro e w1 ⟨rfl,rfl⟩;go_wp2_with fail;refine(zrw ⟨-1,0,0,0⟩ 0 _ w.heap.size w.heap.size 32 ⟨[],-1,[],0⟩ ⟨_,G.out⟩ (Ps.Ok.start 32 (by omega)) (by omega) (by simp)).mono ?_;rintro e E ⟨rfl,D,B⟩;rw[zjF]at D;go_wp2;go_ret;have H:=B.zpW.size;simp at H;have A:=(zk w (.cells #[.int .i64 32,.int .i64 0,.slice none 0 0,.int .i64 (-1)] 209)).trans B.below;exact⟨E.heap.size,w.heap.size,rfl,⟨heap_alloc_new E _,D.behind (zk E _),by omega⟩,A.alloc A.size _⟩
theorem zij(i g:Int)(w:World)(H:Option Addr)(J:∀W,Below w.heap.size w W->Calls prog 64 #[.pointer H,.agg #[.int .i64 i,.int .i64 g]] W fun e w'=>e=.returned (.tuple #[.agg (zO .zero),.int .i64 2])/\Below W.heap.size W w'):
 Calls prog 72 #[.pointer H,.agg #[.int .i64 i,.int .i64 g]] w fun e w'=>e=.returned (.tuple #[.agg #[.int .i64 0,.int .i64 0],.int .i64 2])/\Below w.heap.size w w':=by
 have O:=zc (J ((w.alloc (zP i g)).alloc (zP 0 0)) (((Below.refl _ w).alloc (zg _) _).alloc (by simp) _));clear J;go_enter func72,ntmps72;go_wp2_with fail;refine O.out.mono ?_;rintro e I ⟨rfl,A⟩;have E:Below w.heap.size w I:=zj (((Below.refl _ w).alloc (zg _) (zP i g)).alloc (by simp) (zP 0 0)) A (by simp;omega);have B:Hx I (w.heap.size+1) 0 0:=(Hx.zrR w (zP i g) 0 0).behind A;obtain⟨y,G⟩:=zh (w.heap.size+1)
 rw[<-G]at B ⊢;have D:=zc E;have M:=zc G;clear E A G;obtain⟨T,N⟩:=B.c2;have yf:=B.zpe;have R:=B.lt;clear B;go_wp2;refine bodyPost_ret (v:=.tuple #[.agg #[.int .i64 0,.int .i64 0],.int .i64 2]) (by simp[results,results72,go_sem,T,N,R]) rfl ⟨rfl,?_⟩;exact((D.out.setCell (by show w.heap.size<=y;rw[M.out];omega) _).setCell (by show w.heap.size<=y;rw[M.out];omega) _).alloc (by have:=D.out.size;simpa using this) _
theorem zgJ(k:Nat)(q:Pl)(b:Nat)(w:World)(base t p:Nat)(s:Ps)(h:zqn w base t p s)(O:s.Ok 32 b)(hb:b<=1000)(N:s.l[k]?=some q)(B:q.used=true)(hd:q.x.dp=8):
 Calls prog 72 #[.pointer (some ⟨t,0,none⟩),.agg #[.int .i64 k,.int .i64 q.gen]] w fun e w'=>e=.returned (.tuple #[.agg #[.int .i64 0,.int .i64 0],.int .i64 5])/\Below w.heap.size w w':=by
 have I:=zc (qX k q b ((w.alloc (zP k q.gen)).alloc (zP 0 0)) base t p s ((h.alloc _).alloc _) O hb N B);obtain⟨g,M⟩:=zh q.gen
 rw[<-M]at I ⊢;generalize q.x=x at I hd;obtain⟨x0,x1,x2,U⟩:=x;have H:U=8:=hd;subst H;clear hd h O N B M;go_enter func72,ntmps72;go_wp2_with fail;refine I.out.mono ?_;rintro e R ⟨rfl,A⟩;have G:Below w.heap.size w R:=zj (((Below.refl _ w).alloc (zg _) (zP k g)).alloc (by simp) (zP 0 0)) A (by simp;omega);have D:Hx R (w.heap.size+1) 0 0:=(Hx.zrR w (zP k g) 0 0).behind A;obtain⟨y,J⟩:=zh (w.heap.size+1)
 rw[<-J]at D ⊢;have E:=zc G;have T:=zc J;clear G A J;obtain⟨Y,V⟩:=D.c2;have yf:=D.zpe;have X:=D.lt;clear D;go_wp2;refine bodyPost_ret (v:=.tuple #[.agg #[.int .i64 0,.int .i64 0],.int .i64 5]) (by simp[results,results72,go_sem,Y,V,X]) rfl ⟨rfl,?_⟩;exact((E.out.setCell (by show w.heap.size<=y;rw[T.out];omega) _).setCell (by show w.heap.size<=y;rw[T.out];omega) _).alloc (by have:=E.out.size;simpa using this) _
theorem zik(k:Nat)(q:Pl)(b:Nat)(w:World)(base t p:Nat)(s:Ps)(h:zqn w base t p s)(Q:s.Ok 32 b)(hb:b<=1000)(d:Tr s.l)(hk:s.l[k]?=some q)(V:q.used=true)(hd:q.x.dp≠8):
 Calls prog 72 #[.pointer (some ⟨t,0,none⟩),.agg #[.int .i64 k,.int .i64 q.gen]] w fun e w'=>e=.returned (.tuple #[.agg #[.int .i64 (s.zp8 32:Nat),.int .i64 (s.zqC 32)],.int .i64 (s.zqe 32)])/\zqn w' base t p (s.put 32 ⟨k,k,q.gen,q.x.dp+1⟩)/\zpa base p w w':=by
 have HC:=zc (qX k q b ((w.alloc (zP k q.gen)).alloc (zP 0 0)) base t p s ((h.alloc _).alloc _) Q hb hk V);have m:=zc h;have HO:=zc Q;have I:=d.dp hk V;obtain⟨g,hg⟩:=zh q.gen
 rw[<-hg]at HC ⊢;generalize q.x=x at HC hd I ⊢;obtain⟨c,a,U,A⟩:=x;have h9:(A == 8)=false:=beq_eq_false_iff_ne.2 hd;have h0:0<=A/\A<=8:=⟨I.1,I.2.1⟩
 clear hd h Q hk V hg d I;simp only;have J:=zc (fun(W:World) (hW:zqn W base t p s)=>zrw ⟨k,k,g,A+1⟩ b W base p 32 s hW.has HO.out hb hW.zqb);generalize s.zp8 32=pi at J ⊢;generalize s.zqC 32=pg at J ⊢;generalize s.zqe 32=pe at J ⊢;have hc:=zc h0;go_enter func72,ntmps72;go_wp2_with fail;refine HC.out.mono ?_;rintro e T ⟨rfl,E⟩;go_upto_region 6 with(fail)
 have N:Below w.heap.size w T:=zj (((Below.refl _ w).alloc (zg _) (zP k g)).alloc (by simp) (zP 0 0)) E (by simp;omega);have O:Below w.heap.size w (T.alloc (zbH ⟨c,a,U,A⟩)):=N.alloc N.size _;have K:Hx (T.alloc (zbH ⟨c,a,U,A⟩)) w.heap.size k g:=(((Hx.new w k g).alloc _).behind E).alloc _;have C:Hx (T.alloc (zbH ⟨c,a,U,A⟩)) (w.heap.size+1) 0 0:=((Hx.zrR w (zP k g) 0 0).behind E).alloc _;have r:=Gx.new T ⟨c,a,U,A⟩;obtain⟨B,X⟩:=zh (T.alloc (zbH ⟨c,a,U,A⟩))
 obtain⟨z,P⟩:=zh w.heap.size
 obtain⟨y,F⟩:=zh (w.heap.size+1)
 obtain⟨u,hu⟩:=zh T.heap.size
 rw[show T.alloc (Obj.cells #[Value.int IntKind.i64 a,Value.int IntKind.i64 U,Value.int IntKind.i64 A] 130)=B from X.symm];rw[<-X]at O K C r;rw[<-F,<-P,<-hu];rw[<-P]at K;rw[<-F]at C;rw[<-hu]at r;have h3:=m.out.has.lt;have h7:=m.out.lt;have h6:=N.size;have nz:¬z=p:=by omega
 have ny:¬y=p:=by omega
 have nu:¬u=p:=by omega
 have H:¬y=z:=by omega
 have n:¬y=u:=by have:=E.size;simp at this;omega
 have f:¬y=t:=by omega
 have h2:=zc (And.intro nz (And.intro ny nu));have h4:=zc O;have HZ:=zc K;have HY:=zc C;have HU:=zc r;have Hy:=zc F;have D:Hid (zqn B.drew base t p s):=zc ((m.out.behind O).behind (zv (Below.refl _ B)));clear E X P F hu O K C r N h3 h7 h6 nz ny nu;obtain⟨z0,z1⟩:=HZ.out.c2;obtain⟨u0,u1,u2⟩:=HU.out.c3;have ha:IntKind.i64.wrap (A+1)=A+1:=IntWalk.i64_in _ (by omega);have tc:B.cell? ⟨t,0,none⟩=some (.pointer (some ⟨p,0,none⟩)):=D.out.cell;have j:=zc (J.out B.drew D.out)
 have HS:=zc (fun(R:World) (hs:zpa base p B.drew R)=>show((R.cell? ⟨t,0,none⟩=some (.pointer (some ⟨p,0,none⟩))/\R.cell? ⟨z,0,none⟩=some (.int .i64 k)/\R.cell? ⟨z,1,none⟩=some (.int .i64 g)/\R.cell? ⟨u,2,none⟩=some (.int .i64 A))/\Hx R y 0 0)from by obtain⟨n1,n2,n3⟩:=h2.out;have o:=Hx.step (w:=B.drew) HZ.out.drew hs n1;have h5:=Gx.step (w:=B.drew) (x:=⟨c,a,U,A⟩) HU.out hs n3;have L:=Hx.step (w:=B.drew) HY.out.drew hs n2;have h8:R.heap[t]?=_:=hs.same D.out.tb D.out.ne (by decide);exact⟨⟨by simp[World.cell?,h8],o.c2.1,o.c2.2,h5.c3.2.2⟩,L⟩)
 go_region_held3 (fun w'=>w'.cell? ⟨t,0,none⟩=some (.pointer (some ⟨p,0,none⟩))/\w'.cell? ⟨z,0,none⟩=some (.int .i64 k)/\w'.cell? ⟨z,1,none⟩=some (.int .i64 g)/\w'.cell? ⟨u,2,none⟩=some (.int .i64 A))
  (first | exact⟨tc,z0,z1,u2⟩ | assumption | (refine⟨?_,?_,?_,?_⟩;(rw[yd _ _ _ _ _ _ f,yd _ _ _ _ _ _ f];exact G.1);(rw[yd _ _ _ _ _ _ H,yd _ _ _ _ _ _ H];exact G.2.1);(rw[yd _ _ _ _ _ _ H,yd _ _ _ _ _ _ H];exact G.2.2.1);(rw[yd _ _ _ _ _ _ n,yd _ _ _ _ _ _ n];exact G.2.2.2)))
  (first | (go_at_call 68;refine j.out.mono ?_;rintro e R ⟨rfl,S,Z⟩;obtain⟨G,M⟩:=HS.out R Z;obtain⟨y0,y1⟩:=M.c2;have yf:=M.zpe))
 clear G;go_wp2;refine bodyPost_ret (v:=.tuple #[.agg #[.int .i64 (pi:Nat),.int .i64 pg],.int .i64 pe]) (by simp[results,results72,go_sem,y0,y1]) rfl ⟨rfl,?_,?_⟩
 ·exact((D.out.step Z S).farH M _ _).farH (M.zsD _) _ _
 ·have Y:=m.out.zqb;have h1:zpa base p w B.drew:=zpa.zo7 (zv h4.out) Y;exact((h1.trans Z m.out.has.lt).set Y (by rw[Hy.out];omega)).set Y (by rw[Hy.out];omega)
theorem zdu(i g:Int)(b:Nat)(w:World)(base t p:Nat)(s:Ps)(h:zqn w base t p s)(E:s.Ok 32 b)(hb:b<=1000)(D:Tr s.l):
 Calls prog 72 #[.pointer (some ⟨t,0,none⟩),.agg #[.int .i64 i,.int .i64 g]] w fun e w'=>e=.returned (.tuple #[.agg #[.int .i64 (s.zqx i g:Nat),.int .i64 (s.zro i g)],.int .i64 (s.zq3 i g)])/\zqn w' base t p (s.zrq i g)/\zpa base p w w':=by
 unfold Ps.zrq Ps.zqx Ps.zro Ps.zq3;cases hk:s.find i g with
 | none=>
  refine(zij i g w _ (fun W I=>?_)).mono ?_
  ·have:=vR i g b W base t p s (h.behind I) E hb;rwa[(qN hk).1,(qN hk).2]at this
  ·rintro e w' ⟨rfl,H⟩;exact⟨rfl,h.behind H,zpa.zo7 H h.zqb⟩
 | some k=>
  obtain⟨q,rfl,B,A,rfl,_,h6⟩:=ut hk;obtain⟨d1,d2,d3,d4⟩:=D.dp B A;by_cases hd:dep s.l k=8
  ·simp only[if_pos hd];exact(zgJ k q b w base t p s h E hb B A (by omega)).mono fun e w' ⟨J,G⟩=>⟨J,h.behind G,zpa.zo7 G h.zqb⟩
  ·simp only[if_neg hd];rw[<-d4];exact zik k q b w base t p s h E hb D B A (by omega)
def selL(l:List Pl)(P:Nat->Bool):List (Nat×Int):=(allL l).filter (fun x=>P x.1)
theorem znO{s:Ps}{k:Nat}{q:Pl}(A:Tr s.l)(D:s.l[k]?=some q)(G:k=0):q.gen=0:=by subst G;obtain⟨q0,B,_,E,_⟩:=A.root;rw[D]at B;cases B;exact E
end Go.Proofs.YtmgekibncmnmiaaGreatDoor
namespace Go.Proofs.YtmgekibncmnmiaaGreatDoor
open Go
section
variable {l c : List Pl} {hk pk : Nat} {qh qp : Pl} {h0 : Int}
end
end Go.Proofs.YtmgekibncmnmiaaGreatDoor
namespace Go.Proofs.YtmgekibncmnmiaaGreatDoor
open Go Go.RowKit Go.ChangeShapes Go.WideShapes
def bel(l:List Pl)(A:Nat):List (Nat×Int):=selL l (fun k=>zsj l k A)
end Go.Proofs.YtmgekibncmnmiaaGreatDoor
