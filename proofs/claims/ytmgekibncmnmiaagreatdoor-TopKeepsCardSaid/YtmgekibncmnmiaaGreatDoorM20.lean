/- Parts of the proof of the law TopKeeps: contracts of the functions that it reaches, and plain laws of what they compute. Conditions: those in each statement. -/
import Derived.Deep.RegionHeld3
import Derived.Test.YtmgekibncmnmiaaGreatDoorM17
set_option linter.unusedVariables false
set_option maxRecDepth 100000
set_option maxHeartbeats 4000000
open Go.Proofs.Tryz
namespace Go.Proofs.YtmgekibncmnmiaaGreatDoor
open Go Go.RowKit Go.ChangeShapes Go.WideShapes
theorem zrJ.behind{w w':World}{base p:Nat}{room:Int}{s:Ps}(h:zrJ w base p room s)(hb:Below w.heap.size w w'):zrJ w' base p room s:=by obtain⟨v,h⟩:=h;exact⟨v,h.behind hb⟩
theorem zrJ.lt{w:World}{base p:Nat}{room:Int}{s:Ps}(h:zrJ w base p room s):p<w.heap.size:=by obtain⟨v,h⟩:=h;exact h.lt
structure zqn(w:World)(base t p:Nat)(s:Ps):Prop where
 tb:w.heap[t]?=some (.cells #[.pointer (some ⟨p,0,none⟩)] 144 (0,0))
 has:zrJ w base p 32 s
 lo:base<=t
theorem zqn.ne{w:World}{base t p:Nat}{s:Ps}(h:zqn w base t p s):t≠p:=by rintro rfl;obtain⟨v,hp⟩:=h.has;have A:=hp.zp5;rw[h.tb]at A;simp at A
theorem zqn.lt{w:World}{base t p:Nat}{s:Ps}(h:zqn w base t p s):t<w.heap.size:=(zd h.tb).1
theorem zqn.cell{w:World}{base t p:Nat}{s:Ps}(h:zqn w base t p s):w.cell? ⟨t,0,none⟩=some (.pointer (some ⟨p,0,none⟩)):=by simp[World.cell?,h.tb]
theorem zqn.behind{w w':World}{base t p:Nat}{s:Ps}(h:zqn w base t p s)(hb:Below w.heap.size w w'):zqn w' base t p s:=
 ⟨by rw[hb.block t h.lt];exact h.tb,h.has.behind hb,h.lo⟩
theorem zqn.step{w w':World}{base t p:Nat}{s A:Ps}(h:zqn w base t p s)(hs:zpa base p w w')(hp:zrJ w' base p 32 A):zqn w' base t p A:=
 ⟨hs.same h.tb h.ne (by decide),hp,h.lo⟩
theorem zqn.alloc{w:World}{base t p:Nat}{s:Ps}(h:zqn w base t p s)(o:Obj):zqn (w.alloc o) base t p s:=h.behind (zk w o)
theorem zqn.zqb{w:World}{base t p:Nat}{s:Ps}(h:zqn w base t p s):base<=w.heap.size:=by have:=h.lo;have:=h.lt;omega
theorem um(w:World):Calls prog 65 #[] w fun e w'=>e=.returned (.agg #[.int .i64 0,.int .i64 0])/\w.alloc (.cells #[.int .i64 0,.int .i64 0] 78)=w':=by go_enter func65,ntmps65;go_wp2;refine bodyPost_ret (v:=.agg #[.int .i64 0,.int .i64 0]) (by simp[results,results65,go_sem]) rfl ⟨rfl,rfl⟩
theorem zbF{B:Nat}{a w:World}(h:Below B a.drew w):Below B a w:=⟨h.os,h.tape,h.output,h.size,h.block⟩
theorem yd(w:World)(a b i j:Nat)(v:Value)(h:a≠b):(w.setCell ⟨a,i,none⟩ v).cell? ⟨b,j,none⟩=w.cell? ⟨b,j,none⟩:=World.cell?_setCell_far w _ _ v h
theorem vR(i g:Int)(b:Nat)(w:World)(base t p:Nat)(s:Ps)(h:zqn w base t p s)(k:s.Ok 32 b)(hb:b<=1000):
 Calls prog 64 #[.pointer (some ⟨t,0,none⟩),.agg #[.int .i64 i,.int .i64 g]] w fun e w'=>e=.returned (.tuple #[.agg (zO (s.zqU i g)),.int .i64 (s.zqO i g)])/\Below w.heap.size w w':=by
 obtain⟨w1,A⟩:=zh (((w.alloc (.cells #[.int .i64 i,.int .i64 g] 78)).alloc (.cells (zO .zero) 130)))
 have J:Below w.heap.size w w1:=by rw[A];exact(((Below.refl _ w).alloc (zg _) _).alloc (by simp) _)
 have H1:=zc (h.behind J);have R:=zc J;have u:=zc k;have P:w1.cell? ⟨w.heap.size,0,none⟩=some (.int .i64 i)/\w1.cell? ⟨w.heap.size,1,none⟩=some (.int .i64 g):=by rw[A];constructor <;> simp[go_sem]
 have j:=H1.out.cell;have T:w1.frozen? ⟨w.heap.size+1,0,none⟩=false/\w1.frozen? ⟨w.heap.size+1,1,none⟩=false/\w1.frozen? ⟨w.heap.size+1,2,none⟩=false:=by rw[A];refine⟨?_,?_,?_⟩ <;> simp[go_sem]
 have hd:w1.cell? ⟨w.heap.size+1,0,none⟩=some (.int .i64 0)/\w1.cell? ⟨w.heap.size+1,1,none⟩=some (.int .i64 0)/\w1.cell? ⟨w.heap.size+1,2,none⟩=some (.int .i64 0):=by rw[A];refine⟨?_,?_,?_⟩ <;> simp[go_sem,zrf.zero]
 have U:=h.lt;have O:w1.heap.size=w.heap.size+2:=by rw[A];simp
 obtain⟨H,M⟩:=P;have F:=zc A;have h0:=zc O;have V:=zc (fun(D:World) (E:Below w1.heap.size w1 D)=>(show(D.cell? ⟨t,0,none⟩=some (.pointer (some ⟨p,0,none⟩))/\D.cell? ⟨w.heap.size,0,none⟩=some (.int .i64 i)/\D.cell? ⟨w.heap.size,1,none⟩=some (.int .i64 g))/\
  (D.cell? ⟨w.heap.size+1,0,none⟩=some (.int .i64 0)/\D.cell? ⟨w.heap.size+1,1,none⟩=some (.int .i64 0)/\D.cell? ⟨w.heap.size+1,2,none⟩=some (.int .i64 0))/\
  (D.frozen? ⟨w.heap.size+1,0,none⟩=false/\D.frozen? ⟨w.heap.size+1,1,none⟩=false/\D.frozen? ⟨w.heap.size+1,2,none⟩=false)from by
  have q:t<w1.heap.size:=by omega
  have d:w.heap.size<w1.heap.size:=by omega
  have N:w.heap.size+1<w1.heap.size:=by omega
  have c:=(zf0 E).1;have f:=(zf0 E).2;refine⟨⟨?_,?_,?_⟩,⟨?_,?_,?_⟩,?_,?_,?_⟩
  ·rw[c _ _ q];exact j
  ·rw[c _ _ d];exact H
  ·rw[c _ _ d];exact M
  ·rw[c _ _ N];exact hd.1
  ·rw[c _ _ N];exact hd.2.1
  ·rw[c _ _ N];exact hd.2.2
  ·rw[f _ _ N];exact T.1
  ·rw[f _ _ N];exact T.2.1
  ·rw[f _ _ N];exact T.2.2))
 have X:=zc (zoD i g b w1.drew base p 32 s (H1.out.has.behind (zv (Below.refl _ w1))) u.out hb);clear h k J O A hd T;generalize s.zqU i g=x at X ⊢;generalize s.zqO i g=n at X ⊢;obtain⟨m,L,C,o⟩:=x;go_enter func64,ntmps64;go_upto_region 3 with(fail)
 rw[show((w.alloc (.cells #[.int .i64 i,.int .i64 g] 78)).alloc (.cells #[.int .i64 0,.int .i64 0,.int .i64 0] 130))=w1 from F.out.symm];obtain⟨z,Y⟩:=zh w.heap.size
 obtain⟨y,a⟩:=zh (w.heap.size+1)
 rw[<-a]at V ⊢;rw[<-Y]at V H M U ⊢;have I:¬y=t:=by omega
 have B:¬y=z:=by omega
 have Z:=zc a;have HZ:=zc Y;clear a Y;go_region_held3 (fun w'=>w'.cell? ⟨t,0,none⟩=some (.pointer (some ⟨p,0,none⟩))/\w'.cell? ⟨z,0,none⟩=some (.int .i64 i)/\w'.cell? ⟨z,1,none⟩=some (.int .i64 g))
  (first | exact⟨j,H,M⟩ | assumption | (refine⟨?_,?_,?_⟩;(rw[yd _ _ _ _ _ _ I,yd _ _ _ _ _ _ I,yd _ _ _ _ _ _ I];exact G.1);(rw[yd _ _ _ _ _ _ B,yd _ _ _ _ _ _ B,yd _ _ _ _ _ _ B];exact G.2.1);(rw[yd _ _ _ _ _ _ B,yd _ _ _ _ _ _ B,yd _ _ _ _ _ _ B];exact G.2.2)))
  (first | (go_at_call 119;refine X.out.mono ?_;rintro e D ⟨rfl,E⟩;obtain⟨G,⟨r,l,K⟩,f0,f1,f2⟩:=V.out D (zbF E)))
 clear G;go_wp2;refine bodyPost_ret (v:=.tuple #[.agg (zO ⟨m,L,C,o⟩),.int .i64 n]) (by simp[results,results64,go_sem,r,l,K]) rfl ⟨rfl,?_⟩;exact(((zj R.out (zbF E) R.out.size).setCell (by rw[Z.out];simp) _).setCell (by rw[Z.out];simp) _).setCell (by rw[Z.out];simp) _
abbrev zP(i g:Int):Obj:=.cells #[.int .i64 i,.int .i64 g] 78
abbrev zbH(x:zrf):Obj:=.cells (zO x) 130
def Gx(w:World)(k:Nat)(x:zrf):Prop:=w.heap[k]?=some (.cells (zO x) 130 (0,0))
theorem Gx.new(w:World)(x:zrf):Gx (w.alloc (zbH x)) w.heap.size x:=heap_alloc_new w _
theorem Gx.lt{w:World}{k:Nat}{x:zrf}(h:Gx w k x):k<w.heap.size:=(zd h).1
theorem Gx.c3{w:World}{k:Nat}{x:zrf}(h:Gx w k x):w.cell? ⟨k,0,none⟩=some (.int .i64 x.ui)/\w.cell? ⟨k,1,none⟩=some (.int .i64 x.ug)/\w.cell? ⟨k,2,none⟩=some (.int .i64 x.dp):=by unfold Gx at h;refine⟨?_,?_,?_⟩ <;> simp[World.cell?,h]
theorem Gx.behind{w w':World}{k:Nat}{x:zrf}(h:Gx w k x)(hb:Below w.heap.size w w'):Gx w' k x:=by unfold Gx;rw[hb.block k h.lt];exact h
theorem Gx.alloc{w:World}{k:Nat}{x:zrf}(h:Gx w k x)(o:Obj):Gx (w.alloc o) k x:=h.behind (zk w o)
theorem Hx.alloc{w:World}{k:Nat}{i g:Int}(h:Hx w k i g)(o:Obj):Hx (w.alloc o) k i g:=h.behind (zk w o)
theorem zii(i g:Int)(b:Nat)(w:World)(base t p:Nat)(s:Ps)(h:zqn w base t p s)(r:s.Ok 32 b)(hb:b<=1000)(L:s.zqO i g=0)(F:¬(i=0/\g=0)):
 Calls prog 30 #[.pointer (some ⟨t,0,none⟩),.agg #[.int .i64 i,.int .i64 g]] w fun e w'=>e=.returned (.tuple #[.agg #[.int .i64 (s.zqU i g).ui,.int .i64 (s.zqU i g).ug],.int .i64 0])/\Below w.heap.size w w':=by
 have l:=zc (vR i g b ((w.alloc (zP i g)).alloc (zP 0 0)) base t p s ((h.alloc _).alloc _) r hb);rw[L]at l;clear h r L;generalize s.zqU i g=x at l ⊢;obtain⟨Y,N,M,X⟩:=x;have S:=zc F;clear F;go_enter func30,ntmps30;go_wp2_with fail;refine l.out.mono ?_;rintro e U ⟨rfl,H⟩;go_upto_region 4 with(fail)
 have V:Below w.heap.size w (U.alloc (zbH ⟨Y,N,M,X⟩)):=(zj (((Below.refl _ w).alloc (zg _) (zP i g)).alloc (by simp) (zP 0 0)) H (by simp;omega)).alloc (by have:=H.size;simp at this;omega) _;have d:Hx (U.alloc (zbH ⟨Y,N,M,X⟩)) w.heap.size i g:=(((Hx.new w i g).alloc _).behind H).alloc _;have a:Hx (U.alloc (zbH ⟨Y,N,M,X⟩)) (w.heap.size+1) 0 0:=((Hx.zrR w (zP i g) 0 0).behind H).alloc _;have Z:=Gx.new U ⟨Y,N,M,X⟩;obtain⟨E,O⟩:=zh (U.alloc (zbH ⟨Y,N,M,X⟩))
 obtain⟨z,m⟩:=zh w.heap.size
 obtain⟨y,c⟩:=zh (w.heap.size+1)
 obtain⟨u,hu⟩:=zh U.heap.size
 rw[show U.alloc (Obj.cells #[Value.int IntKind.i64 N,Value.int IntKind.i64 M,Value.int IntKind.i64 X] 130)=E from O.symm];rw[<-O]at V d a Z;rw[<-c,<-m,<-hu];rw[<-m]at d;rw[<-c]at a;rw[<-hu]at Z;have I:=zc V;have W:=zc d;have C:=zc a;have K:=zc Z;have j:=zc c;clear H O m c hu V d a Z;obtain⟨z0,q⟩:=W.out.c2;by_cases f:i=0
 ·have o:g≠0:=fun e=>S.out ⟨f,e⟩;have h1:(g == 0)=false:=beq_eq_false_iff_ne.2 o;subst f;clear o;go_region_held3 (fun w'=>w'.cell? ⟨z,0,none⟩=some (.int .i64 0)/\w'.cell? ⟨z,1,none⟩=some (.int .i64 g)) (go_keep)
   (first | (go_at_call 65;refine(um _).mono ?_;rintro e P ⟨rfl,rfl⟩))
  rename_i B;clear B z0 q;obtain⟨J,D⟩:=zh ((E.alloc (zP 0 0)).drew)
  have A:Below E.heap.size E J:=by rw[D];exact zv (zk _ _)
  rw[show(E.alloc (Obj.cells #[Value.int IntKind.i64 0,Value.int IntKind.i64 0] 78)).drew=J from D.symm];clear D;have T:=zc (K.out.behind A);have G:=zc (C.out.behind A);have R:=zc (zj I.out A I.out.size);clear A;obtain⟨u0,u1,u2⟩:=T.out.c3;obtain⟨n,k⟩:=G.out.c2;have Q:=G.out.zpe;go_wp2;refine bodyPost_ret (v:=.tuple #[.agg #[.int .i64 N,.int .i64 M],.int .i64 0]) (by simp[results,results30,go_sem,n,k]) rfl ⟨rfl,?_⟩;exact(R.out.setCell (by show w.heap.size<=y;rw[j.out];omega) _).setCell (by show w.heap.size<=y;rw[j.out];omega) _
 ·have h0:(i == 0)=false:=beq_eq_false_iff_ne.2 f;clear f;go_region_held3 (fun w'=>w'.cell? ⟨z,0,none⟩=some (.int .i64 i)/\w'.cell? ⟨z,1,none⟩=some (.int .i64 g)) (go_keep)
   (first | (go_at_call 65;refine(um _).mono ?_;rintro e P ⟨rfl,rfl⟩))
  rename_i B;clear B z0 q;obtain⟨J,D⟩:=zh ((E.alloc (zP 0 0)).drew)
  have A:Below E.heap.size E J:=by rw[D];exact zv (zk _ _)
  rw[show(E.alloc (Obj.cells #[Value.int IntKind.i64 0,Value.int IntKind.i64 0] 78)).drew=J from D.symm];clear D;have T:=zc (K.out.behind A);have G:=zc (C.out.behind A);have R:=zc (zj I.out A I.out.size);clear A;obtain⟨u0,u1,u2⟩:=T.out.c3;obtain⟨n,k⟩:=G.out.c2;have Q:=G.out.zpe;go_wp2;refine bodyPost_ret (v:=.tuple #[.agg #[.int .i64 N,.int .i64 M],.int .i64 0]) (by simp[results,results30,go_sem,n,k]) rfl ⟨rfl,?_⟩;exact(R.out.setCell (by show w.heap.size<=y;rw[j.out];omega) _).setCell (by show w.heap.size<=y;rw[j.out];omega) _
theorem zgF(b:Nat)(w:World)(base t p:Nat)(s:Ps)(h:zqn w base t p s)(f:s.Ok 32 b)(hb:b<=1000)(g:s.zqO 0 0=0):
 Calls prog 30 #[.pointer (some ⟨t,0,none⟩),.agg #[.int .i64 0,.int .i64 0]] w fun e w'=>e=.returned (.tuple #[.agg #[.int .i64 0,.int .i64 0],.int .i64 12])/\Below w.heap.size w w':=by
 have c:=zc (vR 0 0 b ((w.alloc (zP 0 0)).alloc (zP 0 0)) base t p s ((h.alloc _).alloc _) f hb);rw[g]at c;clear h f g;generalize s.zqU 0 0=x at c ⊢;obtain⟨U,R,O,J⟩:=x;go_enter func30,ntmps30;go_wp2_with fail;refine c.out.mono ?_;rintro e T ⟨rfl,A⟩;go_upto_region 4 with(fail)
 have I:Below w.heap.size w (T.alloc (zbH ⟨U,R,O,J⟩)):=(zj (((Below.refl _ w).alloc (zg _) (zP 0 0)).alloc (by simp) (zP 0 0)) A (by simp;omega)).alloc (by have:=A.size;simp at this;omega) _;have Y:Hx (T.alloc (zbH ⟨U,R,O,J⟩)) w.heap.size 0 0:=(((Hx.new w 0 0).alloc _).behind A).alloc _;have V:Hx (T.alloc (zbH ⟨U,R,O,J⟩)) (w.heap.size+1) 0 0:=((Hx.zrR w (zP 0 0) 0 0).behind A).alloc _;obtain⟨B,D⟩:=zh (T.alloc (zbH ⟨U,R,O,J⟩))
 obtain⟨z,d⟩:=zh w.heap.size
 obtain⟨y,X⟩:=zh (w.heap.size+1)
 rw[show T.alloc (Obj.cells #[Value.int IntKind.i64 R,Value.int IntKind.i64 O,Value.int IntKind.i64 J] 130)=B from D.symm];rw[<-D]at I Y V;rw[<-X,<-d];rw[<-d]at Y;rw[<-X]at V;have M:=zc I;have o:=zc Y;have m:=zc V;have j:=zc X;clear A D d X I Y V;obtain⟨z0,l⟩:=o.out.c2;go_region_held3 (fun w'=>w'.cell? ⟨z,0,none⟩=some (.int .i64 0)/\w'.cell? ⟨z,1,none⟩=some (.int .i64 0)) (go_keep)
  (first | (go_at_call 65;refine(um _).mono ?_;rintro e w4 ⟨rfl,rfl⟩))
 rename_i G;clear G z0 l;obtain⟨Z,H⟩:=zh ((B.alloc (zP 0 0)).drew)
 have E:Below B.heap.size B Z:=by rw[H];exact zv (zk _ _)
 rw[show(B.alloc (Obj.cells #[Value.int IntKind.i64 0,Value.int IntKind.i64 0] 78)).drew=Z from H.symm];clear H;have N:=zc (m.out.behind E);have a:=zc (zj M.out E M.out.size);clear E;obtain⟨n,k⟩:=N.out.c2;have yf:=N.out.zpe;go_wp2;refine bodyPost_ret (v:=.tuple #[.agg #[.int .i64 0,.int .i64 0],.int .i64 12]) (by simp[results,results30,go_sem,n,k]) rfl ⟨rfl,?_⟩;exact(a.out.setCell (by show w.heap.size<=y;rw[j.out];omega) _).setCell (by show w.heap.size<=y;rw[j.out];omega) _
theorem qN{s:Ps}{i g:Int}(h:s.find i g=none):s.zqU i g=.zero/\s.zqO i g=2:=by unfold Ps.zqU Ps.zqO;rw[h];exact⟨rfl,rfl⟩
structure zqK(w:World)(a hb ob:Nat)(tv:Option Addr)(i g:Int)(over:Bool):Prop where
 ta:w.heap[a]?=some (.cells #[.pointer tv] 55 (0,0))
 hx:Hx w hb i g
 ox:w.heap[ob]?=some (.cells #[.bool over] 4 (0,0))
theorem zqK.ne{w:World}{a hb A:Nat}{B:Option Addr}{i g:Int}{over:Bool}(h:zqK w a hb A B i g over):a≠hb/\a≠A/\A≠hb:=by have h1:=h.ta;have h2:w.heap[hb]?=_:=h.hx;have h3:=h.ox;refine⟨?_,?_,?_⟩ <;> (rintro rfl;simp_all)
theorem zqK.lt{w:World}{a hb A:Nat}{B:Option Addr}{i g:Int}{over:Bool}(h:zqK w a hb A B i g over):a<w.heap.size/\hb<w.heap.size/\A<w.heap.size:=
 ⟨(zd h.ta).1,h.hx.lt,(zd h.ox).1⟩
theorem zqK.behind{w w':World}{a hb A:Nat}{D:Option Addr}{i g:Int}{over:Bool}(h:zqK w a hb A D i g over)(B:Below w.heap.size w w'):zqK w' a hb A D i g over:=
 ⟨by rw[B.block a h.lt.1];exact h.ta,h.hx.behind B,by rw[B.block A h.lt.2.2];exact h.ox⟩
theorem zqK.cells{w:World}{a hb B:Nat}{A:Option Addr}{i g:Int}{over:Bool}(h:zqK w a hb B A i g over):w.cell? ⟨a,0,none⟩=some (.pointer A)/\w.cell? ⟨hb,0,none⟩=some (.int .i64 i)/\w.cell? ⟨hb,1,none⟩=some (.int .i64 g)/\w.cell? ⟨B,0,none⟩=some (.bool over):=by
 refine⟨?_,h.hx.c2.1,h.hx.c2.2,?_⟩
 ·simp[World.cell?,h.ta]
 ·simp[World.cell?,h.ox]
theorem zqK.zpe{w:World}{a hb A:Nat}{B:Option Addr}{i g:Int}{over:Bool}(h:zqK w a hb A B i g over):(∀j,w.frozen? ⟨hb,j,none⟩=false)/\(∀j,w.frozen? ⟨A,j,none⟩=false):=by refine⟨h.hx.zpe,?_⟩;intro j;simp[World.frozen?,h.ox]
theorem zqK.zsS{w:World}{a hb A:Nat}{B:Option Addr}{i g:Int}{over:Bool}(h:zqK w a hb A B i g over)(D:Bool):zqK (w.setCell ⟨A,0,none⟩ (.bool D)) a hb A B i g D:=by
 obtain⟨n1,E,G⟩:=h.ne;refine⟨?_,h.hx.zpP (fun e=>G e.symm),?_⟩
 ·rw[Below.heap_setCell _ _ _ _ (by exact E)];exact h.ta
 ·rw[zi h.ox];rfl
theorem zqK.zpf{w:World}{a hb E:Nat}{B:Option Addr}{i g:Int}{over:Bool}(h:zqK w a hb E B i g over)(A g':Int):zqK ((w.setCell ⟨hb,0,none⟩ (.int .i64 A)).setCell ⟨hb,1,none⟩ (.int .i64 g')) a hb E B A g' over:=by
 obtain⟨D,n2,G⟩:=h.ne;refine⟨?_,(h.hx.zsD A).zsR g',?_⟩
 ·rw[Below.heap_setCell _ _ _ _ (by exact D),Below.heap_setCell _ _ _ _ (by exact D)];exact h.ta
 ·rw[Below.heap_setCell _ _ _ _ (by exact G),Below.heap_setCell _ _ _ _ (by exact G)];exact h.ox
theorem zqK.zpP{w:World}{a hb A:Nat}{B:Option Addr}{i g:Int}{over:Bool}(h:zqK w a hb A B i g over){c o:Nat}{u:Value}(E:c≠a)(D:c≠hb)(G:c≠A):zqK (w.setCell ⟨c,o,none⟩ u) a hb A B i g over:=
 ⟨by rw[Below.heap_setCell _ _ _ _ (by exact E.symm)];exact h.ta,h.hx.zpP (fun e=>D e.symm),by rw[Below.heap_setCell _ _ _ _ (by exact G.symm)];exact h.ox⟩
theorem Gx.zpP{w:World}{k c o:Nat}{x:zrf}{u:Value}(h:Gx w k x)(A:k≠c):Gx (w.setCell ⟨c,o,none⟩ u) k x:=by unfold Gx;rw[Below.heap_setCell _ _ _ _ (by exact A)];exact h
abbrev itv(a hb A:Nat):Value:=.func (.func 122) #[] #[.pointer (some ⟨a,0,none⟩),.pointer (some ⟨hb,0,none⟩),.pointer (some ⟨A,0,none⟩)]
theorem zoF(A:Option Addr)(i g:Int)(w:World):
 Calls prog 70 #[.pointer A,.agg #[.int .i64 i,.int .i64 g]] w fun e w'=>e=.returned (itv w.heap.size (w.heap.size+1) (w.heap.size+2))/\zqK w' w.heap.size (w.heap.size+1) (w.heap.size+2) A i g false/\Below w.heap.size w w':=by
 go_enter func70,ntmps70;go_wp2;go_ret;have e:w.heap.size+1+1=w.heap.size+2:=rfl;refine⟨rfl,⟨?_,?_,?_⟩,((((Below.refl _ w).alloc (zg _) _).alloc (by simp) _).alloc (by simp;omega) _)⟩
 ·rw[Below.heap_alloc _ _ _ (by simp;omega),Below.heap_alloc _ _ _ (by simp)];exact heap_alloc_new w _
 ·exact(Hx.zrR w _ i g).alloc _
 ·have:=heap_alloc_new ((w.alloc (.cells #[.pointer A] 55)).alloc (zP i g)) (.cells #[.bool false] 4);simpa using this
theorem zmq(i g:Int)(x:zrf)(w:World)(a hb E:Nat)(tv:Option Addr)(h:zqK w a hb E tv i g false)
 (hc:∀W,Below w.heap.size w W->Calls prog 64 #[.pointer tv,.agg #[.int .i64 i,.int .i64 g]] W fun e w'=>e=.returned (.tuple #[.agg (zO x),.int .i64 0])/\Below W.heap.size W w'):
 Calls prog 122 #[.pointer (some ⟨a,0,none⟩),.pointer (some ⟨hb,0,none⟩),.pointer (some ⟨E,0,none⟩)] w fun e w'=>e=.returned (.tuple #[.agg #[.int .i64 i,.int .i64 g],.bool true])/\zqK w' a hb E tv x.ui x.ug (decide (i=0/\g=0))/\zo8 (fun z=>z=hb∨z=E) w w':=by
 obtain⟨x0,L,K,x3⟩:=x;obtain⟨r,q⟩:=zh (decide (i=0/\g=0))
 rw[<-q];have HC:=zc (hc (w.alloc (zP 0 0)) (zk w _));clear hc;have C:=zc h;have HR:=zc q;obtain⟨a0,j,k,m⟩:=h.cells;obtain⟨l,f,ol⟩:=h.lt;clear h q;go_enter func122,ntmps122;go_wp2_with fail;refine HC.out.mono ?_;rintro e d ⟨rfl,p⟩;have R:=zc ((C.out.behind (zk w (zP 0 0))).behind p);have h2:=zc (zj (zk w (zP 0 0)) p (by simp));have h3:=zc ((Hx.new w 0 0).behind p);clear p a0 j k m l f ol;obtain⟨a0,j,k,m⟩:=R.out.cells;obtain⟨l,f,ol⟩:=R.out.lt;go_upto_region 5 with(fail)
 obtain⟨M,Z⟩:=zh (((d.alloc (zbH ⟨x0,L,K,x3⟩)).alloc (zP i g)))
 have n:Below d.heap.size d M:=by rw[Z];exact(zk d _).alloc (by simp) _
 have hU:Gx M d.heap.size ⟨x0,L,K,x3⟩:=by rw[Z];exact(Gx.new d _).alloc _
 have hV:Hx M (d.heap.size+1) i g:=by rw[Z];exact Hx.zrR d _ i g
 rw[show((d.alloc (Obj.cells #[Value.int IntKind.i64 L,Value.int IntKind.i64 K,Value.int IntKind.i64 x3] 130)).alloc (Obj.cells #[Value.int IntKind.i64 i,Value.int IntKind.i64 g] 78))=M from Z.symm];clear Z;have U:=zc (R.out.behind n);have t:=h3.out.behind n;have F:=zc (zj h2.out n h2.out.size);obtain⟨y,hy⟩:=zh w.heap.size
 obtain⟨u,hu⟩:=zh d.heap.size
 obtain⟨v,hv⟩:=zh (d.heap.size+1)
 rw[<-hu]at hU;rw[<-hv]at hV;rw[<-hy]at t;rw[<-hv,<-hu,<-hy];have HU:=zc hU;have HV:=zc hV;have HY:=zc t;have s:=zc hy;have X:¬u=E:=by have:=R.out.lt.2.2;omega
 have Y:¬v=E:=by have:=R.out.lt.2.2;omega
 have J:¬y=E:=by have:=C.out.lt.2.2;omega
 have n4:¬u=hb:=by have:=R.out.lt.2.1;omega
 have S:¬v=hb:=by have:=R.out.lt.2.1;omega
 have T:¬y=hb:=by have:=C.out.lt.2.1;omega
 have n7:¬E=hb:=C.out.ne.2.2;have N:=zc (And.intro X (And.intro Y (And.intro J (And.intro n4 (And.intro S T)))));clear n hU hV t hy hu hv a0 j k m l f ol X Y J n4 S T;obtain⟨a0,j,k,m⟩:=U.out.cells;obtain⟨l,f,ol⟩:=U.out.lt;obtain⟨P,Q⟩:=U.out.zpe;by_cases hi:i=0
 ·subst hi;by_cases hg:g=0
  ·subst hg;have q:r=true:=by rw[HR.out];simp
   subst q;go_region_held3 (fun w'=>w'.cell? ⟨hb,0,none⟩=some (.int .i64 0)/\w'.cell? ⟨hb,1,none⟩=some (.int .i64 0)) (go_keep)
    (first | (go_at_call 65;refine(um _).mono ?_;rintro e I ⟨rfl,rfl⟩))
   rename_i G;clear G a0 j k m l f ol P Q;obtain⟨I,B⟩:=zh (((M.setCell ⟨E,0,none⟩ (.bool true)).alloc (zP 0 0)).drew)
   rw[show((M.setCell ⟨E,0,none⟩ (.bool true)).alloc (Obj.cells #[Value.int IntKind.i64 0,Value.int IntKind.i64 0] 78)).drew=I from B.symm];obtain⟨X,Y,J,n4,S,T⟩:=N.out;have A:Below (M.setCell ⟨E,0,none⟩ (.bool true)).heap.size (M.setCell ⟨E,0,none⟩ (.bool true)) I:=by rw[B];exact zv (zk _ _)
   have D:=zc ((U.out.zsS true).behind A);have V:=zc ((HU.out.zpP (o:=0) (u:=.bool true) (by exact X)).behind A);have b:=zc ((HV.out.zpP (o:=0) (u:=.bool true) (by exact Y)).behind A);have H:=zc ((HY.out.zpP (o:=0) (u:=.bool true) (by exact J)).behind A);have c:Hid (zo8 (fun z=>z=hb∨z=E) w I):=zc (by rw[B];exact(((zo8.zo7 F.out).setCell (.inl (.inr rfl)) _).alloc _).drew);clear A B X Y J;obtain⟨a0,j,k,m⟩:=D.out.cells;obtain⟨l,f,ol⟩:=D.out.lt;obtain⟨P,Q⟩:=D.out.zpe;obtain⟨u0,u1,u2⟩:=V.out.c3;obtain⟨v0,v1⟩:=b.out.c2;obtain⟨y0,y1⟩:=H.out.c2;have fy:=H.out.zpe;go_wp2
   refine bodyPost_ret (v:=.tuple #[.agg #[.int .i64 0,.int .i64 0],.bool true]) (by simp[results,results122,go_sem,y0,y1]) rfl ⟨rfl,?_,?_⟩
   ·have:=H.out.lt;have O:y≠a:=by have:=C.out.lt.1;have:=s.out;omega
    obtain⟨_,_,J,_,_,T⟩:=N.out;exact((D.out.zpf L K).zpP O T J).zpP O T J
   ·exact(((c.out.setCell (.inl (.inl rfl)) _).setCell (.inl (.inl rfl)) _).setCell (.inr (by rw[s.out];exact zg _)) _).setCell (.inr (by rw[s.out];exact zg _)) _
  ·have q:r=false:=by rw[HR.out];simp[hg]
   subst q;have h5:(g == 0)=false:=beq_eq_false_iff_ne.2 hg;clear hg;go_region_held3 (fun w'=>w'.cell? ⟨hb,0,none⟩=some (.int .i64 0)/\w'.cell? ⟨hb,1,none⟩=some (.int .i64 g)) (go_keep)
    (first | (go_at_call 65;refine(um _).mono ?_;rintro e I ⟨rfl,rfl⟩))
   rename_i G;clear G a0 j k m l f ol P Q;obtain⟨I,B⟩:=zh (((M.setCell ⟨E,0,none⟩ (.bool false)).alloc (zP 0 0)).drew)
   rw[show((M.setCell ⟨E,0,none⟩ (.bool false)).alloc (Obj.cells #[Value.int IntKind.i64 0,Value.int IntKind.i64 0] 78)).drew=I from B.symm];obtain⟨X,Y,J,n4,S,T⟩:=N.out;have A:Below (M.setCell ⟨E,0,none⟩ (.bool false)).heap.size (M.setCell ⟨E,0,none⟩ (.bool false)) I:=by rw[B];exact zv (zk _ _)
   have D:=zc ((U.out.zsS false).behind A);have V:=zc ((HU.out.zpP (o:=0) (u:=.bool false) (by exact X)).behind A);have b:=zc ((HV.out.zpP (o:=0) (u:=.bool false) (by exact Y)).behind A);have H:=zc ((HY.out.zpP (o:=0) (u:=.bool false) (by exact J)).behind A);have c:Hid (zo8 (fun z=>z=hb∨z=E) w I):=zc (by rw[B];exact(((zo8.zo7 F.out).setCell (.inl (.inr rfl)) _).alloc _).drew);clear A B X Y J;obtain⟨a0,j,k,m⟩:=D.out.cells;obtain⟨l,f,ol⟩:=D.out.lt;obtain⟨P,Q⟩:=D.out.zpe;obtain⟨u0,u1,u2⟩:=V.out.c3;obtain⟨v0,v1⟩:=b.out.c2;obtain⟨y0,y1⟩:=H.out.c2;have fy:=H.out.zpe;go_wp2
   refine bodyPost_ret (v:=.tuple #[.agg #[.int .i64 0,.int .i64 g],.bool true]) (by simp[results,results122,go_sem,y0,y1]) rfl ⟨rfl,?_,?_⟩
   ·have:=H.out.lt;have O:y≠a:=by have:=C.out.lt.1;have:=s.out;omega
    obtain⟨_,_,J,_,_,T⟩:=N.out;exact((D.out.zpf L K).zpP O T J).zpP O T J
   ·exact(((c.out.setCell (.inl (.inl rfl)) _).setCell (.inl (.inl rfl)) _).setCell (.inr (by rw[s.out];exact zg _)) _).setCell (.inr (by rw[s.out];exact zg _)) _
 ·have q:r=false:=by rw[HR.out];simp[hi]
  subst q;have h4:(i == 0)=false:=beq_eq_false_iff_ne.2 hi;clear hi;go_region_held3 (fun w'=>w'.cell? ⟨hb,0,none⟩=some (.int .i64 i)/\w'.cell? ⟨hb,1,none⟩=some (.int .i64 g)) (go_keep)
   (first | (go_at_call 65;refine(um _).mono ?_;rintro e I ⟨rfl,rfl⟩))
  rename_i G;clear G a0 j k m l f ol P Q;obtain⟨I,B⟩:=zh (((M.setCell ⟨E,0,none⟩ (.bool false)).alloc (zP 0 0)).drew)
  rw[show((M.setCell ⟨E,0,none⟩ (.bool false)).alloc (Obj.cells #[Value.int IntKind.i64 0,Value.int IntKind.i64 0] 78)).drew=I from B.symm];obtain⟨X,Y,J,n4,S,T⟩:=N.out;have A:Below (M.setCell ⟨E,0,none⟩ (.bool false)).heap.size (M.setCell ⟨E,0,none⟩ (.bool false)) I:=by rw[B];exact zv (zk _ _)
  have D:=zc ((U.out.zsS false).behind A);have V:=zc ((HU.out.zpP (o:=0) (u:=.bool false) (by exact X)).behind A);have b:=zc ((HV.out.zpP (o:=0) (u:=.bool false) (by exact Y)).behind A);have H:=zc ((HY.out.zpP (o:=0) (u:=.bool false) (by exact J)).behind A);have c:Hid (zo8 (fun z=>z=hb∨z=E) w I):=zc (by rw[B];exact(((zo8.zo7 F.out).setCell (.inl (.inr rfl)) _).alloc _).drew);clear A B X Y J;obtain⟨a0,j,k,m⟩:=D.out.cells;obtain⟨l,f,ol⟩:=D.out.lt;obtain⟨P,Q⟩:=D.out.zpe;obtain⟨u0,u1,u2⟩:=V.out.c3;obtain⟨v0,v1⟩:=b.out.c2;obtain⟨y0,y1⟩:=H.out.c2;have fy:=H.out.zpe;go_wp2
  refine bodyPost_ret (v:=.tuple #[.agg #[.int .i64 i,.int .i64 g],.bool true]) (by simp[results,results122,go_sem,y0,y1]) rfl ⟨rfl,?_,?_⟩
  ·have:=H.out.lt;have O:y≠a:=by have:=C.out.lt.1;have:=s.out;omega
   obtain⟨_,_,J,_,_,T⟩:=N.out;exact((D.out.zpf L K).zpP O T J).zpP O T J
  ·exact(((c.out.setCell (.inl (.inl rfl)) _).setCell (.inl (.inl rfl)) _).setCell (.inr (by rw[s.out];exact zg _)) _).setCell (.inr (by rw[s.out];exact zg _)) _
theorem zks(i g n:Int)(x:zrf)(w:World)(a hb N:Nat)(J:Option Addr)(h:zqK w a hb N J i g true)
 (U:∀W,Below w.heap.size w W->Calls prog 64 #[.pointer J,.agg #[.int .i64 i,.int .i64 g]] W fun e w'=>e=.returned (.tuple #[.agg (zO x),.int .i64 n])/\Below W.heap.size W w'):
 Calls prog 122 #[.pointer (some ⟨a,0,none⟩),.pointer (some ⟨hb,0,none⟩),.pointer (some ⟨N,0,none⟩)] w fun e w'=>e=.returned (.tuple #[.agg #[.int .i64 0,.int .i64 0],.bool false])/\Below w.heap.size w w':=by
 obtain⟨x0,x1,x2,x3⟩:=x;have Z:=zc (U (w.alloc (zP 0 0)) (zk w _));clear U;have Y:=zc h;obtain⟨a0,I,M,T⟩:=h.cells;obtain⟨R,O,ol⟩:=h.lt;clear h;go_enter func122,ntmps122;go_wp2_with fail;refine Z.out.mono ?_;rintro e w2 ⟨rfl,A⟩;have D:=zc ((Y.out.behind (zk w (zP 0 0))).behind A);have E:=zc (zj (zk w (zP 0 0)) A (by simp));have B:=(Hx.new w 0 0).behind A;clear A a0 I M T R O ol;obtain⟨y,G⟩:=zh w.heap.size
 rw[<-G]at B ⊢;have V:=zc G;clear G;have H:=zc B;clear B;obtain⟨a0,I,M,T⟩:=D.out.cells;obtain⟨R,O,ol⟩:=D.out.lt;obtain⟨c,X⟩:=H.out.c2;have fy:=H.out.zpe;have b:=H.out.lt;go_wp2;refine bodyPost_ret (v:=.tuple #[.agg #[.int .i64 0,.int .i64 0],.bool false]) (by simp[results,results122,go_sem,c,X,b]) rfl ⟨rfl,?_⟩;exact((E.out.setCell (by show w.heap.size<=y;rw[V.out];exact zg _) _).setCell (by show w.heap.size<=y;rw[V.out];exact zg _) _).alloc (by have:=E.out.size;simpa using this) _
theorem zmr(i g:Int)(x:zrf)(w:World)(a hb N:Nat)(J:Option Addr)(h:zqK w a hb N J i g false)
 (U:∀W,Below w.heap.size w W->Calls prog 64 #[.pointer J,.agg #[.int .i64 i,.int .i64 g]] W fun e w'=>e=.returned (.tuple #[.agg (zO x),.int .i64 2])/\Below W.heap.size W w'):
 Calls prog 122 #[.pointer (some ⟨a,0,none⟩),.pointer (some ⟨hb,0,none⟩),.pointer (some ⟨N,0,none⟩)] w fun e w'=>e=.returned (.tuple #[.agg #[.int .i64 0,.int .i64 0],.bool false])/\Below w.heap.size w w':=by
 obtain⟨x0,x1,x2,x3⟩:=x;have Z:=zc (U (w.alloc (zP 0 0)) (zk w _));clear U;have Y:=zc h;obtain⟨a0,I,M,T⟩:=h.cells;obtain⟨R,O,ol⟩:=h.lt;clear h;go_enter func122,ntmps122;go_wp2_with fail;refine Z.out.mono ?_;rintro e w2 ⟨rfl,A⟩;have D:=zc ((Y.out.behind (zk w (zP 0 0))).behind A);have E:=zc (zj (zk w (zP 0 0)) A (by simp));have B:=(Hx.new w 0 0).behind A;clear A a0 I M T R O ol;obtain⟨y,G⟩:=zh w.heap.size
 rw[<-G]at B ⊢;have V:=zc G;clear G;have H:=zc B;clear B;obtain⟨a0,I,M,T⟩:=D.out.cells;obtain⟨R,O,ol⟩:=D.out.lt;obtain⟨c,X⟩:=H.out.c2;have fy:=H.out.zpe;have b:=H.out.lt;go_wp2;refine bodyPost_ret (v:=.tuple #[.agg #[.int .i64 0,.int .i64 0],.bool false]) (by simp[results,results122,go_sem,c,X,b]) rfl ⟨rfl,?_⟩;exact((E.out.setCell (by show w.heap.size<=y;rw[V.out];exact zg _) _).setCell (by show w.heap.size<=y;rw[V.out];exact zg _) _).alloc (by have:=E.out.size;simpa using this) _
end Go.Proofs.YtmgekibncmnmiaaGreatDoor
