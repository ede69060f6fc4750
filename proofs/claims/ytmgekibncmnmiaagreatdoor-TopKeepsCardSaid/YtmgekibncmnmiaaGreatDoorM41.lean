/- Parts of the proof of the law TopKeeps: contracts of the functions that it reaches, and plain laws of what they compute. Conditions: those in each statement. -/
import Derived.Test.YtmgekibncmnmiaaGreatDoorM39
import Derived.Test.YtmgekibncmnmiaaGreatDoorM40
set_option linter.unusedVariables false
set_option maxRecDepth 100000
set_option maxHeartbeats 4000000
open Go.Proofs.Tryz
namespace Go.Proofs.YtmgekibncmnmiaaGreatDoor
open Go Go.RowKit Go.ChangeShapes Go.WideShapes
section
attribute [local go_sem ↓] Go.wp_at_zero Go.wp_at_succ
theorem zo4(a0:Bool)(B a2 a3 a4 a5 A D:Int)(w:World):(Instr.field 49 (.agg (yF a0 B a2 a3 a4 a5 A D)) 6).run prog w=.ok (.int .i64 A) w:=by kernel_rfl
theorem zo5(a0:Bool)(A a2 a3 a4 a5 D B:Int)(w:World):(Instr.field 49 (.agg (yF a0 A a2 a3 a4 a5 D B)) 3).run prog w=.ok (.int .i64 a3) w:=by kernel_rfl
theorem zor(a0 B a2 a3 a4 a5 A:Int)(w:World):(Instr.field 37 (.agg (qL a0 B a2 a3 a4 a5 A)) 6).run prog w=.ok (.int .i64 A) w:=by kernel_rfl
theorem zhM:∀e∈xp,e.Good:=by
 have h:∀e∈xp,(-9223372036854775808<=e.kind/\e.kind<=9223372036854775807)/\e.kind≠2/\e.kind≠3:=by decide
 intro e he;exact⟨(h e he).1,zlq e he,(h e he).2.1,(h e he).2.2⟩
theorem zlv{S':Sc}{a:List (Int×Int)}{P:List Int}(h:Sc.zrd zsi zsi (Sc.new 1 100 0 0 100) xp S' a)(E:S'.Kp P):
 a= [(1,0),(2,0),(0,0),(0,0),(1,0),(0,0),(1,0)]/\S'.book.bt 1=10/\1<S'.ts.length/\∃x d,S'.gs[1]?=some x/\x.there=true/\x.band=some d/\d.spent=10:=by
 have D:=zlp h zfO;have B:S'=((Sc.new 1 100 0 0 100).zrD xp).1:=by rw[<-D]
 have G:a=((Sc.new 1 100 0 0 100).zrD xp).2:=by rw[<-D]
 obtain⟨m1,m2⟩:=zjb;have hb:=zja;rw[<-B]at m1 m2 hb;obtain⟨x,A⟩:∃x,S'.gs[1]?=some x:=⟨_,List.getElem?_eq_getElem (by omega)⟩
 rw[Sc.zpj A]at hb;refine⟨G.trans zi8,by rw[B];exact zi9,by omega,x,?_⟩;cases hd:x.band with
 | none=>rw[hd]at hb;cases hb
 | some d=>
  rw[hd]at hb;exact⟨d,A,E.all 1 x A,rfl,Option.some.inj hb⟩
theorem zjs(w:World)(F:uz w):Calls prog 11 #[] w fun z w'=>z=.returned (.bool true)/\Below w.heap.size w w':=by
 have HP:=zc (zhz w F);go_enter func11,ntmps11;go_wp2_with fail;refine HP.out.mono ?_;rintro z M ⟨a,c,rfl,E,V⟩;have A:=zc (And.intro (zbU.zqA E) (And.intro (fun r (v:a=some ⟨r,0,none⟩)=>(E.lt r (by rw[v];rfl)).2) V));have HN:Hid (Calls prog 16 #[.agg #[.int .i64 1,.int .i64 100,.int .i64 0,.int .i64 0,.int .u64 100]] M fun z w'=>∃s L,z=.returned (.tuple #[ptr s,.int .i64 0])/\zq w' (fun k=>M.heap.size<=k) s (Sc.new 1 100 0 0 100) L/\Below M.heap.size M w'):=zc (zeQ 1 100 0 0 100 M (by omega) (by omega) (by omega) (by omega) (by omega));clear E V;go_wp2_with fail;refine HN.out.mono ?_;rintro z P ⟨s,L,rfl,hs,H⟩
 have n:=zc (zlu xp 7 a c 0 P (fun k=>M.heap.size<=k) s (Sc.new 1 100 0 0 100) L hs rfl (by omega) (A.out.1.behind H) (fun r v hF=>by have:=A.out.2.1 r v;omega) zhM [-1] (zna 1 100 0 0 100) (zjP 1 100 0 0 100 (by omega) (by omega) (by omega) (by omega)) (by omega));have Z:=zc (zj A.out.2.2 H A.out.2.2.size);clear hs H;go_wp2_with fail;refine n.out.mono ?_;rintro z J ⟨C,S',h2,g,c',P',G,T,D,rfl,B,p⟩;obtain⟨rfl,R,l,x,d,q,j,N,Y⟩:=zlv G T;obtain⟨r,rfl,h0,a3,-⟩:=B 3 (0,0) rfl;obtain⟨r',O,-,a4,-⟩:=B 4 (1,0) rfl;obtain⟨r5,X,-,a5,-⟩:=B 5 (0,0) rfl
 obtain⟨K,U,-,a6,-⟩:=B 6 (1,0) rfl;obtain rfl:r=r':=by injection O with h1;injection h1
 obtain rfl:r=r5:=by injection X with h1;injection h1
 obtain rfl:r=K:=by injection U with h1;injection h1
 have S:Hid (Calls prog 15 #[ptr s,.int .i64 1] J (ziZ J S' 1)):=zc (zcB 1 x (0+7) J _ s S' C p.1 D.1 q j);have HT:Hid (∀W,Below J.heap.size J W->Calls prog 8 #[ptr s,.int .i64 1] W (zeT W S' 1)):=zc fun W hb=>zd7 1 (0+7) W _ s S' C (p.1.behind hb) D.1 l;have h:Hid (Below w.heap.size w J):=zc (Z.out.trans (p.2.below Z.out.size fun k Q=>Nat.le_trans A.out.2.2.size Q));have o:=zc (And.intro q (And.intro N (And.intro Y R)));have f1:=zo4;have f2:=zor;clear G T D B p R l q j N Y O X U;go_wp2_with fail;refine S.out.mono ?_;rintro z y ⟨pa,sh,qu,po,sp,st,rfl,f,I⟩
 obtain rfl:sp=10:=(f x d o.out.1 o.out.2.1).trans o.out.2.2.1;have u:Hid (Calls prog 8 #[ptr s,.int .i64 1] y (zeT y S' 1)):=zc (HT.out y I);have m:=zc (zj h.out I h.out.size);clear f I;go_wp2_with fail;refine u.out.mono ?_;rintro z w6 ⟨s1,s2,s3,s4,s5,s6,rfl,-,b⟩;rw[o.out.2.2.2];have t:=zc (zj m.out b m.out.size);clear b;go_wp2;go_ret;exact⟨rfl,t.out⟩
end
def zos(w:World)(a:Option Addr)(len:Nat)(f:Nat->Ev):Prop:=∀j,j<len->∃b off,a=some ⟨b,off,none⟩/\b<w.heap.size/\
 w.cell? ⟨b,off+j*6,none⟩=some (.int .i64 (f j).kind)/\w.cell? ⟨b,off+j*6+1,none⟩=some (.int .i64 (f j).a)/\w.cell? ⟨b,off+j*6+2,none⟩=some (.int .i64 (f j).b)/\w.cell? ⟨b,off+j*6+3,none⟩=some (.int .i64 (f j).n)/\w.cell? ⟨b,off+j*6+4,none⟩=some (.int .i64 (f j).m)/\w.cell? ⟨b,off+j*6+5,none⟩=some (.int .u64 (f j).mask)
def zsI(l:List Int):List Value:=l.map (Value.int .i64)
theorem zhN(l:List Int)(x:Int):zsI (l++ [x])=zsI l++ [.int .i64 x]:=by simp[zsI]
theorem zjW{l:List Int}{k:Nat}(h:k<l.length):(zsI l)[k]?=some (.int .i64 (l.getD k 0)):=by simp[zsI,List.getD_eq_getElem?_getD,h]
structure qQ(w:World)(base H:Nat)(G:Nat->Prop)(T P:List Int)(ta ga:Option Addr)(tc gc:Nat):Prop where
 box:w.heap[H]?=some (.cells #[.slice ta T.length tc,.slice ga P.length gc] 45 (0,0))
 t:w.ownsRow base 3 1 (.slice ta T.length tc) T.length (zsI T)
 g:w.ownsRow base 3 1 (.slice ga P.length gc) P.length (zsI P)
 nb:¬G H/\base<=H
 nt:∀k,(Value.slice ta T.length tc).ownBlock=some k->¬G k
 ng:∀k,(Value.slice ga P.length gc).ownBlock=some k->¬G k
 ne:∀k,(Value.slice ta T.length tc).ownBlock=some k->(Value.slice ga P.length gc).ownBlock≠some k
theorem qQ.lt{w:World}{base H:Nat}{G:Nat->Prop}{T P:List Int}{B A:Option Addr}{D gc:Nat}(h:qQ w base H G T P B A D gc):H<w.heap.size:=(zd h.box).1
theorem qQ.kept{w w':World}{base H:Nat}{G M:Nat->Prop}{T P:List Int}{O J:Option Addr}{N gc:Nat}(h:qQ w base H G T P O J N gc)(E:∀k,k<w.heap.size->¬G k->w'.heap[k]?=w.heap[k]?)(I:∀k,k<w.heap.size->M k->G k):qQ w' base H M T P O J N gc:=
 ⟨(
  E H h.lt h.nb.1).trans h.box,xW h.t fun g B=>E g (h.t.lt g B).2 (h.nt g B),xW h.g fun g B=>E g (h.g.lt g B).2 (h.ng g B),⟨fun D=>h.nb.1 (I H h.lt D),h.nb.2⟩,
  fun k A D=>h.nt k A (I k (h.t.lt k A).2 D),fun k A D=>h.ng k A (I k (h.g.lt k A).2 D),h.ne⟩
theorem qQ.facts{w:World}{base H:Nat}{G:Nat->Prop}{T P:List Int}{B A:Option Addr}{D gc:Nat}(h:qQ w base H G T P B A D gc):w.cell? ⟨H,0,none⟩=some (.slice B T.length D)/\w.cell? ⟨H,1,none⟩=some (.slice A P.length gc)/\H<w.heap.size/\(∀j,w.frozen? ⟨H,j,none⟩=false)/\(Value.slice B T.length D).ownBlock≠some H/\(Value.slice A P.length gc).ownBlock≠some H:=by have hb:=h.box;exact⟨by simp[World.cell?,hb],by simp[World.cell?,hb],h.lt,fun j=>by simp[World.frozen?,hb],zz h.t hb (by decide),zz h.g hb (by decide)⟩
theorem qQ.zs0{w D:World}{base H g2 cap2:Nat}{G:Nat->Prop}{T P:List Int}{M V:Option Addr}{J gc:Nat}{x:Int}(h:qQ w base H G T P M V J gc)(c:∀k,G k->k<w.heap.size)(N:zo8 (fun k=>(Value.slice M T.length J).ownBlock=some k) w D)
 (Z:D.ownsRow base 3 1 (.slice (some ⟨g2,0,none⟩) (T.length+1) cap2) (T.length+1) (zsI T++ [.int .i64 x])) (E:(Value.slice M T.length J).ownBlock=some g2∨w.heap.size<=g2):
 qQ (D.setCell ⟨H,0,none⟩ (.slice (some ⟨g2,0,none⟩) (T.length+1) cap2)) base H G (T++ [x]) P (some ⟨g2,0,none⟩) V cap2 gc/\zo8 (fun k=>k=H∨(Value.slice M T.length J).ownBlock=some k) w (D.setCell ⟨H,0,none⟩ (.slice (some ⟨g2,0,none⟩) (T.length+1) cap2)):=by
 obtain⟨-,-,a,-,Y,d⟩:=h.facts;have O:D.heap[H]?=w.heap[H]?:=N.block H a Y;have U:g2≠H:=by
  rcases E with B | B
  ·rintro rfl;exact Y B
  ·omega
 have I:zo8 (fun k=>k=H) D (D.setCell ⟨H,0,none⟩ (.slice (some ⟨g2,0,none⟩) (T.length+1) cap2)):=(zo8.refl (fun k=>k=H) D).setCell (p:=⟨H,0,none⟩) (.inl rfl) _;have h0:=N.size;refine⟨⟨?_,?_,?_,h.nb,fun k A X=>?_,h.ng,fun k A e=>?_⟩,(N.mono (G:=fun k=>k=H∨(Value.slice M T.length J).ownBlock=some k) fun k A=>.inr A).trans I fun k A=>.inl (.inl A)⟩
 ·have b:=zi (i:=0) (u:=.slice (some ⟨g2,0,none⟩) (T.length+1) cap2) (O.trans h.box);rw[List.length_append,List.length_singleton];simpa using b
 ·rw[List.length_append,List.length_singleton,zhN];refine xW Z fun k A=>?_;obtain rfl:g2=k:=Option.some.inj A;exact I.block g2 (Z.lt g2 rfl).2 U
 ·refine xW h.g fun k A=>?_;have R:=(h.g.lt k A).2;exact(I.block k (by omega) (fun e=>d (by rw[A,e]))).trans (N.block k R fun e=>h.ne k e A)
 ·obtain rfl:g2=k:=Option.some.inj A;rcases E with B | B
  ·exact h.nt g2 B X
  ·have:=c g2 X;omega
 ·obtain rfl:g2=k:=Option.some.inj A;rcases E with B | B
  ·exact h.ne g2 B e
  ·have:=(h.g.lt g2 e).2;omega
theorem qQ.zs3{w D:World}{base H g2 cap2:Nat}{G:Nat->Prop}{T P:List Int}{V J:Option Addr}{U gc:Nat}{x:Int}(h:qQ w base H G T P V J U gc)(c:∀k,G k->k<w.heap.size)(M:zo8 (fun k=>(Value.slice J P.length gc).ownBlock=some k) w D)
 (Y:D.ownsRow base 3 1 (.slice (some ⟨g2,0,none⟩) (P.length+1) cap2) (P.length+1) (zsI P++ [.int .i64 x])) (E:(Value.slice J P.length gc).ownBlock=some g2∨w.heap.size<=g2):
 qQ (D.setCell ⟨H,1,none⟩ (.slice (some ⟨g2,0,none⟩) (P.length+1) cap2)) base H G T (P++ [x]) V (some ⟨g2,0,none⟩) U cap2/\zo8 (fun k=>k=H∨(Value.slice J P.length gc).ownBlock=some k) w (D.setCell ⟨H,1,none⟩ (.slice (some ⟨g2,0,none⟩) (P.length+1) cap2)):=by
 obtain⟨-,-,a,-,d,Z⟩:=h.facts;have N:D.heap[H]?=w.heap[H]?:=M.block H a Z;have R:g2≠H:=by
  rcases E with B | B
  ·rintro rfl;exact Z B
  ·omega
 have I:zo8 (fun k=>k=H) D (D.setCell ⟨H,1,none⟩ (.slice (some ⟨g2,0,none⟩) (P.length+1) cap2)):=(zo8.refl (fun k=>k=H) D).setCell (p:=⟨H,1,none⟩) (.inl rfl) _;have h0:=M.size;refine⟨⟨?_,?_,?_,h.nb,h.nt,fun k A X=>?_,fun k A e=>?_⟩,(M.mono (G:=fun k=>k=H∨(Value.slice J P.length gc).ownBlock=some k) fun k A=>.inr A).trans I fun k A=>.inl (.inl A)⟩
 ·have b:=zi (i:=1) (u:=.slice (some ⟨g2,0,none⟩) (P.length+1) cap2) (N.trans h.box);rw[List.length_append,List.length_singleton];simpa using b
 ·refine xW h.t fun k A=>?_;have O:=(h.t.lt k A).2;exact(I.block k (by omega) (fun e=>d (by rw[A,e]))).trans (M.block k O fun e=>h.ne k A e)
 ·rw[List.length_append,List.length_singleton,zhN];refine xW Y fun k A=>?_;obtain rfl:g2=k:=Option.some.inj A;exact I.block g2 (Y.lt g2 rfl).2 R
 ·obtain rfl:g2=k:=Option.some.inj A;rcases E with B | B
  ·exact h.ng g2 B X
  ·have:=c g2 X;omega
 ·obtain rfl:g2=k:=Option.some.inj e;rcases E with B | B
  ·exact h.ne g2 A B
  ·have:=(h.t.lt g2 A).2;omega
theorem qQ.zs1{w:World}{base H:Nat}{G:Nat->Prop}{T P:List Int}{B D:Option Addr}{E gc:Nat}(h:qQ w base H G T P B D E gc){m:Nat}(hm:m<T.length):∃r,B=some ⟨r,0,none⟩/\r<w.heap.size/\w.cell? ⟨r,m,none⟩=some (.int .i64 (T.getD m 0)):=by
 rcases h.t.2 with⟨_,h0⟩ | ⟨g,cap,cur,J,hb,I,_⟩
 ·omega
 ·injection J with e1
  subst e1;have A:=h.t.cells (g:=g) rfl m _ (zjW hm);rw[qz]at A;exact⟨g,rfl,(zd I).1,A⟩
theorem qQ.ztO{w:World}{base H:Nat}{G:Nat->Prop}{T P:List Int}{E A:Option Addr}{D gc:Nat}(h:qQ w base H G T P E A D gc)(hp:0<P.length):∃r,A=some ⟨r,0,none⟩/\r<w.heap.size/\∀m,m<P.length->w.cell? ⟨r,m,none⟩=some (.int .i64 (P.getD m 0)):=by
 rcases h.g.2 with⟨_,h0⟩ | ⟨g,cap,cur,J,hb,I,_⟩
 ·omega
 ·injection J with e1
  subst e1;refine⟨g,rfl,(zd I).1,fun m hm=>?_⟩;have B:=h.g.cells (g:=g) rfl m _ (zjW hm);rw[qz]at B;exact B
theorem zlw{w:World}{base H:Nat}{G:Nat->Prop}{T P:List Int}{D E:Option Addr}{J gc:Nat}(h:qQ w base H G T P D E J gc){S:Sc}(B:T=S.zpV){m:Nat}{t:Tk}(A:S.ts[m]?=some t):∃r,D=some ⟨r,0,none⟩/\r<w.heap.size/\w.cell? ⟨r,m,none⟩=some (.int .i64 t.zpc):=by have N:=(ze A).1;obtain⟨r,M,I,O⟩:=h.zs1 (m:=m) (by rw[B];simp[Sc.zpV];exact N);refine⟨r,M,I,?_⟩;rw[O,B];simp[Sc.zpV,List.getD_eq_getElem?_getD,A]
theorem zjt{w:World}{base H:Nat}{G:Nat->Prop}{T P:List Int}{M O:Option Addr}{I gc:Nat}(h:qQ w base H G T P M O I gc){S:Sc}{b:Nat}(ok:S.Ok b)(D:S.Kp P){V:Nat}{a c:Nat}(X:a<S.gs.length)(N:c<S.gs.length)(W:World)(hb:Below w.heap.size w W):
 Calls prog 14 #[.agg #[.slice M V I,.slice O S.gs.length gc],.int .i64 a,.int .i64 c] W fun z w'=>z=.returned (.bool (S.sub a c))/\Below W.heap.size W w':=by
 have h3:=ok.zqg;have h4:=ok.gl;obtain⟨r,rfl,U,B⟩:=h.ztO (by rw[D.len];omega);have hu:=ziW P S.gs.length (.slice M V I) (some ⟨r,0,none⟩) gc a c W (fun k A=>(hb.cell (p:=⟨r,k,none⟩) U).trans (B k (by rw[D.len];exact A))) (fun _=>⟨r,rfl⟩) (fun r' E=>by
  obtain rfl:r=r':=by injection E with e1;injection e1
  exact zf U hb.size) X (by omega) N (fun k h0 A=>by
  obtain⟨m,J,R,_⟩:=D.subS ok A (by omega) N;rw[J];omega) ⟨_,_,_,rfl⟩
 exact hu.mono fun z w' ⟨J,R⟩=>⟨by rw[J,D.up ok N a a (zg _) X],R⟩
section
attribute [local go_sem ↓] Go.wp_at_zero Go.wp_at_succ
theorem zlx:(prog.info? 3).map (fun i=>(i.zero,i.size,i.bytes))=some (some (.int .i64 0),1,8):=by kernel_rfl
theorem zju(
 a0 U a2 a3 a4:Int) (la:Option Addr) (n lc:Nat) (f:Nat->Ev) (w:World) (ht:uz w) (h0:0<=a0/\a0<=65535) (h1:0<=U/\U<=65535) (h2:0<=a2/\a2<=65535) (h3:0<=a3/\a3<=65535) (h4:0<=a4/\a4<=65535)
 (hE:zos w la n f) (hI:∀j,j<n->zpY (f j).kind/\(f j).Ok) (hn:n<=9223372036854775807):
 Calls prog 4 #[.agg #[.int .u16 a0,.int .u16 U,.int .u16 a2,.int .u16 a3,.int .u16 a4],.slice la n lc] w fun z w'=>z=.returned (.bool true)/\Below w.heap.size w w':=by
 obtain⟨i0,hi,K9,Kj,Kc⟩:=info_parts zlx;have HT:=zc ht;have HE:=zc (And.intro hE hI);have Hj:Hid (Sc.Fit (Sc.new (1+a0%8).toNat (1+U) a2 a3 (1+a4)) 0):=zc (zjP _ _ _ _ _ (by omega) (by omega) (by omega) (by omega));obtain⟨w1,Hr⟩:=zh (w.alloc (.cells #[.int .u16 a0,.int .u16 U,.int .u16 a2,.int .u16 a3,.int .u16 a4] 23))
 have kr:Below w.heap.size w w1:=by rw[Hr];exact zk w _
 have H0:w1.heap[w.heap.size]?=some (.cells #[.int .u16 a0,.int .u16 U,.int .u16 a2,.int .u16 a3,.int .u16 a4] 23 (0,0)):=by rw[Hr];exact heap_alloc_new w _
 have c0:w1.cell? ⟨w.heap.size,0,none⟩=some (.int .u16 a0):=by simp[World.cell?,H0]
 have c1:w1.cell? ⟨w.heap.size,1,none⟩=some (.int .u16 U):=by simp[World.cell?,H0]
 have c2:w1.cell? ⟨w.heap.size,2,none⟩=some (.int .u16 a2):=by simp[World.cell?,H0]
 have c3:w1.cell? ⟨w.heap.size,3,none⟩=some (.int .u16 a3):=by simp[World.cell?,H0]
 have c4:w1.cell? ⟨w.heap.size,4,none⟩=some (.int .u16 a4):=by simp[World.cell?,H0]
 have Kd:=zc (ziV a0 U a2 a3 a4 w1 h0 h1 h2 h3 h4);have km:=zc kr;have ma:=zc Hr;obtain⟨S0,kf⟩:=zh (Sc.new (1+a0%8).toNat (1+U) a2 a3 (1+a4))
 have kc:Hid (S0.Fit 0/\S0.Kp [-1]/\S0.zpV= []):=zc (by rw[kf];exact⟨Hj.out,zna _ _ _ _ _,rfl⟩);rw[<-kf]at Kd;clear ht hE hI kr H0 Hj h0 h1 h2 h3 h4 Hr kf;go_enter func4,ntmps4;go_upto_region 1 with(fail)
 rw[show w.alloc (.cells #[.int .u16 a0,.int .u16 U,.int .u16 a2,.int .u16 a3,.int .u16 a4] 23)=w1 from ma.out.symm];go_wp2_with fail;refine Kd.out.mono ?_;rintro z K ⟨s,L,rfl,hs,ki⟩;obtain⟨w3,Hd⟩:=zh ((K.alloc (.cells #[.int .i64 (-1)] 3)).alloc (.cells #[.slice none 0 0,.slice (some ⟨K.heap.size,0,none⟩) 1 1] 45))
 have kj:=zc (zj km.out ki km.out.size);have Hv:Below K.heap.size K w3:=by rw[Hd];exact(zk K _).alloc (by simp) _
 have Kf:=zc (zj kj.out Hv kj.out.size);have K2:zq w3 (fun k=>w1.heap.size<=k/\k<K.heap.size) s S0 L:=(hs.zpy).behind Hv;obtain⟨H,hH⟩:=zh (K.heap.size+1)
 have Hh:qQ w3 w.heap.size H (fun k=>w1.heap.size<=k/\k<K.heap.size) [] [-1] none (some ⟨K.heap.size,0,none⟩) 0 1:=by
  have mr:=kj.out.size;refine⟨?_,World.ownsRow_nil _ _ _ _,?_,⟨by rw[hH];omega,by omega⟩,fun k hk=>by simp[Value.ownBlock]at hk,fun k hk=>?_,fun k hk=>by simp[Value.ownBlock]at hk⟩
  ·have h:=heap_alloc_new (K.alloc (.cells #[.int .i64 (-1)] 3)) (.cells #[.slice none 0 0,.slice (some ⟨K.heap.size,0,none⟩) 1 1] 45);rw[show(K.alloc (.cells #[.int .i64 (-1)] 3)).heap.size=H by rw[hH];simp]at h;rw[Hd];exact h
  ·refine⟨rfl,.inr ⟨K.heap.size,1,#[.int .i64 (-1)],rfl,by omega,?_,zg _,by show 1<=maxLen;unfold maxLen;omega,rfl,rfl⟩⟩;rw[Hd];exact(Below.heap_alloc _ _ _ (by simp)).trans (heap_alloc_new K _)
  ·obtain rfl:K.heap.size=k:=Option.some.inj hk;omega
 have kp:=zc (And.intro K2 Hh);have Kg:=zc (And.intro Hd hH);clear hs ki Hv K2 Hh Hd hH c0 c1 c2 c3 c4;go_upto_region 5 with(fail)
 rw[show(K.alloc (.cells #[.int .i64 (-1)] 3)).alloc (.cells #[.slice none 0 0,.slice (some ⟨K.heap.size,0,none⟩) 1 1] 45)=w3 from Kg.out.1.symm,<-Kg.out.2];go_wp2_with fail;go_loopw [7,8] (fun v7 _ wr=>∃(k:Nat) (S:Sc) (L:Lay) (G:Nat->Prop) (P:List Int) (q o:Option Addr) (l gc:Nat),v7=.int .i64 k/\k<=n/\k<=100/\zq wr G s S L/\(∀x,G x->w.heap.size<=x/\x<wr.heap.size)/\S.Fit k/\S.Kp P/\qQ wr w.heap.size H G S.zpV P q o l gc/\Below w.heap.size w wr) (fun v7 _ _=>100-(intOf v7).toNat)
 case atStart=>exact⟨0,S0,L,_,[-1],none,some ⟨K.heap.size,0,none⟩,0,1,rfl,by omega,by omega,kp.out.1,fun x E=>⟨Nat.le_trans km.out.size E.1,by have:=Kf.out.size;have h:=(kp.out.2.g.lt K.heap.size rfl).2;omega⟩,kc.out.1,kc.out.2.1,by rw[kc.out.2.2];exact kp.out.2,Kf.out⟩
 case round=>
  obtain⟨k,S,L,G,P,q,o,l,gc,rfl,mn,mw,hs,hG,Hk,K7,Hh,hb⟩:=hrel;have HS:=zc hs;have HG:=zc hG;have D:=zc (And.intro Hk K7);have H8:=zc Hh;have HB:=zc hb;clear hs hG Hk K7 Hh hb;by_cases hk:k<n/\k<100
  ·have K8:(
    k:Int) <(n:Int):=by omega
   have kx:(k:Int) <100:=by omega
   obtain⟨b,off,rfl,C,e0,e1,e2,e3,e4,e5⟩:=HE.out.1 k hk.1;obtain⟨k5,k4⟩:=HE.out.2 k hk.1;obtain⟨e,he⟩:=zh (f k)
   rw[<-he]at e0 e1 e2 e3 e4 e5 k5 k4;have Hb:=zc C;replace e0:=(HB.out.cell (p:=⟨b,off+k*6,none⟩) C).trans e0;replace e1:=(HB.out.cell (p:=⟨b,off+k*6+1,none⟩) C).trans e1;replace e2:=(HB.out.cell (p:=⟨b,off+k*6+2,none⟩) C).trans e2;replace e3:=(HB.out.cell (p:=⟨b,off+k*6+3,none⟩) C).trans e3;replace e4:=(HB.out.cell (p:=⟨b,off+k*6+4,none⟩) C).trans e4;replace e5:=(HB.out.cell (p:=⟨b,off+k*6+5,none⟩) C).trans e5;have Hi:=zf C HB.out.size;clear he C
   have hq:Hid (∀v:Value,v=.int .i64 ((k+1:Nat):Int)->∃(k:Nat) (S:Sc) (L:Lay) (G:Nat->Prop) (P:List Int) (q o:Option Addr) (l gc:Nat),v=.int .i64 k/\k<=n/\k<=100/\zq wr G s S L/\(∀x,G x->w.heap.size<=x/\x<wr.heap.size)/\S.Fit k/\S.Kp P/\qQ wr w.heap.size H G S.zpV P q o l gc/\Below w.heap.size w wr):=zc (fun v hv=>⟨k+1,S,L,G,P,q,o,l,gc,hv,by omega,by omega,HS.out,HG.out,D.out.1.more (by omega),D.out.2,H8.out,HB.out⟩);by_cases k3:e.kind=3
   ·have q3:(e.kind == 3)=true:=by simp[k3]
    clear k3 e1 e2 e3 e4 e5;go_wp2_with fail;go_roundw
    case rel=>exact hq.out _ (by go_num)
    case measure=>simp[intOf];omega
   ·by_cases k2:e.kind=2
    ·have q3:(e.kind == 3)=false:=by simp[k3]
     have q2:(e.kind == 2)=true:=by simp[k2]
     clear k3 k2 e1 e2 e3 e4 e5;go_wp2_with fail;go_roundw
     case rel=>exact hq.out _ (by go_num)
     case measure=>simp[intOf];omega
    ·have q3:(e.kind == 3)=false:=by simp[k3]
     have q2:(e.kind == 2)=false:=by simp[k2]
     have HD:=zc (zhL zsi zsi e k wr G s S L HS.out k5 k4 D.out.1 (by omega) D.out.2.zpc (fun _ _ h=>h.elim) (fun _ _ h=>h.elim) (fun h2=>absurd h2 k2) (fun h3=>absurd h3 k3));have mh:Hid e.Good:=zc ⟨k5,k4,k2,k3⟩;clear k3 k2 k5 k4;go_wp2_with fail;refine HD.out.mono ?_;rintro z Q ⟨L',nn,ff,S',K3,rfl,hl⟩;obtain⟨r1,r2,r3⟩:=znv K3 D.out.1 (by omega) mh.out D.out.2;obtain⟨G4,Hw⟩:∃G4:Nat->Prop,G4=fun x=>Ext G wr Q x/\x<Q.heap.size:=⟨_,rfl⟩
     have mx:=hl.2.size;have Kh:zq Q G4 s S' L':=by rw[Hw];exact hl.1.zpy
     have H4:∀x,G4 x->w.heap.size<=x/\x<Q.heap.size:=by
      rw[Hw];rintro x ⟨E | E,k7⟩
      ·exact⟨(HG.out x E).1,k7⟩
      ·exact⟨by have:=HB.out.size;omega,k7⟩
     have Hl:∀x,x<wr.heap.size->G4 x->G x:=by
      rw[Hw];rintro x E ⟨h | h,-⟩
      ·exact h
      ·omega
     have kq:Below w.heap.size w Q:=HB.out.trans (hl.2.below HB.out.size fun x E=>(HG.out x E).1);have Ki:qQ Q w.heap.size H G4 S.zpV P q o l gc:=H8.out.kept (fun x E hn=>hl.2.block x E hn) Hl;obtain⟨J,Hu⟩:=zh (Q.alloc (.cells #[.int .i64 nn,.int .i64 ff] 31))
     have hz:Below Q.heap.size Q J:=by rw[Hu];exact zk Q _
     have kb:J.heap[Q.heap.size]?=some (.cells #[.int .i64 nn,.int .i64 ff] 31 (0,0)):=by rw[Hu];exact heap_alloc_new Q _
     have Ht:=zc (Kh.behind hz);have h7:Hid (∀x,G4 x->w.heap.size<=x/\x<J.heap.size):=zc fun x E=>⟨(H4 x E).1,by have:=(H4 x E).2;have:=hz.size;omega⟩
     have B:Hid (qQ J w.heap.size H G4 S.zpV P q o l gc):=zc (Ki.kept (fun x E _=>hz.block x E) fun x _ E=>E);have ho:=zc (zj kq hz kq.size);have HR:=zc (And.intro r1 (And.intro r2 r3));have mv:Hid (S'.ts.length<=900/\S'.gs.length<=901):=zc ⟨by have:=r3.1.tl;have:=r3.1.zqg;omega,by have:=r3.1.gl;have:=r3.1.zqg;omega⟩;have Z:Hid (S.zpV.length<=900/\P.length<=901):=zc ⟨by have h:=D.out.1.1.tl;have:=D.out.1.1.zqg;simp[Sc.zpV];omega,by rw[D.out.2.len];have:=D.out.1.1.gl;have:=D.out.1.1.zqg;omega⟩;obtain⟨A,hA⟩:=zh Q.heap.size
     have U:J.cell? ⟨A,1,none⟩=some (.int .i64 ff):=by rw[hA];simp[World.cell?,kb]
     have al:A<J.heap.size:=by rw[hA];exact(zd kb).1
     have H7:=zc (And.intro Hu hA);have H3:J.heap[b]?=wr.heap[b]?:=(hz.block b (by omega)).trans (hl.2.block b Hi fun h=>by have:=(HG.out b h).1;have:=Hb.out;omega);replace e0:J.cell? ⟨b,off+k*6,none⟩=some (.int .i64 e.kind):=by rw[<-e0];simp[World.cell?,H3]
     replace e1:J.cell? ⟨b,off+k*6+1,none⟩=some (.int .i64 e.a):=by rw[<-e1];simp[World.cell?,H3]
     have Y:b<J.heap.size:=by have:=hz.size;omega
     clear K3 hl r1 r2 r3 Hw Kh H4 Hl kq Ki hz kb Hu hA H3 e2 e3 e4 e5 Hi;go_upto_region 10 with(fail)
     rw[show Q.alloc (.cells #[.int .i64 nn,.int .i64 ff] 31)=J from H7.out.1.symm,<-H7.out.2];by_cases Hf:ff=0
     ·subst Hf;by_cases k6:e.kind=6
      ·have q6:(e.kind == 6)=true:=by simp[k6]
       have q1:(e.kind == 1)=false:=by simp[k6]
       have Hg:=zc k6;clear k6;obtain⟨T,O⟩:=zh S.zpV
       have Hq:=zc O;rw[<-O]at B Z;clear O;obtain⟨h0,h1,M,hf,n1,n2⟩:=B.out.facts;have ko:=zc (And.intro n1 n2);have F:J.heap[A]?=some (.cells #[.int .i64 nn,.int .i64 0] 31 (0,0)):=by rw[H7.out.2,H7.out.1];exact heap_alloc_new Q _
       have kk:=zc (And.intro (zz B.out.t F (by decide)) (zz B.out.g F (by decide)));have kg:Hid (A≠H):=zc fun e'=>by have h2:=B.out.box;rw[<-e',F]at h2;simp only[Option.some.injEq,Obj.cells.injEq]at h2;exact absurd h2.2.1 (by decide)
       have kl:Hid (b≠H):=zc fun e'=>by have:=B.out.nb.2;have:=Hb.out;omega
       have Kt:=Hb.out;have Hn:=Z.out.1;have kv:=ho.out.size;have Hp:=Z.out.2;clear n1 n2 F;go_upto_region 11 with(fail)
       go_region_law (
        refine step_append_lies _ (by rfl) _ _ _ (by rfl) w.heap.size 3 i0 _ 1 8 underlying43 hi K9 Kj Kc rfl (by omega) (.slice q T.length l) T.length (zsI T) (by rfl) ((show J.drew.ownsRow w.heap.size 3 1 (.slice q T.length l) T.length (zsI T)from B.out.t).alloc _)
         ⟨J.heap.size,0,none⟩ 1 1 [.int .i64 e.a] (by rfl) (by rfl) (World.news_of_block (cs:=#[.int .i64 e.a]) (t:=3) (fr:=(0,0)) (heap_alloc_new J.drew _)) (by simp[Value.oneCell'])
         (by omega) (by unfold maxLen;omega) (by omega) (by first | omega | (simp;omega)) (J.heap.size+1) (by first | rfl | simp) ?_
        intro g2 cap2 I X V He ke;have ks:=zc X;have N:Hid (zo8 (fun x=>(Value.slice q T.length l).ownBlock=some x) J I):=zc (((zo8.refl (fun x=>(Value.slice q T.length l).ownBlock=some x) J).drew.alloc _).grown V fun x E=>.inl E);have H5:=zc He;have u:I.heap[H]?=J.heap[H]?:=N.out.block H M ko.out.1;have hr:I.heap[b]?=J.heap[b]?:=N.out.block b Y (fun e'=>by have:=(B.out.t.lt b e').1;omega);replace h0:I.cell? ⟨H,0,none⟩=some (.slice q T.length l):=by rw[<-h0];simp[World.cell?,u]
        replace h1:I.cell? ⟨H,1,none⟩=some (.slice o P.length gc):=by rw[<-h1];simp[World.cell?,u]
        replace e0:I.cell? ⟨b,off+k*6,none⟩=some (.int .i64 e.kind):=by rw[<-e0];simp[World.cell?,hr]
        replace e1:I.cell? ⟨b,off+k*6+1,none⟩=some (.int .i64 e.a):=by rw[<-e1];simp[World.cell?,hr]
        replace hf:∀j,I.frozen? ⟨H,j,none⟩=false:=by intro j;have h:=hf j;simp only[World.frozen?]at h ⊢;rw[u];exact h
        replace Y:=zf Y N.out.size;replace M:=zf M N.out.size;have H9:I.heap[A]?=J.heap[A]?:=N.out.block A al (kk.out.1);replace U:I.cell? ⟨A,1,none⟩=some (.int .i64 0):=by rw[<-U];simp[World.cell?,H9]
        replace al:=zf al N.out.size;clear X V He ke u hr H9)
       all_goals
        obtain⟨p1,p2⟩:=B.out.zs0 (x:=e.a) (g2:=g2) (cap2:=cap2) (fun x E=>(h7.out x E).2) N.out ks.out (by
         rcases H5.out with h | h
         ·exact .inl h
         ·exact .inr (by omega))
        have Ha:(I.setCell ⟨H,0,none⟩ (.slice (some ⟨g2,0,none⟩) (T.length+1) cap2)).heap[A]?=I.heap[A]?:=Below.heap_setCell _ _ _ _ (by exact kg.out);have hh:(I.setCell ⟨H,0,none⟩ (.slice (some ⟨g2,0,none⟩) (T.length+1) cap2)).heap[b]?=I.heap[b]?:=Below.heap_setCell _ _ _ _ (by exact kl.out);have HP:=zc (And.intro p1 p2);replace U:(I.setCell ⟨H,0,none⟩ (.slice (some ⟨g2,0,none⟩) (T.length+1) cap2)).cell? ⟨A,1,none⟩=some (.int .i64 0):=by rw[<-U];simp[World.cell?,Ha]
        replace e0:(I.setCell ⟨H,0,none⟩ (.slice (some ⟨g2,0,none⟩) (T.length+1) cap2)).cell? ⟨b,off+k*6,none⟩=some (.int .i64 e.kind):=by rw[<-e0];simp[World.cell?,hh]
        clear p1 p2 Ha hh h0 h1 hf M e1;generalize I.setCell ⟨H,0,none⟩ (.slice (some ⟨g2,0,none⟩) (T.length+1) cap2)=w9 at HP U e0 ⊢;have ku:=World.block_lt_of_cell? w9 _ e0;have mg:=World.block_lt_of_cell? w9 _ U;go_wp2_with fail;go_roundw
        case rel=>
         obtain⟨r1,r2,r3⟩:=HR.out;rw[show e.more 0 P=P from if_neg fun h=>by have:=h.1;have:=Hg.out;omega]at r1;rw[show e.zqJ 0 S.zpV=S.zpV++ [e.a]from if_pos ⟨Hg.out,rfl⟩,<-Hq.out]at r2;obtain⟨p1,p2⟩:=HP.out;refine⟨k+1,S',L',G4,P,some ⟨g2,0,none⟩,o,cap2,gc,by go_num,by omega,by omega,Ht.out.kept fun x E hg=>p2.block x E ?_,fun x E=>⟨(h7.out x E).1,zf (h7.out x E).2 p2.size⟩,r3,r1,by rw[r2];exact p1,ho.out.trans (p2.below ho.out.size fun x E=>?_)⟩
         ·rintro(h | h)
          ·exact B.out.nb.1 (h▸hg)
          ·exact B.out.nt x h hg
         ·rcases E with h | h
          ·rw[h];exact B.out.nb.2
          ·exact(B.out.t.lt x h).1
        case measure=>simp[intOf];omega
      ·have q6:(e.kind == 6)=false:=by simp[k6]
       by_cases k1:e.kind=1
       ·have q1:(e.kind == 1)=true:=by simp[k1]
        have Hg:=zc k1;clear k1 k6;obtain⟨T,O⟩:=zh S.zpV
        have Hq:=zc O;rw[<-O]at B Z;clear O;obtain⟨h0,h1,M,hf,n1,n2⟩:=B.out.facts;have ko:=zc (And.intro n1 n2);have F:J.heap[A]?=some (.cells #[.int .i64 nn,.int .i64 0] 31 (0,0)):=by rw[H7.out.2,H7.out.1];exact heap_alloc_new Q _
        have kk:=zc (And.intro (zz B.out.t F (by decide)) (zz B.out.g F (by decide)));have kg:Hid (A≠H):=zc fun e'=>by have h2:=B.out.box;rw[<-e',F]at h2;simp only[Option.some.injEq,Obj.cells.injEq]at h2;exact absurd h2.2.1 (by decide)
        have kl:Hid (b≠H):=zc fun e'=>by have:=B.out.nb.2;have:=Hb.out;omega
        have Kt:=Hb.out;have Hn:=Z.out.1;have kv:=ho.out.size;have Hp:=Z.out.2;clear n1 n2 F;go_upto_region 13 with(fail)
        go_region_law (
         refine step_append_lies _ (by rfl) _ _ _ (by rfl) w.heap.size 3 i0 _ 1 8 underlying43 hi K9 Kj Kc rfl (by omega) (.slice o P.length gc) P.length (zsI P) (by rfl) ((show J.drew.ownsRow w.heap.size 3 1 (.slice o P.length gc) P.length (zsI P)from B.out.g).alloc _)
          ⟨J.heap.size,0,none⟩ 1 1 [.int .i64 e.a] (by rfl) (by rfl) (World.news_of_block (cs:=#[.int .i64 e.a]) (t:=3) (fr:=(0,0)) (heap_alloc_new J.drew _)) (by simp[Value.oneCell'])
          (by omega) (by unfold maxLen;omega) (by omega) (by first | omega | (simp;omega)) (J.heap.size+1) (by first | rfl | simp) ?_
         intro g2 cap2 I X V He ke;have ks:=zc X;have N:Hid (zo8 (fun x=>(Value.slice o P.length gc).ownBlock=some x) J I):=zc (((zo8.refl (fun x=>(Value.slice o P.length gc).ownBlock=some x) J).drew.alloc _).grown V fun x E=>.inl E);have H5:=zc He;have u:I.heap[H]?=J.heap[H]?:=N.out.block H M ko.out.2;have hr:I.heap[b]?=J.heap[b]?:=N.out.block b Y (fun e'=>by have:=(B.out.g.lt b e').1;omega);replace h0:I.cell? ⟨H,0,none⟩=some (.slice q T.length l):=by rw[<-h0];simp[World.cell?,u]
         replace h1:I.cell? ⟨H,1,none⟩=some (.slice o P.length gc):=by rw[<-h1];simp[World.cell?,u]
         replace e0:I.cell? ⟨b,off+k*6,none⟩=some (.int .i64 e.kind):=by rw[<-e0];simp[World.cell?,hr]
         replace e1:I.cell? ⟨b,off+k*6+1,none⟩=some (.int .i64 e.a):=by rw[<-e1];simp[World.cell?,hr]
         replace hf:∀j,I.frozen? ⟨H,j,none⟩=false:=by intro j;have h:=hf j;simp only[World.frozen?]at h ⊢;rw[u];exact h
         replace Y:=zf Y N.out.size;replace M:=zf M N.out.size;have H9:I.heap[A]?=J.heap[A]?:=N.out.block A al (kk.out.2);replace U:I.cell? ⟨A,1,none⟩=some (.int .i64 0):=by rw[<-U];simp[World.cell?,H9]
         replace al:=zf al N.out.size;clear X V He ke u hr H9)
        all_goals
         obtain⟨p1,p2⟩:=B.out.zs3 (x:=e.a) (g2:=g2) (cap2:=cap2) (fun x E=>(h7.out x E).2) N.out ks.out (by
          rcases H5.out with h | h
          ·exact .inl h
          ·exact .inr (by omega))
         have Ha:(I.setCell ⟨H,1,none⟩ (.slice (some ⟨g2,0,none⟩) (P.length+1) cap2)).heap[A]?=I.heap[A]?:=Below.heap_setCell _ _ _ _ (by exact kg.out);have hh:(I.setCell ⟨H,1,none⟩ (.slice (some ⟨g2,0,none⟩) (P.length+1) cap2)).heap[b]?=I.heap[b]?:=Below.heap_setCell _ _ _ _ (by exact kl.out);have HP:=zc (And.intro p1 p2);replace U:(I.setCell ⟨H,1,none⟩ (.slice (some ⟨g2,0,none⟩) (P.length+1) cap2)).cell? ⟨A,1,none⟩=some (.int .i64 0):=by rw[<-U];simp[World.cell?,Ha]
         replace e0:(I.setCell ⟨H,1,none⟩ (.slice (some ⟨g2,0,none⟩) (P.length+1) cap2)).cell? ⟨b,off+k*6,none⟩=some (.int .i64 e.kind):=by rw[<-e0];simp[World.cell?,hh]
         clear p1 p2 Ha hh h0 h1 hf M e1;generalize I.setCell ⟨H,1,none⟩ (.slice (some ⟨g2,0,none⟩) (P.length+1) cap2)=w9 at HP U e0 ⊢;have ku:=World.block_lt_of_cell? w9 _ e0;have mg:=World.block_lt_of_cell? w9 _ U;go_wp2_with fail;go_roundw
         case rel=>
          obtain⟨r1,r2,r3⟩:=HR.out;rw[show e.more 0 P=P++ [e.a]from if_pos ⟨Hg.out,rfl⟩]at r1;rw[show e.zqJ 0 S.zpV=S.zpV from if_neg fun h=>by have:=h.1;have:=Hg.out;omega,<-Hq.out]at r2;obtain⟨p1,p2⟩:=HP.out;refine⟨k+1,S',L',G4,P++ [e.a],q,some ⟨g2,0,none⟩,l,cap2,by go_num,by omega,by omega,Ht.out.kept fun x E hg=>p2.block x E ?_,fun x E=>⟨(h7.out x E).1,zf (h7.out x E).2 p2.size⟩,r3,r1,by rw[r2];exact p1,ho.out.trans (p2.below ho.out.size fun x E=>?_)⟩
          ·rintro(h | h)
           ·exact B.out.nb.1 (h▸hg)
           ·exact B.out.ng x h hg
          ·rcases E with h | h
           ·rw[h];exact B.out.nb.2
           ·exact(B.out.g.lt x h).1
         case measure=>simp[intOf];omega
       ·have q1:(e.kind == 1)=false:=by simp[k1]
        have HK:Hid (e.more 0 P=P/\e.zqJ 0 S.zpV=S.zpV):=zc ⟨if_neg fun h=>k1 h.1,if_neg fun h=>k6 h.1⟩;clear k1 k6 e1;go_wp2_with fail;go_roundw
        case rel=>
         obtain⟨r1,r2,r3⟩:=HR.out;rw[HK.out.1]at r1;rw[HK.out.2]at r2;exact⟨k+1,S',L',G4,P,q,o,l,gc,by go_num,by omega,by omega,Ht.out,h7.out,r3,r1,by rw[r2];exact B.out,ho.out⟩
        case measure=>simp[intOf];omega
     ·have qf:(ff == 0)=false:=by simp[Hf]
      have HK:Hid (e.more ff P=P/\e.zqJ ff S.zpV=S.zpV):=zc ⟨if_neg fun h=>Hf h.2,if_neg fun h=>Hf h.2⟩;clear Hf e1;go_wp2_with fail;go_roundw
      case rel=>
       obtain⟨r1,r2,r3⟩:=HR.out;rw[HK.out.1]at r1;rw[HK.out.2]at r2;exact⟨k+1,S',L',G4,P,q,o,l,gc,by go_num,by omega,by omega,Ht.out,h7.out,r3,r1,by rw[r2];exact B.out,ho.out⟩
      case measure=>simp[intOf];omega
  ·have E:¬k<n∨(k<n/\¬k<100):=by omega
   rename World=>R
   obtain⟨T,O⟩:=zh S.zpV
   have Hq:=zc O;rw[<-O]at H8;obtain⟨nt,hj⟩:=zh S.ts.length
   obtain⟨ng,h8⟩:=zh S.gs.length
   have k9:T.length=nt:=by rw[O,hj];simp[Sc.zpV]
   have ka:P.length=ng:=by rw[h8];exact D.out.2.len
   obtain⟨h0,h1,M,hf,n1,n2⟩:=H8.out.facts;rw[k9]at h0;rw[ka]at h1;have mc:=zc (And.intro hj (And.intro h8 (And.intro k9 ka)));have mm:nt<=900:=by rw[hj];have:=D.out.1.1.tl;have:=D.out.1.1.zqg;omega
   have ml:ng<=901:=by rw[h8];have:=D.out.1.1.gl;have:=D.out.1.1.zqg;omega
   have me:Hid (∀W,Below R.heap.size R W->Calls prog 12 #[ptr s] W fun z w'=>z=.returned (.int .i64 nt)/\w'=W):=zc fun W hb=>by rw[hj];exact zhE W G s S L (HS.out.behind hb)
   have Kv:Hid (∀W,Below R.heap.size R W->Calls prog 13 #[ptr s] W fun z w'=>z=.returned (.int .i64 ng)/\w'=W):=zc fun W hb=>by rw[h8];exact zfT W G s S L (HS.out.behind hb)
   have Kr:Hid (∀g k,k<=900->0<=S.zrn g k/\S.zrn g k<=810000000000000):=zc fun g k hk=>zld D.out.1.1 g k hk;have mf:Hid (∀m,0<=S.book.bt m/\S.book.bt m<=900000000000):=zc fun m=>by have kr:=D.out.1.1.bk.bt m;have ki:=D.out.1.1.bk.total;have Hv:=D.out.1.1.zqg;omega
   have Km:Hid (∀m,m<nt->∃t,S.ts[m]?=some t):=zc fun m hm=>⟨_,List.getElem?_eq_getElem (by rw[<-hj];exact hm)⟩
   have ky:Hid (∀m t,S.ts[m]?=some t->∃r,q=some ⟨r,0,none⟩/\r<R.heap.size/\R.cell? ⟨r,m,none⟩=some (.int .i64 t.zpc)):=zc fun m t ht=>zlw H8.out O ht;have kz:Hid (∀(a c:Nat),a<S.gs.length->c<S.gs.length->∀W,Below R.heap.size R W->Calls prog 14 #[.agg #[.slice q nt l,.slice o ng gc],.int .i64 a,.int .i64 c] W fun z w'=>z=.returned (.bool (S.sub a c))/\Below W.heap.size W w'):=zc fun a c ha hc W hb=>by rw[h8];exact zjt H8.out D.out.1.1 D.out.2 ha hc W hb
   have Ho:Hid (∀m,m<nt->∀W,Below R.heap.size R W->Calls prog 8 #[ptr s,.int .i64 m] W (zeT W S m)):=zc fun m hm W hb=>zd7 m k W G s S L (HS.out.behind hb) D.out.1.1 (by rw[<-hj];exact hm);have K0:Hid (∀g,g<ng->∀W,Below R.heap.size R W->Calls prog 15 #[ptr s,.int .i64 g] W (ziZ W S g)):=zc fun g hg W hb=>by
    obtain⟨y,hy⟩:∃y,S.gs[g]?=some y:=⟨_,List.getElem?_eq_getElem (by rw[<-h8];exact hg)⟩
    exact zcB g y k W G s S L (HS.out.behind hb) D.out.1.1 hy (D.out.2.all g y hy)
   have kt:Hid (∀g,g<ng->S.book.bg g=S.zrn g nt):=zc fun g hg=>by rw[hj];exact D.out.2.sum g (by rw[<-h8];exact hg)
   clear O hj h8 k9 ka n1 n2;rcases E with E | ⟨H0,k7⟩
   all_goals
    first
     | have K8:(n:Int)<=(k:Int):=by omega
     | (
      have K8:(k:Int) <(n:Int):=by omega
      have kx:(100:Int)<=(k:Int):=by omega)
    go_upto_region 14 with(fail)
    go_region_held3 (fun w'=>w'.cell? ⟨H,0,none⟩=some (.slice q nt l)/\w'.cell? ⟨H,1,none⟩=some (.slice o ng gc)) (go_keep)
     (first
      | (
       go_at_call 12;refine(me.out _ (by first | exact zv (Below.refl _ _) | exact Below.refl _ _)).mono ?_;rintro z Q ⟨rfl,k8⟩;obtain rfl:=k8.symm)
      | (
       go_at_call 13;refine(Kv.out _ (by first | exact zv (Below.refl _ _) | exact Below.refl _ _)).mono ?_;rintro z Q ⟨rfl,k8⟩;obtain rfl:=k8.symm))
   all_goals
    go_wp2_with fail;go_loopw [9,10,11] (fun v9 _ _ wx=>∃g:Nat,v9=.int .i64 g/\g<=ng/\Below R.heap.size R wx) (fun v9 _ _ _=>ng-(intOf v9).toNat)
    case atStart=>exact⟨0,rfl,by omega,zv (Below.refl _ _)⟩
    case round=>
     obtain⟨g,rfl,hg,Hs⟩:=hrel
     rename World=>wx
     have k0:=zc Hs;have x1:=(Hs.cell (p:=⟨H,1,none⟩) M).trans h1;have xl:=zf M Hs.size;clear Hs;by_cases kd:g<ng
     ·have mo:(g:Int) <(ng:Int):=by omega
      go_wp2_with fail;clear x1 xl;go_loopw [10,11] (fun v10 v11 wy=>∃m:Nat,v11=.int .i64 m/\m<=nt/\v10=.int .i64 (S.zrn g m)/\Below R.heap.size R wy) (fun _ v11 _=>nt-(intOf v11).toNat)
      case atStart=>exact⟨0,rfl,by omega,rfl,k0.out⟩
      case round=>
       obtain⟨m,rfl,hm,rfl,Hc⟩:=hrel
       rename World=>wy
       have d:=zc Hc;have y0:=(Hc.cell (p:=⟨H,0,none⟩) M).trans h0;have y1:=(Hc.cell (p:=⟨H,1,none⟩) M).trans h1;have yl:=zf M Hc.size;have Ko:=Kr.out g m (by omega);obtain⟨hd,kn⟩:=zh (S.zrn g m)
       have K4:=zc kn;rw[<-kn]at Ko ⊢;clear Hc kn;by_cases Ka:m<nt
       ·have mu:(m:Int) <(nt:Int):=by omega
        obtain⟨t,ht⟩:=Km.out m Ka;obtain⟨rt,Kb,kh,Kk⟩:=ky.out m t ht;have z0:=(d.out.cell (p:=⟨rt,m,none⟩) kh).trans Kk;have zl:=zf kh d.out.size;have mq:=zc (And.intro ht Kb);have K5:=zc (fun W (hb:Below R.heap.size R W)=>kz.out t.zpc g (D.out.2.zpc m t ht) (by rw[<-mc.out.2.1];exact kd) W hb);have mj:=zc (fun W (hb:Below R.heap.size R W)=>Ho.out m Ka W hb);have Kn:=mf.out m;obtain⟨bt,h6⟩:=zh (S.book.bt m)
        obtain⟨sb,Hy⟩:=zh (S.sub t.zpc g)
        rw[<-h6]at Kn;rw[<-Hy]at K5;have Ku:=zc (And.intro h6 Hy);have Ke:Hid (∀x,(if sb=true then hd+bt else hd)=x->S.zrn g (m+1)=x):=zc fun x E=>by
         rw[<-E];show S.zrn g m+(if S.sub (S.t m).zpc g=true then S.book.bt m else 0)=_;rw[Sc.zp0 ht,<-Hy,<-h6,<-K4.out];cases sb
         ·simp
         ·simp
        subst Kb;clear ht kh Kk h6 Hy;go_upto_region 23 with(fail)
        go_cut [125]from 118 to 125 (fun K1 wx=>K1=.bool sb/\Below R.heap.size R wx)
        case first=>
         go_region_held3 (fun w'=>w'.cell? ⟨H,0,none⟩=some (.slice (some ⟨rt,0,none⟩) nt l)/\w'.cell? ⟨H,1,none⟩=some (.slice o ng gc)/\w'.cell? ⟨rt,m,none⟩=some (.int .i64 t.zpc)) (go_keep)
          (first
           | (
            go_at_call 14;refine(K5.out _ (by first | exact zv d.out | exact d.out)).mono ?_;rintro z I ⟨rfl,H6⟩;have h9:Below wy.heap.size wy I:=⟨H6.os,H6.tape,H6.output,H6.size,H6.block⟩
            have Kw:Hid (Below R.heap.size R I):=zc (zj d.out h9 d.out.size);replace y0:=(h9.cell (p:=⟨H,0,none⟩) yl).trans y0;replace y1:=(h9.cell (p:=⟨H,1,none⟩) yl).trans y1;replace z0:=(h9.cell (p:=⟨rt,m,none⟩) zl).trans z0;clear H6 h9))
         all_goals
          go_wp2_with fail;go_meet
          case rel=>exact⟨rfl,Kw.out⟩
        case rest=>
         obtain⟨rfl,K6⟩:=hcut
         rename World=>wz
         have Hz:=zc K6;clear K6 y0 y1 yl z0 zl;have f1:=zor;cases sb with
         | false=>
          go_wp2_with fail;go_roundw
          case rel=>exact⟨m+1,by go_num,by omega,by rw[Ke.out hd (by simp)],Hz.out⟩
          case measure=>simp[intOf];omega
         | true=>
          have mb:=zc (mj.out wz Hz.out);go_wp2_with fail;refine mb.out.mono ?_;rintro z wt ⟨s1,s2,s3,s4,s5,s6,rfl,-,h5⟩;rw[<-Ku.out.1];have H2:=zc (zj Hz.out h5 Hz.out.size);clear h5;go_wp2_with fail;go_roundw
          case rel=>exact⟨m+1,by go_num,by omega,by rw[Ke.out (hd+bt) (by simp)],H2.out⟩
          case measure=>simp[intOf];omega
       ·have Kz:m=nt:=by omega
        subst Kz;have Kq:=zc (K0.out g kd wy d.out);have Kl:=zc ((kt.out g kd).trans K4.out.symm);have f2:=zo5;go_wp2_with fail;refine Kq.out.mono ?_;rintro z wt ⟨pa,sh,qu,po,sp,st,rfl,-,h5⟩;rw[Kl.out];have H2:=zc (zj d.out h5 d.out.size);clear h5;go_wp2_with fail;go_roundw
        case rel=>exact⟨g+1,by go_num,by omega,H2.out⟩
        case measure=>simp[intOf];omega
     ·have Ky:g=ng:=by omega
      subst Ky;have mi:=zc (zjs wx (HT.out.stays (zj HB.out k0.out HB.out.size)));go_wp2_with fail;refine mi.out.mono ?_;rintro z w9 ⟨rfl,hh⟩;have Ks:=zc (zj (zj HB.out k0.out HB.out.size) hh (by have:=HB.out.size;have:=k0.out.size;omega));clear hh;go_wp2;go_ret;exact⟨rfl,Ks.out⟩
end
end Go.Proofs.YtmgekibncmnmiaaGreatDoor
