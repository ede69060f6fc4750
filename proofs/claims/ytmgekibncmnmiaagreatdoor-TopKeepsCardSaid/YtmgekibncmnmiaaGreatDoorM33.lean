/- Parts of the proof of the law TopKeeps: contracts of the functions that it reaches, and plain laws of what they compute. Conditions: those in each statement. -/
import Derived.Laws.BitsAllLaws
import Derived.Laws.Externs
import Derived.Test.YtmgekibncmnmiaaGreatDoorM31
import Derived.Test.YtmgekibncmnmiaaGreatDoorM32
set_option linter.unusedVariables false
set_option maxRecDepth 100000
set_option maxHeartbeats 4000000
open Go.Proofs.Tryz
namespace Go.Proofs.YtmgekibncmnmiaaGreatDoor
open Go Go.RowKit Go.ChangeShapes Go.WideShapes
section
attribute [local go_sem ↓] Go.wp_at_zero Go.wp_at_succ
theorem qz(g k:Nat):(⟨g,0,none⟩:Addr).add k=⟨g,k,none⟩:=by unfold Addr.add;split <;> simp_all
theorem zoL{l:List Nat}{k x:Nat}(h:l[k]?=some x):(pv l)[k]?=some (.int .i64 x):=by simp[pv,h]
theorem zkC(q:List Nat)(p:Nat)(hp:p<=64)(v:Value)(base:Nat)(w:World)(X:w.ownsRow base 3 1 v q.length (pv q))(j:q.length<=64):
 Calls prog 213 #[v,.int .i64 p] w fun z w'=>(∃n:Int,z=.returned (.int .i64 n)/\(p∈q->0<=n)/\(p∉q->n= -1))/\w'=w:=by
 obtain⟨a,c,Y⟩:∃a c,v=.slice a q.length c:=by
  rcases X.2 with⟨rfl,d⟩ | ⟨g,cap,cur,Y,_⟩
  ·exact⟨none,0,by rw[d]⟩
  ·exact⟨_,_,Y⟩
 subst Y;have f:=zc X;obtain⟨n,Z⟩:=zh q.length
 rw[<-Z]at j ⊢;have b:=zc Z;clear X Z;go_enter func213,ntmps213;go_wp2;go_loop [8] (fun i=>∃k:Nat,k<=n/\i=.int .i64 k/\p∉q.take k) (fun i=>n-(intOf i).toNat)
 case atStart=>exact⟨0,by omega,rfl,by simp⟩
 case round=>
  obtain⟨k,hk,rfl,G⟩:=hrel;have H:=zc G;clear G;by_cases O:k<n
  ·have J:k<q.length:=by rw[<-b.out];exact O
   have B:=f.out;obtain⟨N,ca,U⟩:=vX B (by intro h;injection h with h1 h2;omega);injection U with e1 e2 e3
   subst e1;have M:q[k]?=some q[k]:=List.getElem?_eq_getElem J;obtain⟨x,E⟩:=zh (q[k])
   rw[<-E]at M;have A:=B.cells (g:=N) rfl _ _ (zoL M);have h3:w.cell? ⟨N,k,none⟩=some (.int .i64 x):=by rw[<-A,qz]
   have h5:=(B.lt N rfl).2;have l:=zc M;have T:=zc E;clear B e2 e3 A M E;by_cases D:p=x
   ·subst D;go_wp2;go_ret;exact⟨⟨_,rfl,fun _=>by omega,fun h=>absurd (List.mem_of_getElem? l.out) h⟩,rfl⟩
   ·have h4:((p:Int) == (x:Int))=false:=beq_eq_false_iff_ne.2 (by omega);have R:=zc D;clear D;go_wp2;go_round
    case rel=>
     refine⟨k+1,by omega,by go_num,?_⟩;rw[List.take_succ_eq_append_getElem J,<-T.out];simp only[List.mem_append,List.mem_singleton];rintro(h | h)
     ·exact H.out h
     ·exact R.out h
    case measure=>simp[intOf];omega
  ·have V:k=n:=by omega
   subst V;have I:Hid (p∉q):=zc (by have:=H.out;rwa[List.take_of_length_le (by rw[<-b.out];exact zg _)]at this);go_wp2;go_ret;exact⟨⟨_,rfl,fun h=>absurd h I.out,fun _=>rfl⟩,rfl⟩
theorem zbM(q:List Nat)(p:Nat)(hp:p<=64)(v:Value)(base:Nat)(w:World)(E:w.ownsRow base 3 1 v q.length (pv q))(H:q.length<=64):
 Calls prog 166 #[v,.int .i64 p] w fun z w'=>z=.returned (.bool (decide (p∈q)))/\w'=w:=by
 have G:=zc (zkC q p hp v base w E H);clear E;by_cases hm:p∈q
 ·have B:=zc hm;rw[show decide (p∈q)=true by simp[hm]];clear hm;go_enter func166,ntmps166;go_wp2_with fail;refine G.out.mono ?_;rintro z I ⟨⟨n,rfl,A,_⟩,hw⟩;obtain rfl:=hw.symm;have D:=A B.out;clear A;go_wp2;go_ret;exact⟨by simp,rfl⟩
 ·have B:=zc hm;rw[show decide (p∈q)=false by simp[hm]];clear hm;go_enter func166,ntmps166;go_wp2_with fail;refine G.out.mono ?_;rintro z I ⟨⟨n,rfl,_,A⟩,hw⟩;obtain rfl:=hw.symm;have D:=A B.out;subst D;clear A;go_wp2;go_ret;exact⟨rfl,rfl⟩
theorem vu(w:World)(l:Nat)(h:zG w l []):Calls prog 81 #[.pointer (some ⟨l,0,none⟩)] w fun z w'=>z=.returned (.tuple #[.int .i64 0,.bool false])/\w'=w:=by have A:=zc (zdC w l [] h);have hl:=h.lt;clear h;go_enter func81,ntmps81;go_wp2_with fail;refine A.out.mono ?_;rintro z w2 ⟨rfl,hw⟩;obtain rfl:=hw.symm;go_wp2;go_ret2;exact⟨rfl,rfl⟩
theorem zcb(w:World)(l p:Nat)(r:List Nat)(h:zG w l (p::r)):Calls prog 81 #[.pointer (some ⟨l,0,none⟩)] w fun z w'=>z=.returned (.tuple #[.int .i64 p,.bool true])/\zG w' l r/\zo8 (fun k=>k=l) w w':=by
 have B:=zc (zdC w l _ h);rw[List.length_cons]at B;obtain⟨rg,fr,h,I⟩:=h;have h0:=h.fr;have D:=h.n;have R:=zc h;have M:=zc I;have A:=h.rg (I.at_ 0 (by simp));rw[show(fr+0) %64=fr by omega]at A;simp only[List.getElem_cons_zero]at A;obtain⟨c1,c2⟩:=h.c2;rw[List.length_cons]at c2;have hl:=h.lt;have h4:=h.zpe;obtain⟨m,hm⟩:=zh ((fr+1) %64)
 have H:=zc hm;obtain⟨n,G⟩:=zh r.length
 have O:=zc G;rw[<-G]at B c2;rw[List.length_cons,<-G]at D;have hz:(((n+1:Nat):Int) == 0)=false:=beq_eq_false_iff_ne.2 (by omega);have h6:(fr:Int) <64:=by omega
 have h5:(0:Int)<=fr:=by omega
 clear h I G hm;go_enter func81,ntmps81;go_wp2_with fail;refine B.out.mono ?_;rintro z w2 ⟨rfl,hw⟩;obtain rfl:=hw.symm;go_wp2_with fail;go_quiet (fail);go_wp2;go_ret2;have T:((fr:Int)+1) %64=(m:Int):=by rw[H.out];omega
 rw[T];have N:=R.out.setF m (by rw[H.out];omega);have E:=N.setN n (by omega);refine⟨rfl,⟨rg,m,?_,?_⟩,?_⟩
 ·rw[<-O.out];exact⟨E.zp5,E.len,E.fr,E.n⟩
 ·refine⟨fun i hi=>?_⟩;have J:=M.out.at_ (i+1) (by simp;omega);rw[List.getElem_cons_succ,show(fr+(i+1)) %64=(m+i) %64 by rw[H.out];omega]at J;exact J
 ·exact(((zo8.refl (fun k=>k=l) w).drewN nq).one).one
theorem zdE{q:List Nat}{p:Nat}(h:p∈q∨q.length=64):zJ q p=q:=by unfold zJ;rw[if_pos h]
theorem zgM{q:List Nat}{p:Nat}(h:¬(p∈q∨q.length=64)):zJ q p=q++ [p]:=by unfold zJ;rw[if_neg h]
theorem zej(w:World)(l p:Nat)(q:List Nat)(h:zG w l q)(A:q.length=64):Calls prog 108 #[.pointer (some ⟨l,0,none⟩),.int .i64 p] w fun z w'=>z=.returned (.bool false)/\zG w' l (zJ q p)/\zo8 (fun k=>k=l) w w':=by
 rw[zdE (.inr A)];have D:=zc h;obtain⟨rg,fr,h,B⟩:=h;obtain⟨c1,c2⟩:=h.c2;rw[A]at c2;have hl:=h.lt;have h1:(0:Int)<=p:=by omega
 have h0:decide ((p:Int) <0)=false:=by simp
 clear h B A;go_enter func108,ntmps108;go_wp2_with fail;go_ret;exact⟨rfl,D.out,zo8.refl _ _⟩
theorem zgN(w:World)(l p:Nat)(q:List Nat)(h:zG w l q)(M:q.length<64)(hp:p<=64)(hm:p∈q):Calls prog 108 #[.pointer (some ⟨l,0,none⟩),.int .i64 p] w fun z w'=>z=.returned (.bool false)/\zG w' l (zJ q p)/\zo8 (fun k=>k=l) w w':=by
 rw[zdE (.inl hm)];have O:=zc h;have B:=zc (zeC w l q h);obtain⟨rg,fr,h,J⟩:=h;obtain⟨c1,c2⟩:=h.c2;have A:=zc h.n;obtain⟨n,D⟩:=zh q.length
 have HN:=zc D;rw[<-D]at c2 M;have hz:((n:Int) == 64)=false:=beq_eq_false_iff_ne.2 (by omega);have N:=h.lt;have h1:(0:Int)<=p:=by omega
 have h0:decide ((p:Int) <0)=false:=by simp
 have I:=zc hm;clear h J hm D;go_enter func108,ntmps108;go_wp2_with fail;refine B.out.mono ?_;rintro z R ⟨v,rfl,H,hb⟩;have E:=zc hb;have G:=zc (zbM q p hp v w.heap.size R H A.out);rw[show decide (p∈q)=true by simp[I.out]]at G;clear H hb;go_wp2_with fail;refine G.out.mono ?_;rintro z w3 ⟨rfl,hw⟩;obtain rfl:=hw.symm;go_wp2;go_ret;exact⟨rfl,O.out.of (E.out.block l N),zo8.zo7 E.out⟩
theorem zfB(w:World)(l p:Nat)(q:List Nat)(h:zG w l q)(P:q.length<64)(hp:p<=64)(hm:p∉q):Calls prog 108 #[.pointer (some ⟨l,0,none⟩),.int .i64 p] w fun z w'=>z=.returned (.bool true)/\zG w' l (zJ q p)/\zo8 (fun k=>k=l) w w':=by
 rw[zgM (by rintro(h | h);exact hm h;omega)];have Z:=zc (zeC w l q h);obtain⟨rg,fr,h,r⟩:=h;have f:=zc h;have C:=zc r;obtain⟨d,c2⟩:=h.c2;have Y:=h.fr;have H:=zc h.n;obtain⟨n,g⟩:=zh q.length
 have M:=zc g;rw[<-g]at c2 P;have hz:((n:Int) == 64)=false:=beq_eq_false_iff_ne.2 (by omega);have L:=h.lt;have h7:(0:Int)<=p:=by omega
 have h1:decide ((p:Int) <0)=false:=by simp
 have y:=zc hm;clear h r hm g;go_enter func108,ntmps108;go_wp2_with fail;refine Z.out.mono ?_;rintro z o ⟨v,rfl,u,hb⟩;have s:=zc hb;have t:=zc (zbM q p hp v w.heap.size o u H.out);rw[show decide (p∈q)=false by simp[y.out]]at t;clear u hb d c2;go_wp2_with fail;refine t.out.mono ?_;rintro z w3 ⟨rfl,hw⟩;obtain rfl:=hw.symm;have B:=f.out.of (s.out.block l L);have E:=zc B;obtain⟨d,c2⟩:=B.c2;rw[<-M.out]at c2;have b:=B.lt;have c:=B.zpe;obtain⟨m,hm⟩:=zh ((fr+n) %64)
 have h2:(0:Int)<=(m:Int):=by omega
 have h3:(m:Int) <64:=by omega
 have A:m<64:=by omega
 have U:=zc hm;have G:∃x,rg[m]?=some x:=⟨_,List.getElem?_eq_getElem (by rw[f.out.len];exact A)⟩
 obtain⟨x,G⟩:=G;have hold:=B.rg G;obtain⟨N,I,T,J⟩:=zjH fr n m Y (by omega) hm;clear hm B G;go_wp2_with fail;go_region
 all_goals
  clear N I T J;obtain⟨X,D⟩:=zh ((o.setCell ⟨l,m,none⟩ (.int .i64 p)).drew)
  rw[<-D];have O:Lx X l (rg.set m p) fr q.length:=by rw[D];exact⟨(E.out.zrg A p).zp5,(E.out.zrg A p).len,(E.out.zrg A p).fr,(E.out.zrg A p).n⟩
  have t4:zo8 (fun k=>k=l) w X:=by rw[D];exact((zo8.zo7 s.out:zo8 (fun k=>k=l) w o).one).drew
  have F:=zc O;have K:=zc t4;obtain⟨d1,d2⟩:=O.c2;rw[<-M.out]at d2;have h6:=O.lt;have h0:=O.zpe;clear D O t4 d c2 hold b c;go_wp2;go_ret;have R:=F.out.setN (n+1) (by omega);refine⟨rfl,⟨rg.set m p,fr,?_,⟨fun i Q=>?_⟩⟩,K.out.one⟩
  ·rw[List.length_append,List.length_singleton,<-M.out];have e:((n+1:Nat):Int)=(n:Int)+1:=by omega
   rw[e]at R;exact⟨R.zp5,R.len,R.fr,R.n⟩
  ·rw[List.length_append,List.length_singleton]at Q;have hlen:=f.out.len;by_cases V:i<q.length
   ·have a:m≠(fr+i) %64:=by rw[U.out,M.out];have:=H.out;have:=M.out;omega
    rw[List.getElem?_set_ne a,List.getElem_append_left V];exact C.out.at_ i V
   ·have j:i=q.length:=by omega
    subst j;have e:(fr+q.length) %64=m:=by rw[U.out,M.out]
    rw[e,List.getElem?_set_self (by rw[hlen];exact A),List.getElem_append_right (zg _)];simp
theorem zgO(w:World)(l p:Nat)(q:List Nat)(h:zG w l q)(hp:p<=64):Calls prog 108 #[.pointer (some ⟨l,0,none⟩),.int .i64 p] w fun z w'=>(∃b,z=.returned (.bool b))/\zG w' l (zJ q p)/\zo8 (fun k=>k=l) w w':=by
 have hn:q.length<=64:=by obtain⟨rg,fr,D,_⟩:=h;exact D.n
 by_cases B:q.length=64
 ·exact(zej w l p q h B).mono fun z w' A=>⟨⟨_,A.1⟩,A.2⟩
 ·by_cases hm:p∈q
  ·exact(zgN w l p q h (by omega) hp hm).mono fun z w' A=>⟨⟨_,A.1⟩,A.2⟩
  ·exact(zfB w l p q h (by omega) hp hm).mono fun z w' A=>⟨⟨_,A.1⟩,A.2⟩
def yj(w:World)(b:Nat)(c:Ck):Prop:=w.heap[b]?=some (.cells #[.int .u64 c.lat,.int .i64 c.task,.int .u64 c.ran,.int .u64 c.busy,.int .u64 c.idle] 149 (0,0))
theorem yj.lt{w:World}{b:Nat}{c:Ck}(h:yj w b c):b<w.heap.size:=(zd h).1
theorem yj.of{w w':World}{b:Nat}{c:Ck}(h:yj w b c)(hb:w'.heap[b]?=w.heap[b]?):yj w' b c:=hb.trans h
theorem yj.zpe{w:World}{b:Nat}{c:Ck}(h:yj w b c):∀j,w.frozen? ⟨b,j,none⟩=false:=by intro j;unfold yj at h;simp[World.frozen?,h]
theorem yj.c5{w:World}{b:Nat}{c:Ck}(h:yj w b c):w.cell? ⟨b,0,none⟩=some (.int .u64 c.lat)/\w.cell? ⟨b,1,none⟩=some (.int .i64 c.task)/\w.cell? ⟨b,2,none⟩=some (.int .u64 c.ran)/\w.cell? ⟨b,3,none⟩=some (.int .u64 c.busy)/\w.cell? ⟨b,4,none⟩=some (.int .u64 c.idle):=by unfold yj at h;refine⟨?_,?_,?_,?_,?_⟩ <;> simp[World.cell?,h]
theorem yj.zps{w:World}{b:Nat}{c:Ck}(h:yj w b c)(v:Int):yj (w.setCell ⟨b,1,none⟩ (.int .i64 v)) b { c with task:=v }:=zi h
theorem yj.zrg{w:World}{b:Nat}{c:Ck}(h:yj w b c)(v:Int):yj (w.setCell ⟨b,2,none⟩ (.int .u64 v)) b { c with ran:=v }:=zi h
theorem yj.zpl{w:World}{b:Nat}{c:Ck}(h:yj w b c)(v:Int):yj (w.setCell ⟨b,3,none⟩ (.int .u64 v)) b { c with busy:=v }:=zi h
theorem yj.setI{w:World}{b:Nat}{c:Ck}(h:yj w b c)(v:Int):yj (w.setCell ⟨b,4,none⟩ (.int .u64 v)) b { c with idle:=v }:=zi h
theorem zmD(lat:Int)(w:World)(h1:1<=lat)(h2:lat<=1000000000):Calls prog 36 #[.int .u64 lat] w fun z w'=>∃b,z=.returned (.tuple #[.pointer (some ⟨b,0,none⟩),.int .i64 0])/\b=w.heap.size/\yj w' b ⟨lat,-1,0,0,0⟩/\Below w.heap.size w w':=by go_enter func36,ntmps36;go_wp2;go_ret2;exact⟨_,rfl,rfl,heap_alloc_new w _,zk w _⟩
theorem zbd(n:Int)(w:World)(b:Nat)(c:Ck)(h:yj w b c)(hn: -1<=n)(h3:n<=1000000):Calls prog 101 #[.pointer (some ⟨b,0,none⟩),.int .i64 n] w fun z w'=>(∃v,z=.returned v)/\yj w' b (c.begin n)/\zo8 (fun k=>k=b) w w':=by
 have H:=zc h;obtain⟨c0,D,c2,c3,c4⟩:=h.c5;have hl:=h.lt;have hf:=h.zpe;have h0:max n (-1)=n:=by omega
 by_cases he:c.task=n
 ·have hb:c.begin n=c:=by unfold Ck.begin;rw[if_pos he]
  rw[hb];have A:(n != c.task)=false:=by rw[he];simp
  rw[he]at D A;clear h hb he;go_enter func101,ntmps101;go_wp2;go_end0;exact⟨⟨_,rfl⟩,H.out,zo8.refl _ _⟩
 ·have hb:c.begin n={ c with task:=n,ran:=0 }:=by unfold Ck.begin;rw[if_neg he]
  rw[hb];have A:(n == c.task)=false:=beq_eq_false_iff_ne.2 (Ne.symm he);have E:(n != c.task)=true:=by rw[bne_iff_ne];exact Ne.symm he
  have G:=zc ((h.zps n).zrg 0);obtain⟨t,B⟩:=zh c.task
  rw[<-B]at D A E;clear h hb he B;go_enter func101,ntmps101;go_wp2;go_end0;exact⟨⟨_,rfl⟩,G.out,((zo8.refl (fun k=>k=b) w).one).one⟩
theorem zdF(a b:Int)(w:World)(B:0<=a/\a<=1000000000000000000)(A:0<=b/\b<=1000000000):Calls prog 195 #[.int .u64 a,.int .u64 b] w fun z w'=>z=.returned (.int .u64 (a+b))/\w'=w:=by
 obtain⟨B,h3⟩:=B;obtain⟨A,h0⟩:=A;have hd:decide (a+b<a)=false:=by simp;omega
 go_enter func195,ntmps195;go_wp2;go_ret;exact⟨rfl,rfl⟩
theorem zkD(lat A load:Int)(w:World)(I:1<=lat/\lat<=1000000000)(B:0<=A/\A<=262144)(E:0<=load/\load<=4294967296):Calls prog 148 #[.int .u64 lat,.int .u64 A,.int .u64 load] w fun z w'=>z=.returned (.int .u64 (zas lat A load))/\Below w.heap.size w w':=by
 obtain⟨I,h4⟩:=I;obtain⟨B,h0⟩:=B;obtain⟨E,h5⟩:=E;by_cases J:load<=A
 ·have hs:zas lat A load=lat:=by unfold zas;rw[if_pos J]
  rw[hs];clear hs;go_enter func148,ntmps148;go_wp2;go_ret;exact⟨rfl,Below.refl _ _⟩
 ·have G:=zc (zbC lat A load w ⟨by omega,by omega⟩ ⟨B,by omega⟩ ⟨by omega,by omega⟩ (zaK ⟨by omega,by omega⟩ ⟨B,by omega⟩));have hs:zas lat A load=max (lat*A/load) 1:=by unfold zas;rw[if_neg J];split <;> omega
  have D:0<=lat*A/load:=Int.ediv_nonneg (Int.mul_nonneg (by omega) B) E;rw[hs];obtain⟨q,H⟩:=zh (lat*A/load)
  rw[<-H]at G D ⊢;clear hs H;go_enter func148,ntmps148;go_wp2_with fail;refine G.out.mono ?_;rintro z w2 ⟨rfl,hb⟩;have M:=zc hb;clear hb;go_wp2;go_ret;exact⟨rfl,M.out⟩
structure Ck.Small(c:Ck):Prop where
 lat:1<=c.lat/\c.lat<=1000000000
 task: -1<=c.task/\c.task<=1000000
 ran:0<=c.ran/\c.ran<=1000000000000000
 busy:0<=c.busy/\c.busy<=1000000000000000
 idle:0<=c.idle/\c.idle<=1000000000000000
theorem zkE(ns:Int)(w:World)(b:Nat)(c:Ck)(h:yj w b c)(B:c.Small)(G:0<=ns)(D:ns<=1000000000):Calls prog 147 #[.pointer (some ⟨b,0,none⟩),.int .u64 ns] w fun z w'=>(∃v,z=.returned v)/\yj w' b (c.rest ns)/\zo8 (fun k=>k=b) w w':=by have A:=zc (fun W=>zdF c.idle ns W ⟨B.idle.1,by have:=B.idle.2;omega⟩ ⟨G,D⟩);have E:=zc (h.setI (c.idle+ns));obtain⟨c0,c1,c2,c3,c4⟩:=h.c5;have hl:=h.lt;have hf:=h.zpe;clear h B;go_enter func147,ntmps147;go_wp2_with fail;refine(A.out w).mono ?_;rintro z w2 ⟨rfl,hw⟩;obtain rfl:=hw.symm;go_wp2;go_end0;exact⟨⟨_,rfl⟩,E.out,(zo8.refl (fun k=>k=b) w).one⟩
theorem zis(ns:Int)(w:World)(b:Nat)(c:Ck)(h:yj w b c)(G:c.Small)(R:0<=ns)(J:ns<=1000000000):Calls prog 146 #[.pointer (some ⟨b,0,none⟩),.int .u64 ns] w fun z w'=>(∃v,z=.returned v)/\yj w' b (c.serve ns)/\zo8 (fun k=>k=b) w w':=by
 have E:=zc (fun W=>zdF c.ran ns W ⟨G.ran.1,by have:=G.ran.2;omega⟩ ⟨R,J⟩);have A:=zc (fun W=>zdF c.busy ns W ⟨G.busy.1,by have:=G.busy.2;omega⟩ ⟨R,J⟩);have N:=zc h;obtain⟨c0,c1,c2,c3,c4⟩:=h.c5;have hl:=h.lt;have hf:=h.zpe;clear h G;obtain⟨M,B⟩:=zh c.ran
 obtain⟨O,D⟩:=zh c.busy
 rw[<-B]at E c2;rw[<-D]at A c3;have H:=zc B;have I:=zc D;clear B D;go_enter func146,ntmps146;go_region_with (first
  | (with_reducible refine(E.out _).mono ?_;rintro z w' ⟨rfl,hw⟩;obtain rfl:=hw.symm)
  | (with_reducible refine(A.out _).mono ?_;rintro z w' ⟨rfl,hw⟩;obtain rfl:=hw.symm))
 all_goals
  rw[H.out,I.out];go_end0;refine⟨⟨_,rfl⟩,?_,?_⟩
  ·first
    | exact(N.out.zrg (c.ran+ns)).zpl (c.busy+ns)
    | exact(N.out.zpl (c.busy+ns)).zrg (c.ran+ns)
  ·exact(((zo8.refl (fun k=>k=b) w).one).one).drew
def Ck.tick(c:Ck)(ns:Int):Ck:=if c.task= -1 then c.rest ns else c.serve ns
def Ck.due(c:Ck)(A load:Int):Bool:=decide (c.task≠ -1/\zas c.lat A load<=c.ran)
theorem zdG(ns E load:Int)(w:World)(b:Nat)(c:Ck)(h:yj w b c)(J:c.Small)(R:0<=ns)(M:ns<=1000000000)(A:c.task= -1):
 Calls prog 96 #[.pointer (some ⟨b,0,none⟩),.int .u64 ns,.int .u64 E,.int .u64 load] w fun z w'=>z=.returned (.tuple #[.bool ((c.tick ns).due E load),.int .i64 0])/\yj w' b (c.tick ns)/\zo8 (fun k=>k=b) w w':=by
 have I:c.tick ns=c.rest ns:=if_pos A;have G:(c.rest ns).due E load=false:=by unfold Ck.due Ck.rest;simp[A]
 rw[I,G];have B:=zc (zkE ns w b c h J R M);obtain⟨c0,H,c2,c3,c4⟩:=h.c5;rw[A]at H;have U:=zc (show(c.rest ns).task= -1 from A);have T:=h.lt;have hd:decide (1000000000<ns)=false:=by simp;omega
 clear h J I G A;go_enter func96,ntmps96;go_wp2_with fail;refine B.out.mono ?_;rintro z w2 ⟨⟨v,rfl⟩,D,t3⟩;have N:=zc D;have O:=zc t3;obtain⟨d0,d1,d2,d3,d4⟩:=D.c5;rw[U.out]at d1;have h0:=D.lt;clear D t3 c0 H c2 c3 c4 T d0 d2 d3 d4 B;go_wp2_with fail;go_quiet (fail);go_wp2;go_ret2;exact⟨rfl,N.out,O.out.drewN nq⟩
theorem zdH(ns J load:Int)(w:World)(b:Nat)(c:Ck)(h:yj w b c)(f:c.Small)(t:0<=ns)(p:ns<=1000000000)(N:c.task≠ -1)(hw:0<=J/\J<=262144)(a:0<=load/\load<=4294967296):
 Calls prog 96 #[.pointer (some ⟨b,0,none⟩),.int .u64 ns,.int .u64 J,.int .u64 load] w fun z w'=>z=.returned (.tuple #[.bool ((c.tick ns).due J load),.int .i64 0])/\yj w' b (c.tick ns)/\zo8 (fun k=>k=b) w w':=by
 have n:c.tick ns=c.serve ns:=if_neg N;have l:(c.serve ns).due J load=decide (zas c.lat J load<=c.ran+ns):=by unfold Ck.due Ck.serve;simp[N]
 rw[n,l];have O:=zc (zis ns w b c h f t p);obtain⟨c0,m,c2,c3,c4⟩:=h.c5;have u:=h.lt;have hd:decide (1000000000<ns)=false:=by simp;omega
 have A:=zc f.lat;have d:(c.task == -1)=false:=beq_eq_false_iff_ne.2 N;have Y:(c.task != -1)=true:=by rw[bne_iff_ne];exact N
 have g:=zc (show(c.serve ns).task=c.task from rfl);have E:=zc (show(c.serve ns).ran=c.ran+ns from rfl);have H:=zc (show(c.serve ns).lat=c.lat from rfl);obtain⟨X,M⟩:=zh c.task
 rw[<-M]at m d Y g;obtain⟨lt,D⟩:=zh c.lat
 obtain⟨T,B⟩:=zh (c.ran+ns)
 rw[<-D,<-B];rw[<-D]at A H;rw[<-B]at E;clear h f n l N M D B;go_enter func96,ntmps96;go_wp2_with fail;refine O.out.mono ?_;rintro z o ⟨⟨v,rfl⟩,R,t3⟩;have U:=zc (zkD lt J load o.drew A.out hw a);have q:=zc R;have s:=zc t3;obtain⟨d0,d1,d2,d3,d4⟩:=R.c5;rw[g.out]at d1;rw[E.out]at d2;rw[H.out]at d0;have G:=R.lt;clear R t3 c0 m c2 c3 c4 u d3 d4 O;go_wp2_with fail;go_region_held3 (fun w'=>w'.cell? ⟨b,0,none⟩=some (.int .u64 lt)/\w'.cell? ⟨b,1,none⟩=some (.int .i64 X)/\w'.cell? ⟨b,2,none⟩=some (.int .u64 T)) (go_keep)
  ((
   go_at_call 148;refine U.out.mono ?_;rintro z j ⟨rfl,I⟩;have V:=zc (q.out.of (w':=j) (I.block b G));have Z:=zc I;clear I d0 d1 d2 G;obtain⟨d0,d1,d2,d3,d4⟩:=V.out.c5;rw[g.out]at d1;rw[E.out]at d2;rw[H.out]at d0;have G:=V.out.lt;clear d3 d4))
 all_goals
  go_wp2;go_ret2;exact⟨rfl,V.out,s.out.trans (zo8.zo7 Z.out:zo8 (fun k=>k=b) o.drew j).zqS fun k r=>.inl r⟩
theorem zeD(ns A load:Int)(w:World)(b:Nat)(c:Ck)(h:yj w b c)(H:c.Small)(E:0<=ns)(D:ns<=1000000000)(hw:0<=A/\A<=262144)(B:0<=load/\load<=4294967296):
 Calls prog 96 #[.pointer (some ⟨b,0,none⟩),.int .u64 ns,.int .u64 A,.int .u64 load] w fun z w'=>z=.returned (.tuple #[.bool ((c.tick ns).due A load),.int .i64 0])/\yj w' b (c.tick ns)/\zo8 (fun k=>k=b) w w':=by
 by_cases G:c.task= -1
 ·exact zdG ns A load w b c h H E D G
 ·exact zdH ns A load w b c h H E D G hw B
end
theorem zg7:∀(l:List Int) (k:Nat) (x o:Int),l[k]?=some o->(l.set k x).sum=l.sum-o+x
 | [],k,x,o,h=>by simp at h
 | a::l,0,x,o,h=>by simp at h;subst h;simp[List.sum_cons];omega
 | a::l,k+1,x,o,h=>by have ih:=zg7 l k x o (by simpa using h);simp[List.sum_cons,ih];omega
def zrX(l:List Int):Int:=(l.map (fun x=>max x 0)).sum
theorem zfG(l:List Int)(k:Nat)(x o:Int)(h:l[k]?=some o):zrX (l.set k x)=zrX l-max o 0+max x 0:=by unfold zrX;rw[List.map_set,zg7 (l.map (fun x=>max x 0)) k (max x 0) (max o 0) (by rw[List.getElem?_map,h];rfl)]
theorem zbh:∀l:List Int,0<=zrX l
 | []=>by simp[zrX]
 | a::l=>by have:=zbh l;simp[zrX,List.sum_cons]at this ⊢;omega
theorem zjJ:∀(l:List Int) (k:Nat) (o:Int),l[k]?=some o->o<=zrX l
 | [],k,o,h=>by simp at h
 | a::l,0,o,h=>by simp at h;subst h;have:=zbh l;simp[zrX,List.sum_cons]at this ⊢;omega
 | a::l,k+1,o,h=>by have ih:=zjJ l k o (by simpa using h);simp[zrX,List.sum_cons]at ih ⊢;omega
theorem zn0(l:List Int):zrX (l.map (fun x=>min x 0))=0:=by
 induction l with
 | nil=>rfl
 | cons a l ih=>simp[zrX,List.sum_cons]at ih ⊢;omega
theorem zg8(n:Nat):zrX (List.replicate n 0)=0:=by
 induction n with
 | zero=>rfl
 | succ n ih=>simp[zrX,List.replicate_succ,List.sum_cons]at ih ⊢
theorem zdM{l:List Int}{k:Nat}{x y:Int}(h:y∈l.set k x):y=x∨y∈l:=by
 rcases List.mem_or_eq_of_mem_set h with h | h
 ·exact .inr h
 ·exact .inl h
structure xt(k:Nat)(b:zqL):Prop where
 q:0<=b.q/\b.q<=1099511627776
 s:0<=b.s/\b.s<=1099511627776
 s1:b.q≠0->1<=b.s
 pool:0<=b.pool
 has:b.pool+zrX b.l<=b.q
 spent:0<=b.spent/\b.spent<=1000000000*(k:Int)
 l:∀x∈b.l,-(1000000000*(k:Int))<=x
theorem xt.small{k:Nat}{b:zqL}(h:xt k b)(hk:k<=1000):b.Small:=by obtain⟨q1,q2⟩:=h.q;obtain⟨t1,t2⟩:=h.spent;have hn:=zbh b.l;have hp:=h.pool;have hh:=h.has;refine⟨h.q,h.s,by omega,by omega,fun x A=>?_⟩;obtain⟨i,B⟩:=List.getElem?_of_mem A;have:=zjJ b.l i x B;have:=h.l x A;omega
theorem xt.more{k:Nat}{b:zqL}(h:xt k b):xt (k+1) b:=
 ⟨h.q,h.s,h.s1,h.pool,h.has,by have:=h.spent;omega,fun x A=>by have:=h.l x A;omega⟩
theorem xt.new(k n:Nat):xt k ⟨0,0,0,0,List.replicate n 0⟩:=
 ⟨by simp,by simp,by simp,by simp,by rw[zg8];simp,by simp;omega,fun x A=>by rw[List.eq_of_mem_replicate A];omega⟩
theorem xt.zqv{k:Nat}{b:zqL}(h:xt k b){p:Nat}{o:Int}(hp:b.l[p]?=some o):xt k (b.zqv p o):=by
 have ho:=h.l o (List.mem_of_getElem? hp);have A:=h.s1;have h1:=h.pool;have hh:=h.has;unfold Qt.Bd.zqv;split
 ·exact h
 ·rename_i D;have hs:=A D;split
  ·exact h
  ·rename_i h0;unfold Qt.Bd.taken Qt.Bd.take;have hb:=zfG b.l p (o+min b.pool (b.s-o)) o hp;refine⟨h.q,h.s,h.s1,?_,?_,h.spent,?_⟩
   ·show 0<=b.pool-min b.pool (b.s-o);omega
   ·show b.pool-min b.pool (b.s-o)+zrX (b.l.set p (o+min b.pool (b.s-o)))<=b.q;rw[hb];omega
   ·intro x B;rcases zdM B with rfl | B
    ·omega
    ·exact h.l x B
theorem xt.back{k:Nat}{b:zqL}(h:xt k b){p:Nat}{o:Int}(hp:b.l[p]?=some o):xt k (b.back p o):=by
 have ho:=h.l o (List.mem_of_getElem? hp);have h0:=h.pool;have hh:=h.has;have hb:=zfG b.l p (o-max o 0) o hp;unfold Qt.Bd.back;refine⟨h.q,h.s,h.s1,?_,?_,h.spent,?_⟩
 ·show 0<=b.pool+max o 0;omega
 ·show b.pool+max o 0+zrX (b.l.set p (o-max o 0))<=b.q;rw[hb];omega
 ·intro x A;rcases zdM A with rfl | A
  ·omega
  ·exact h.l x A
theorem xt.zpn{k:Nat}{b:zqL}(h:xt k b){p:Nat}{o ns:Int}(hp:b.l[p]?=some o)(h0:0<=ns)(h1:ns<=1000000000):xt (k+1) (b.zpn p o ns):=by
 have ho:=h.l o (List.mem_of_getElem? hp);have hh:=h.has;obtain⟨t1,t2⟩:=h.spent;have hb:=zfG b.l p (o-ns) o hp;unfold Qt.Bd.zpn;split
 ·exact⟨h.q,h.s,h.s1,h.pool,h.has,by show 0<=b.spent+ns/\b.spent+ns<=_;omega,h.more.l⟩
 ·refine⟨h.q,h.s,h.s1,h.pool,?_,?_,?_⟩
  ·show b.pool+zrX (b.l.set p (o-ns))<=b.q;rw[hb];omega
  ·show 0<=b.spent+ns/\b.spent+ns<=_;omega
  ·intro x A;rcases zdM A with rfl | A
   ·omega
   ·have:=h.l x A;omega
theorem xt.zqs{k:Nat}{b:zqL}(q s:Int)(h:¬Qt.zp2 q s):xt k (b.zqs q s):=by
 unfold Qt.zp2 at h;unfold Qt.Bd.zqs;refine⟨by show 0<=q/\q<=_;omega,?_,?_,by show 0<=q;omega,?_,by show(0:Int)<=0/\(0:Int)<=_;omega,fun x B=>?_⟩
 ·show 0<=(if q=0 then 0 else s)/\(if q=0 then 0 else s)<=1099511627776;split <;> omega
 ·show q≠0->1<=(if q=0 then 0 else s)
  intro A;rw[if_neg A];omega
 ·show q+zrX (List.replicate b.l.length 0)<=q;rw[zg8];omega
 ·rw[List.eq_of_mem_replicate B];omega
theorem xt.zpF{k:Nat}{b:zqL}(h:xt k b):xt k b.zpF:=by
 unfold Qt.Bd.zpF;refine⟨h.q,h.s,h.s1,h.q.1,?_,by show(0:Int)<=0/\(0:Int)<=_;omega,fun x B=>?_⟩
 ·show b.q+zrX (b.l.map fun x=>min x 0)<=b.q;rw[zn0];omega
 ·obtain⟨y,A,rfl⟩:=List.mem_map.1 B;have:=h.l y A;omega
theorem zaQ(b:zqL)(p:Nat)(o:Int):(b.zqv p o).l.length=b.l.length:=by
 unfold Qt.Bd.zqv Qt.Bd.taken;split
 ·rfl
 ·split
  ·rfl
  ·simp
theorem zmR(b:zqL)(p:Nat)(o:Int):(b.back p o).l.length=b.l.length:=by unfold Qt.Bd.back;simp
theorem zct(b:zqL)(p:Nat)(o ns:Int):(b.zpn p o ns).l.length=b.l.length:=by
 unfold Qt.Bd.zpn;split
 ·rfl
 ·simp
theorem zeF(b:zqL)(q s:Int):(b.zqs q s).l.length=b.l.length:=by unfold Qt.Bd.zqs;simp
theorem ziG(b:zqL):b.zpF.l.length=b.l.length:=by unfold Qt.Bd.zpF;simp
theorem qw{b:zqL}{p:Nat}(h:p<b.l.length):b.l[p]?=some (zZ b p):=by unfold zZ;rw[List.getD_eq_getElem?_getD,List.getElem?_eq_getElem h];rfl
theorem zn1{k:Nat}{b:zqL}(h:xt k b){p:Nat}{o:Int}(hp:b.l[p]?=some o)(hm:b.may o=false):(b.zqv p o).pool=0:=by
 have B:=h.s1;have h1:=h.pool;unfold Qt.Bd.may at hm;unfold Qt.Bd.zqv;by_cases A:b.q=0
 ·rw[if_pos A]at hm;cases hm
 ·rw[if_neg A]at hm ⊢;have hs:=B A;by_cases D:0<o
  ·rw[if_pos D]at hm;cases hm
  ·rw[if_neg D]at hm ⊢;unfold Qt.Bd.take at hm;unfold Qt.Bd.taken Qt.Bd.take;show b.pool-min b.pool (b.s-o)=0;have:=of_decide_eq_false hm;omega
structure ud(k:Nat)(c:Ck):Prop where
 lat:1<=c.lat/\c.lat<=1000000000
 task: -1<=c.task/\c.task<=1000000
 ran:0<=c.ran/\c.ran<=1000000000*(k:Int)
 busy:0<=c.busy/\c.busy<=1000000000*(k:Int)
 idle:0<=c.idle/\c.idle<=1000000000*(k:Int)
theorem ud.small{k:Nat}{c:Ck}(h:ud k c)(hk:k<=1000):c.Small:=by obtain⟨r1,r2⟩:=h.ran;obtain⟨b1,b2⟩:=h.busy;obtain⟨i1,i2⟩:=h.idle;exact⟨h.lat,h.task,by omega,by omega,by omega⟩
theorem ud.more{k:Nat}{c:Ck}(h:ud k c):ud (k+1) c:=by obtain⟨r1,r2⟩:=h.ran;obtain⟨b1,b2⟩:=h.busy;obtain⟨i1,i2⟩:=h.idle;exact⟨h.lat,h.task,by omega,by omega,by omega⟩
theorem ud.begin{k:Nat}{c:Ck}(h:ud k c){n:Int}(B: -1<=n)(A:n<=1000000):ud k (c.begin n):=by
 unfold Ck.begin;split
 ·exact h
 ·exact⟨h.lat,⟨B,A⟩,⟨Int.le_refl _,by show(0:Int)<=_;omega⟩,h.busy,h.idle⟩
theorem ud.rest{k:Nat}{c:Ck}(h:ud k c){ns:Int}(h1:0<=ns)(h2:ns<=1000000000):ud (k+1) (c.rest ns):=by obtain⟨i1,i2⟩:=h.idle;exact⟨h.lat,h.task,h.more.ran,h.more.busy,by show 0<=c.idle+ns/\c.idle+ns<=_;omega⟩
theorem ud.serve{k:Nat}{c:Ck}(h:ud k c){ns:Int}(h1:0<=ns)(h2:ns<=1000000000):ud (k+1) (c.serve ns):=by obtain⟨r1,r2⟩:=h.ran;obtain⟨b1,b2⟩:=h.busy;exact⟨h.lat,h.task,by show 0<=c.ran+ns/\c.ran+ns<=_;omega,by show 0<=c.busy+ns/\c.busy+ns<=_;omega,h.more.idle⟩
theorem zcd(c:Ck)(n:Int):(c.begin n).lat=c.lat:=by unfold Ck.begin;split <;> rfl
section
open Go.Shelf
attribute [local go_sem ↓] Go.wp_at_zero Go.wp_at_succ
attribute [local go_sem] Oper.semAt_some
def uv(l:List Int):List Value:=l.map (Value.int .u64)
theorem qJ{l:List Int}{k:Nat}{x:Int}(h:l[k]?=some x):(uv l)[k]?=some (.int .u64 x):=by simp[uv,h]
theorem zjI(x:Int)(h:0<=x)(h2:x<=18446744073709551615):bits BinOp.and IntKind.u64 x 1=x%2:=by obtain⟨n,rfl⟩:=Int.eq_ofNat_of_zero_le h;have:=u64_and_nat n 1 (by omega) (by omega);rw[show((1:Nat):Int)=1 from rfl]at this;rw[this,Nat.and_one_is_mod];omega
theorem zfC{mask:Int}(h:0<=mask)(h2:mask<=18446744073709551615)(p:Nat):(bits BinOp.and IntKind.u64 (mask/2 ^ p) 1 == 1)=qH mask p:=by have h5:(0:Int) <2 ^ p:=Int.pow_pos (by omega);have A:0<=mask/2 ^ p:=Int.ediv_nonneg h (by omega);have h4:mask/2 ^ p<=mask:=Int.ediv_le_self _ h;rw[zjI _ A (by omega)];unfold qH;rw[Bool.eq_iff_iff];simp
def ym(w:World)(a:Option Addr)(A:List Value):Prop:=∀k u,A[k]?=some u->∃r,a=some ⟨r,0,none⟩/\w.cell? ⟨r,k,none⟩=some u/\r<w.heap.size
theorem ym.behind{w w':World}{a:Option Addr}{A:List Value}(h:ym w a A)(hb:Below w.heap.size w w'):ym w' a A:=fun k u hu=>by obtain⟨r,E,D,B⟩:=h k u hu;exact⟨r,E,(hb.cell (p:=⟨r,k,none⟩) B).trans D,zf B hb.size⟩
theorem ym.zqA{w:World}{base:Nat}{e:TypeId}{v:Value}{n:Nat}{B:List Value}(A:w.ownsRow base e 1 v n B):∃a c,v=.slice a n c/\ym w a B:=by
 rcases A.2 with⟨rfl,E⟩ | ⟨g,cap,cur,D,hb,G,_⟩
 ·refine⟨none,0,by rw[E],fun k u hu=>?_⟩;have h1:=A.1;have h2:=(ze hu).1;omega
 ·refine⟨_,_,D,fun k u hu=>?_⟩;subst D;have:=A.cells (g:=g) rfl k u hu;rw[qz]at this;exact⟨g,rfl,this,(zd G).1⟩
theorem zgP(w:World)(v:Value)(mask:Int)(h1:v.oneCell'=true):
 Calls prog 23 #[v,.int .u64 mask] w fun z w'=>∃A C,z=.returned (.func (.func 60) #[] #[.pointer (some ⟨A,0,none⟩),.pointer (some ⟨C,0,none⟩)])/\
  w'.cell? ⟨A,0,none⟩=some v/\w'.cell? ⟨C,0,none⟩=some (.int .u64 mask)/\w.heap.size<=A/\w.heap.size<=C/\Below w.heap.size w w':=by
 go_enter func23,ntmps23;go_wp2;go_ret;refine⟨_,_,rfl,?_,?_,zg _,by omega,((Below.refl _ w).alloc (zg _) _).alloc (by simp) _⟩
 ·exact zx (t:=27) ((Below.heap_alloc _ _ _ (by simp)).trans (heap_alloc_new w _))
 ·have B:=heap_alloc_new (w.alloc (.cells #[v] 27)) (.cells #[.int .u64 mask] 33);rw[World.size_alloc]at B;exact zx B
theorem zgQ(m:Nat)(J:Nat->World->Prop)(l:List Int)(mask:Int)(a:Option Addr)(c A C L:Nat)(z:l.length<=64)(hm:0<=mask)(b:mask<=18446744073709551615)
 (g:∀k W,J k W->W.cell? ⟨A,0,none⟩=some (.slice a l.length c)/\W.cell? ⟨C,0,none⟩=some (.int .u64 mask)/\ym W a (uv l))
 (hs:∀k W,J k W->qH mask k=false->J (k+1) W)
 (p:∀k x W,J k W->l[k]?=some x->qH mask k=true->YieldAt Fence.wide (m+1) prog L #[.int .i64 k,.int .u64 x] W fun e j=>e=.returned (.bool true)/\J (k+1) j)
 (U:World) (I:J 0 U):
 CallsIn Fence.wide (m+2) prog 60 #[.func (.yield L) #[] #[],.pointer (some ⟨A,0,none⟩),.pointer (some ⟨C,0,none⟩)] U fun e j=>(∃v,e=.returned v)/\J l.length j:=by
 obtain⟨o,hC,_⟩:=g 0 U I;have h2:=World.block_lt_of_cell? _ _ o;obtain⟨n,R⟩:=zh l.length
 rw[<-R]at o z;have y:=zc R;have Y:=zc I;refine callsIn_of_wp func60 rfl trivial ?_ rfl;simp only[ntmps60,List.size_toArray,List.length_cons,List.length_nil,Nat.reduceAdd,Nat.reduceSub,Array.replicate_succ,Array.replicate_zero,List.push_toArray,List.append_toArray,List.nil_append,List.cons_append];rw[<-R];have s:=zc g;have HS:=zc hs;have u:=zc p;clear R g hs p hC
 gi_wp2
 gi_loopw [8] (fun i wr=>∃k:Nat,k<=n/\i=.int .i64 k/\J k wr) (fun i _=>n-(intOf i).toNat)
 case atStart=>exact⟨0,by omega,rfl,Y.out⟩
 case round=>
  obtain⟨k,hk,rfl,O⟩:=hrel;have D:=zc O;by_cases T:k<n
  ·obtain⟨_,hC,M⟩:=s.out k wr O;have H:k<l.length:=by rw[<-y.out];exact T
   obtain⟨x,h⟩:∃x,l[k]?=some x:=⟨_,List.getElem?_eq_getElem H⟩
   obtain⟨r,rfl,h0,h3⟩:=M k _ (qJ h);have h4:=World.block_lt_of_cell? _ _ hC;have h1:(k:Int) <64:=by omega
   have h5:IntKind.u64.wrap (k:Int)=(k:Int):=by simp only[IntKind.wrap,IntKind.signed,IntKind.bits];simp;omega
   have F:=zc h;have X:=zc (zfC hm b k);clear M h O H;obtain⟨q,B⟩:=zh (bits BinOp.and IntKind.u64 (mask/2 ^ k) 1)
   rw[<-B]at X;by_cases hb:qH mask k=true
   ·have d:(bits BinOp.and IntKind.u64 (mask/2 ^ k) 1 == 1)=true:=by rw[<-B,X.out,hb]
    obtain⟨fn,tmps,assign,body,V,M⟩:=u.out k x wr D.out F.out hb;clear B hb
    gi_wp2
    refine M.mono ?_;rintro e W3 ⟨rfl,N⟩;have E:=zc N;clear V M N
    gi_wp2
    go_roundw
    case rel=>exact⟨k+1,by omega,by go_num,E.out⟩
    case measure=>simp[intOf];omega
   ·have G:qH mask k=false:=by simpa using hb
    have d:(bits BinOp.and IntKind.u64 (mask/2 ^ k) 1 == 1)=false:=by rw[<-B,X.out,G]
    have E:=zc (HS.out k wr D.out G);clear B hb G
    gi_wp2
    refine⟨(fun f t=>by cases t),?_⟩
    gi_wp2
    go_roundw
    case rel=>exact⟨k+1,by omega,by go_num,E.out⟩
    case measure=>simp[intOf];omega
  ·have Z:k=n:=by omega
   subst Z;clear O
   gi_wp2
   go_end0;exact⟨⟨_,rfl⟩,D.out⟩
def qO:Option Nat->Int
 | none=> -1
 | some b=>b
theorem zaO{l:List Int}{mask:Int}:∀{k b:Nat},xm l mask k=some b->b<k
 | 0,b,h=>by cases h
 | k+1,b,h=>by
  unfold xm at h;split at h
  ·split at h
   ·cases h;omega
   ·cases h
  ·rename_i c A;have:=zaO A;split at h <;> (cases h;omega)
theorem zgR{l:List Int}{mask:Int}{k:Nat}(h:qH mask k=false):xm l mask (k+1)=xm l mask k:=by
 conv=>lhs;unfold xm
 cases hc:xm l mask k with
 | none=>simp[h]
 | some b=>simp[h]
theorem uu(l:List Int)(mask:Int)(a:Option Addr)(c:Nat)(w:World)(hn:l.length<=64)(hm:0<=mask)(Ht:mask<=18446744073709551615)(hR:ym w a (uv l)):
 Calls prog 9 #[.slice a l.length c,.int .u64 mask] w fun z w'=>z=.returned (.int .i64 (qO (uc l mask)))/\Below w.heap.size w w':=by
 have HR:=zc hR;obtain⟨n,hN⟩:=zh l.length
 have HN:=zc hN;rw[<-hN]at hn ⊢;clear hR hN;refine(callsIn_wide (n:=4)).1 ?_;refine callsIn_of_wp_marks func9 rfl trivial ?_ rfl;simp only[ntmps9,List.size_toArray,List.length_cons,List.length_nil,Nat.reduceAdd,Nat.reduceSub,Array.replicate_succ,Array.replicate_zero,List.push_toArray,List.append_toArray,List.nil_append,List.cons_append]
 gi_wp2_with fail
 obtain⟨w1,Z⟩:=zh ((w.alloc (.cells #[.slice a n c] 27)).alloc (.cells #[.int .i64 (-1)] 3))
 have Hh:Below w.heap.size w w1:=by rw[Z];exact((Below.refl _ w).alloc (zg _) _).alloc (by simp) _
 have d:w1.heap[w.heap.size]?=some (.cells #[.slice a n c] 27 (0,0)):=by rw[Z];exact(Below.heap_alloc _ _ _ (by simp)).trans (heap_alloc_new w _)
 have g:w1.heap[w.heap.size+1]?=some (.cells #[.int .i64 (-1)] 3 (0,0)):=by have h2:=heap_alloc_new (w.alloc (.cells #[.slice a n c] 27)) (.cells #[.int .i64 (-1)] 3);rw[World.size_alloc]at h2;rw[Z];exact h2
 rw[<-Z];obtain⟨D,hD⟩:=zh w.heap.size
 obtain⟨B,hg⟩:=zh (D+1)
 rw[<-hD]at d g ⊢;rw[<-hg]at g ⊢;have HD:=zc hD;have Hw:=zc hg;have H2:=zc d;have ha:=zc g;have P:=zc Hh;have H7:=(zd d).1;have O:=zx d;clear Z Hh d g hD hg;refine⟨trivial,(callsIn_wide.2 (zgP w1 (.slice a n c) mask rfl)).mono ?_⟩;rintro z w2 ⟨A,C,rfl,hA,hC,H5,Hf,s⟩;have HA:=zc hA;have HC:=zc hC;have HZ:Hid (A<w2.heap.size/\C<w2.heap.size):=zc ⟨World.block_lt_of_cell? _ _ hA,World.block_lt_of_cell? _ _ hC⟩;have Hy:Hid (w1.heap.size<=A/\w1.heap.size<=C):=zc ⟨H5,Hf⟩;have Q:=zc s
 have hr:Hid (w2.heap[D]?=some (.cells #[.slice a n c] 27 (0,0))):=zc ((s.block D H7).trans H2.out);have H8:Hid (w2.heap[B]?=some (.cells #[.int .i64 (-1)] 3 (0,0))):=zc ((s.block B (zd ha.out).1).trans ha.out);clear hA hC H5 Hf s H7 O
 gi_wp2_with fail
 refine zR rfl (by simp) (gf:=60) (lb:=#[.pointer (some ⟨A,0,none⟩),.pointer (some ⟨C,0,none⟩)]) rfl trivial (enters_of func60 (by kernel_rfl) rfl) ?_;intro fn F kd hb hl;obtain⟨L,U⟩:=zh w2.heap.size
 rw[<-U]at hl hb ⊢;have k7:=zc U;have Hz:B<L:=by rw[U];exact(zd H8.out).1
 have Hu:D<L:=by rw[U];exact(zd hr.out).1
 have Hl:A<L:=by rw[U];exact HZ.out.1
 have Ho:C<L:=by rw[U];exact HZ.out.2
 have hi:=P.out.size;have k1:=Q.out.size;have ke:w.heap.size<=D:=by rw[HD.out];exact zg _
 have q:B≠D/\w.heap.size<=B:=by have:=Hw.out;omega
 have k4:=(zd ha.out).1;have k2:=(zd H2.out).1;have hf:A≠B/\C≠B/\A≠D/\C≠D:=by have:=Hy.out;omega
 have E:Below w.heap.size w F:=zj (zj P.out Q.out hi) hb (by omega);have h:F.cell? ⟨A,0,none⟩=some (.slice a n c):=(hb.cell (p:=⟨A,0,none⟩) Hl).trans HA.out;have m:F.cell? ⟨C,0,none⟩=some (.int .u64 mask):=(hb.cell (p:=⟨C,0,none⟩) Ho).trans HC.out;have I:F.heap[B]?=some (.cells #[.int .i64 (-1)] 3 (0,0)):=(hb.block B Hz).trans H8.out;have O:F.heap[D]?=some (.cells #[.slice a n c] 27 (0,0)):=(hb.block D Hu).trans hr.out;clear U
 refine(zgQ 1 (fun k W=>zo8 (fun j=>j=B∨j=L+1) F W/\W.heap[B]?=some (.cells #[.int .i64 (qO (xm l mask k))] 3 (0,0))/\yD W L .ready fn _ _ _ _) l mask a c A C (L+1) (by rw[<-HN.out];exact hn) hm Ht ?_ ?_ ?_ F ⟨.refl _ _,I,hl⟩).mono ?_
 ·rintro k W ⟨Y,J,M⟩;have H4:∀j,j<F.heap.size->j≠B->j≠L+1->∀o,W.cell? ⟨j,o,none⟩=F.cell? ⟨j,o,none⟩:=fun j G n1 n2 o=>by have e:=Y.block j G (by rintro(e | e);exact n1 e;exact n2 e);simp[World.cell?,e]
  refine⟨?_,?_,?_⟩
  ·rw[H4 A (World.block_lt_of_cell? _ _ h) hf.1 (by omega),h,HN.out]
  ·rw[H4 C (World.block_lt_of_cell? _ _ m) hf.2.1 (by omega)];exact m
  ·exact HR.out.behind (E.trans (Y.below E.size fun j G=>by rcases G with rfl | rfl;exact q.2;have:=E.size;omega))
 ·rintro k W ⟨Y,J,M⟩ X;rw[zgR X];exact⟨Y,J,M⟩
 ·rintro k x W ⟨Y,J,M⟩ hx X;have Hc:=HR.out.behind (E.trans (Y.below E.size fun j G=>by rcases G with rfl | rfl;exact q.2;have:=E.size;omega));have Hd:W.heap[D]?=some (.cells #[.slice a n c] 27 (0,0)):=(Y.block D (zd O).1 (by rintro(e | e);exact q.1 e.symm;omega)).trans O;have Hk:=(ze hx).1;have hq:=zc Hc;have h0:=zc Hd;have HX:=zc hx;have H9:=zc X;have Hb:=zc M;have He:=zc J;have Hr:=zc Y;have ho:=(zd J).1;rw[<-HN.out]at Hk;clear Hc Hd hx X J Y h m I O E hb hl hf
  refine YieldAt.mono (xF (a₁:=?a1) trivial M _ rfl (R:=fun W'=>W'.heap[B]?=some (.cells #[.int .i64 (qO (xm l mask (k+1)))] 3 (0,0))/\zo8 (fun j=>j=B∨j=L+1) W W') ?has ?hbo) ?hmo
  case has=>
   intro K hK
   gi_wp2
   exact hK
  case hbo=>
   generalize h7:yH W L .busy _ _ _ _ _=T;have h9:=Hb.out.put .busy;rw[h7]at h9;have zpZ:zo8 (fun j=>j=L+1) W T:=by rw[<-h7];exact zF _ _ _ _ _ _ _ _
   have f:T.heap[B]?=some (.cells #[.int .i64 (qO (xm l mask k))] 3 (0,0)):=(zpZ.block B ho (by omega)).trans He.out;have h6:T.heap[D]?=some (.cells #[.slice a n c] 27 (0,0)):=(zpZ.block D (zd h0.out).1 (by omega)).trans h0.out;have Ha:ym T a (uv l):=fun j u hu=>by
    obtain⟨r,e1,e2,e3⟩:=HR.out j u hu;obtain⟨r',Hi,Hn,H3⟩:=hq.out j u hu;have:r'=r:=by rw[e1]at Hi;cases Hi;rfl
    subst this;have Hp:r'≠L+1:=by have:=HD.out;omega
    have e4:=zpZ.block r' H3 Hp;refine⟨r',e1,?_,zf H3 zpZ.size⟩;rw[<-Hn];simp[World.cell?,e4]
   have h8:=zc h9;have h5:=zc zpZ;have t:=zc f;have Hs:=zc Ha;have I:=zx f;have O:=zx h6;have k6:T.frozen? ⟨B,0,none⟩=false:=by simp[World.frozen?,f]
   have ka:=(zd f).1;have k8:=(zd h6).1;have H:Hid (xm l mask (k+1)=match xm l mask k with
    | none=>some k
    | some b=>if x<l.getD b 0 then some k else some b):=zc (by
     conv=>lhs;unfold xm
     have Hq:l.getD k 0=x:=by rw[List.getD_eq_getElem?_getD,HX.out];rfl
     cases hc:xm l mask k with
     | none=>simp[H9.out]
     | some b=>simp only[H9.out,true_and,Hq])
   clear h7 h9 zpZ f h6 Ha M Hb hq h0 He;cases hc:xm l mask k with
   | none=>
    rw[hc]at I H;simp only at H;have hh:T.cell? ⟨B,0,none⟩=some (.int .i64 (-1)):=I;clear I hc
    gi_wp2
    have V:(T.setCell ⟨B,0,none⟩ (.int .i64 k)).heap[B]?=some (.cells #[.int .i64 k] 3 (0,0)):=zi t.out;have N:zo8 (fun j=>j=B) T (T.setCell ⟨B,0,none⟩ (.int .i64 k)):=(zo8.refl _ _).one;refine⟨h8.out.zpW N (by omega) (by omega),?_,?_⟩
    ·rw[zE _ _ _ _ _ _ _ _ (by omega),H.out];exact V
    ·exact((h5.out.mono fun j G=>.inr G).trans N fun j G=>.inl (.inl G)).trans (zF _ _ _ _ _ _ _ _) fun j G=>.inl (.inr G)
   | some b=>
    have kc:=zaO hc;rw[hc]at I H;simp only at H;have hh:T.cell? ⟨B,0,none⟩=some (.int .i64 b):=I;have Hg:b<l.length:=by rw[<-HN.out];omega
    obtain⟨y,hy⟩:∃y,l[b]?=some y:=⟨_,List.getElem?_eq_getElem Hg⟩
    have H0:l.getD b 0=y:=by rw[List.getD_eq_getElem?_getD,hy];rfl
    rw[H0]at H;obtain⟨r,S,kg,kb⟩:=Hs.out b _ (qJ hy);have kf:=zc S;have k0:Hid (∃v,T.heap[B]?=some (.cells #[v] 3 (0,0))):=zc ⟨_,t.out⟩;have hz:Hid (T.heap[B]?=some (.cells #[.int .i64 b] 3 (0,0))):=zc (by have:=t.out;rw[hc]at this;exact this);rw[S]at O;have k3:(b:Int) <(n:Int):=by omega
    clear I hc hy H0 S Hg t;by_cases H6:x<y
    ·rw[if_pos H6]at H
     gi_wp2
     have V:(T.setCell ⟨B,0,none⟩ (.int .i64 k)).heap[B]?=some (.cells #[.int .i64 k] 3 (0,0)):=zi hz.out;have N:zo8 (fun j=>j=B) T (T.setCell ⟨B,0,none⟩ (.int .i64 k)):=(zo8.refl _ _).one;refine⟨h8.out.zpW N (by omega) (by omega),?_,?_⟩
     ·rw[zE _ _ _ _ _ _ _ _ (by omega),H.out];exact V
     ·exact((h5.out.mono fun j G=>.inr G).trans N fun j G=>.inl (.inl G)).trans (zF _ _ _ _ _ _ _ _) fun j G=>.inl (.inr G)
    ·rw[if_neg H6]at H
     gi_wp2
     refine⟨h8.out,?_,?_⟩
     ·rw[zE _ _ _ _ _ _ _ _ (by omega),H.out];exact hz.out
     ·exact(h5.out.mono fun j G=>.inr G).trans (zF _ _ _ _ _ _ _ _) fun j G=>.inl (.inr G)
  case hmo=>
   rintro e W' ⟨h1,h2,h3,h4⟩;exact⟨h1,Hr.out.trans h4 fun j G=>.inl G,h3,h2⟩
 ·rintro e T ⟨hv,Y,J,M⟩;refine⟨hv,M,?_⟩;intro W3 hd N;have V:W3.heap[B]?=some (.cells #[.int .i64 (qO (uc l mask))] 3 (0,0)):=by rw[N.block B (zd J).1 (by omega)];exact J
  have Hj:=zx V;have k9:=(zd V).1;have HT:Hid (Below w.heap.size w W3):=zc ((E.trans (Y.below E.size fun j G=>by rcases G with rfl | rfl;exact q.2;have:=E.size;omega)).trans (N.below (by have:=Y.size;have:=E.size;omega) fun j G=>by have:=E.size;omega));have Hv:=zc hd;have k5:w.heap.size<=L:=by omega
  clear hd N V Y J M hv h m I O E hb hl
  gi_wp2
  refine⟨by simp,.inl ⟨_,_,rfl,run_takeDeferred Hv.out,?_⟩⟩;exact⟨_,results_tmp rfl _ _ _,rfl,HT.out.trans ⟨rfl,rfl,rfl,by simp,fun k hk=>World.putObj_heap_other (by omega)⟩⟩
end
section
attribute [local go_sem ↓] Go.wp_at_zero Go.wp_at_succ
def zs5(l:List Bool):List Value:=l.map Value.bool
theorem znT{l:List Bool}{k:Nat}{x:Bool}(h:l[k]?=some x):(zs5 l)[k]?=some (.bool x):=by simp[zs5,h]
structure ztA(w:World)(D1 D2 D3:Nat)(a:Option Addr)(n c:Nat)(ra:Option Addr)(rc:Nat)(mask:Int):Prop where
 l:w.cell? ⟨D1,0,none⟩=some (.slice a n c)
 r:w.cell? ⟨D2,0,none⟩=some (.slice ra n rc)
 m:w.cell? ⟨D3,0,none⟩=some (.int .u64 mask)
theorem ql(w:World)(a:Option Addr)(n c:Nat)(A:Option Addr)(rc:Nat)(mask:Int):
 Calls prog 186 #[.slice a n c,.slice A n rc,.int .u64 mask] w fun z w'=>∃D1 D2 D3,z=.returned (.func (.func 226) #[] #[.pointer (some ⟨D1,0,none⟩),.pointer (some ⟨D3,0,none⟩),.pointer (some ⟨D2,0,none⟩)])/\
  ztA w' D1 D2 D3 a n c A rc mask/\Below w.heap.size w w':=by
 go_enter func186,ntmps186;go_wp2;go_ret;have D:=heap_alloc_new ((w.alloc (.cells #[.slice a n c] 27)).alloc (.cells #[.slice A n rc] 230)) (.cells #[.int .u64 mask] 33);have B:=heap_alloc_new (w.alloc (.cells #[.slice a n c] 27)) (.cells #[.slice A n rc] 230);rw[World.size_alloc,World.size_alloc]at D;rw[World.size_alloc]at B;refine⟨_,_,_,rfl,⟨?_,?_,?_⟩,(((Below.refl _ w).alloc (zg _) _).alloc (by simp) _).alloc (by simp;omega) _⟩
 ·exact zx (t:=27) ((Below.heap_alloc _ _ _ (by simp;omega)).trans ((Below.heap_alloc _ _ _ (by simp)).trans (heap_alloc_new w _)))
 ·exact zx ((Below.heap_alloc _ _ _ (by simp)).trans B)
 ·exact zx D
theorem zgS(p:Int)(w:World)(A D B:Nat)(l:List Int)(run:List Bool)(a:Option Addr)(n c:Nat)(E:Option Addr)(rc:Nat)(mask:Int)(h:ztA w A D B a n c E rc mask)(hp:p<0)(H:n=l.length):
 Calls prog 226 #[.int .i64 p,.pointer (some ⟨A,0,none⟩),.pointer (some ⟨B,0,none⟩),.pointer (some ⟨D,0,none⟩)] w fun z w'=>z=.returned (.bool (xc l run mask p))/\w'=w:=by
 have e:xc l run mask p=false:=by unfold xc;simp;omega
 rw[e];have G:=h.l;have h0:=World.block_lt_of_cell? _ _ G;have hd:decide (0<=p)=false:=by simp;omega
 clear h e H;go_enter func226,ntmps226;go_wp2;go_ret;exact⟨rfl,rfl⟩
theorem znU(p:Nat)(x:Int)(b:Bool)(w:World)(X d Z:Nat)(l:List Int)(run:List Bool)(a:Option Addr)(n c:Nat)(Y:Option Addr)(rc:Nat)(mask:Int)(h:ztA w X d Z a n c Y rc mask)(s:n=l.length)(J:n=run.length)(G:n<=64)
 (hm:0<=mask) (O:mask<=18446744073709551615) (g:ym w a (uv l)) (H:ym w Y (zs5 run)) (I:l[p]?=some x) (D:run[p]?=some b):
 Calls prog 226 #[.int .i64 p,.pointer (some ⟨X,0,none⟩),.pointer (some ⟨Z,0,none⟩),.pointer (some ⟨d,0,none⟩)] w fun z w'=>z=.returned (.bool (xc l run mask p))/\w'=w:=by
 have T:=(ze I).1;have e:xc l run mask p=(qH mask p && (decide (x=0) && !b)):=by
  unfold xc;have k:l.getD p 0=x:=by rw[List.getD_eq_getElem?_getD,I];rfl
  have j:run.getD p false=b:=by rw[List.getD_eq_getElem?_getD,D];rfl
  simp only[Int.toNat_natCast,k,j];have q:decide ((0:Int)<=p/\(p:Int) <l.length)=true:=by simp;omega
  rw[q];simp
 rw[e,<-zfC hm O p];obtain⟨r,N,h9,hc⟩:=g p _ (qJ I);obtain⟨r2,E,ha,h0⟩:=H p _ (znT D);subst N;subst E;have o:=h.l;have R:=h.r;have M:=h.m;have k1:=World.block_lt_of_cell? _ _ o;have k2:=World.block_lt_of_cell? _ _ R;have k3:=World.block_lt_of_cell? _ _ M;have h7:(p:Int) <(n:Int):=by omega
 have h4:(p:Int) <64:=by omega
 have h5:decide ((n:Int)<=(p:Int))=false:=by simp;omega
 have hf:IntKind.u64.wrap (p:Int)=(p:Int):=by simp only[IntKind.wrap,IntKind.signed,IntKind.bits];simp;omega
 obtain⟨V,A⟩:=zh ((bits BinOp.and IntKind.u64 (mask/2 ^ p) 1 == 1))
 rw[<-A];have h6:=zc A;clear g H I D h e s J G T;cases V with
 | false=>
  have U:(bits BinOp.and IntKind.u64 (mask/2 ^ p) 1 == 1)=false:=A.symm;clear A;go_enter func226,ntmps226;go_wp2;go_ret;exact⟨rfl,rfl⟩
 | true=>
  have U:(bits BinOp.and IntKind.u64 (mask/2 ^ p) 1 == 1)=true:=A.symm;clear A;by_cases B:x=0
  ·subst B;go_enter func226,ntmps226;go_wp2;go_ret;exact⟨by
    have:¬n<=p:=by omega
    simp[this],rfl⟩
  ·have h8:(x == 0)=false:=beq_eq_false_iff_ne.2 B;have f:decide (x=0)=false:=by simp[B]
   rw[f];clear B f;go_enter func226,ntmps226;go_wp2;go_ret;exact⟨rfl,rfl⟩
theorem zit{P:Nat->Bool}:∀(n k:Nat),k<n->P k=true->(∀j,j<k->P j=false)->(List.range n).find? P=some k:=fun n k B E A=>by rw[List.find?_eq_some_iff_getElem];refine⟨E,k,by simpa using B,by simp,fun j D=>?_⟩;simp[A j D]
theorem zcI{P:Nat->Bool}(n:Nat)(A:∀j,j<n->P j=false):(List.range n).find? P=none:=by rw[List.find?_eq_none];intro x B;simp at B;simp[A x B]
structure LR(w:World)(l:List Int)(run:List Bool)(a ra:Option Addr)(n:Nat):Prop where
 ln:n=l.length
 rn:n=run.length
 ztd:n<=64
 l:ym w a (uv l)
 r:ym w ra (zs5 run)
theorem LR.behind{w w':World}{l:List Int}{run:List Bool}{a A:Option Addr}{n:Nat}(h:LR w l run a A n)(hb:Below w.heap.size w w'):LR w' l run a A n:=⟨h.ln,h.rn,h.ztd,h.l.behind hb,h.r.behind hb⟩
theorem zcS(p:Nat)(w:World)(D G E:Nat)(l:List Int)(run:List Bool)(a:Option Addr)(n c:Nat)(B:Option Addr)(rc:Nat)(mask:Int)(h:ztA w D G E a n c B rc mask)(A:LR w l run a B n)(hp:p<n)
 (hm:0<=mask) (H:mask<=18446744073709551615):
 Calls prog 226 #[.int .i64 p,.pointer (some ⟨D,0,none⟩),.pointer (some ⟨E,0,none⟩),.pointer (some ⟨G,0,none⟩)] w fun z w'=>z=.returned (.bool (xc l run mask p))/\w'=w:=
 znU p _ _ w D G E l run a n c B rc mask h A.ln A.rn A.ztd hm H A.l A.r (List.getElem?_eq_getElem (by rw[<-A.ln];exact hp)) (List.getElem?_eq_getElem (by rw[<-A.rn];exact hp))
theorem uI(w:World)(l:List Int)(run:List Bool)(a:Option Addr)(n c:Nat)(G:Option Addr)(rc:Nat)(mask:Int)(N:LR w l run a G n)(hm:0<=mask)(I:mask<=18446744073709551615):
 Calls prog 187 #[.slice a n c,.slice G n rc,.int .u64 mask] w fun z w'=>z=.returned (.int .i64 (qO ((List.range n).find? fun p:Nat=>xc l run mask (p:Int))))/\Below w.heap.size w w':=by
 have X:=zc N;have h0:=N.ztd;have d:=zc (ql w a n c G rc mask);clear N;go_enter func187,ntmps187;go_wp2_with fail;refine d.out.mono ?_;rintro z Z ⟨R,V,U,rfl,hid,hb⟩;have f:=zc hid;have O:=zc hb;have H:=zc (X.out.behind hb);clear hid hb;go_wp2_with fail;go_loop [15] (fun i=>∃k:Nat,k<=n/\i=.int .i64 k/\∀j,j<k->xc l run mask (j:Int)=false) (fun i=>n-(intOf i).toNat)
 case atStart=>exact⟨0,by omega,rfl,fun j Y=>by omega⟩
 case round=>
  obtain⟨k,hk,rfl,B⟩:=hrel;have A:=zc B;clear B;by_cases D:k<n
  ·have J:=zc (zcS k Z R V U l run a n c G rc mask f.out H.out D hm I);obtain⟨b,hb⟩:=zh (xc l run mask (k:Int))
   rw[<-hb]at J;have E:=zc hb;clear hb;cases b with
   | true=>
    go_wp2_with fail;refine J.out.mono ?_;rintro z T ⟨rfl,hw⟩;obtain rfl:=hw.symm;go_wp2;go_ret;refine⟨?_,O.out⟩;rw[zit n k D E.out.symm A.out];rfl
   | false=>
    go_wp2_with fail;refine J.out.mono ?_;rintro z T ⟨rfl,hw⟩;obtain rfl:=hw.symm;go_wp2;go_round
    case rel=>
     refine⟨k+1,by omega,by go_num,fun j Y=>?_⟩;by_cases e:j=k
     ·subst e;exact E.out.symm
     ·exact A.out j (by omega)
    case measure=>simp[intOf];omega
  ·have M:k=n:=by omega
   subst M;go_wp2;go_ret;refine⟨?_,O.out⟩;rw[zcI k A.out];rfl
theorem zkF(prev:Int)(w:World)(l:List Int)(run:List Bool)(a:Option Addr)(n c:Nat)(E:Option Addr)(rc:Nat)(mask:Int)(B:LR w l run a E n)(hm:0<=mask)(D:mask<=18446744073709551615)(G:uc l mask=none):
 Calls prog 135 #[.slice a n c,.slice E n rc,.int .i64 prev,.int .u64 mask] w fun z w'=>z=.returned (.tuple #[.int .i64 0,.int .i64 9])/\Below w.heap.size w w':=by
 have A:=zc (uu l mask a c w (by rw[<-B.ln];exact B.ztd) hm D B.l);rw[G,<-B.ln]at A;clear B G;go_enter func135,ntmps135;go_wp2_with fail;refine A.out.mono ?_;rintro z w2 ⟨rfl,hb⟩;have H:=zc hb;clear hb;have I:qO none= -1:=rfl;rw[I];go_wp2;go_ret2;exact⟨rfl,H.out⟩
theorem zgT(prev:Int)(b:Nat)(w:World)(l:List Int)(run:List Bool)(a:Option Addr)(n c:Nat)(G:Option Addr)(rc:Nat)(mask:Int)(D:LR w l run a G n)(hm:0<=mask)(N:mask<=18446744073709551615)(O:uc l mask=some b)
 (hid:∀W H J I,Below w.heap.size w W->ztA W H J I a n c G rc mask->Calls prog 226 #[.int .i64 prev,.pointer (some ⟨H,0,none⟩),.pointer (some ⟨I,0,none⟩),.pointer (some ⟨J,0,none⟩)] W fun z w'=>z=.returned (.bool true)/\w'=W):
 Calls prog 135 #[.slice a n c,.slice G n rc,.int .i64 prev,.int .u64 mask] w fun z w'=>z=.returned (.tuple #[.int .i64 prev,.int .i64 0])/\Below w.heap.size w w':=by
 have B:=zc (uu l mask a c w (by rw[<-D.ln];exact D.ztd) hm N D.l);rw[O,<-D.ln]at B;have M:=zc hid;clear D O hid;go_enter func135,ntmps135;go_wp2_with fail;refine B.out.mono ?_;rintro z Y ⟨rfl,hb⟩;have R:=zc hb;clear hb;have X:qO (some b)=(b:Int):=rfl;rw[X];go_wp2_with fail;refine(ql Y a n c G rc mask).mono ?_;rintro z U ⟨H,J,I,rfl,T,E⟩;have A:=zc (zj R.out E R.out.size);have V:=zc (M.out U H J I A.out T);clear T E;go_wp2_with fail;refine V.out.mono ?_;rintro z w4 ⟨rfl,hw⟩;obtain rfl:=hw.symm;go_wp2;go_ret2;exact⟨rfl,A.out⟩
theorem zgU(prev:Int)(b p:Nat)(w:World)(l:List Int)(run:List Bool)(a:Option Addr)(n c:Nat)(D:Option Addr)(rc:Nat)(mask:Int)(B:LR w l run a D n)(hm:0<=mask)(H:mask<=18446744073709551615)(V:uc l mask=some b)
 (hid:∀W J N M,Below w.heap.size w W->ztA W J N M a n c D rc mask->Calls prog 226 #[.int .i64 prev,.pointer (some ⟨J,0,none⟩),.pointer (some ⟨M,0,none⟩),.pointer (some ⟨N,0,none⟩)] W fun z w'=>z=.returned (.bool false)/\w'=W)
 (Y:((List.range n).find? fun p:Nat=>xc l run mask (p:Int))=some p):
 Calls prog 135 #[.slice a n c,.slice D n rc,.int .i64 prev,.int .u64 mask] w fun z w'=>z=.returned (.tuple #[.int .i64 p,.int .i64 0])/\Below w.heap.size w w':=by
 have E:=zc (uu l mask a c w (by rw[<-B.ln];exact B.ztd) hm H B.l);rw[V,<-B.ln]at E;have O:=zc hid;have h:=zc B;have f:=zc Y;clear B V hid Y;go_enter func135,ntmps135;go_wp2_with fail;refine E.out.mono ?_;rintro z j ⟨rfl,hb⟩;have X:=zc hb;clear hb;have T:qO (some b)=(b:Int):=rfl;rw[T];go_wp2_with fail;refine(ql j a n c D rc mask).mono ?_;rintro z U ⟨J,N,M,rfl,Z,I⟩;have A:=zc (zj X.out I X.out.size);have g:=zc (O.out U J N M A.out Z);clear Z I;go_wp2_with fail;refine g.out.mono ?_;rintro z w4 ⟨rfl,hw⟩;obtain rfl:=hw.symm
 have d:=zc (uI U l run a n c D rc mask (h.out.behind A.out) hm H);rw[f.out]at d;go_wp2_with fail;refine d.out.mono ?_;rintro z w5 ⟨rfl,G⟩;have R:=zc (zj A.out G A.out.size);clear G;have T:qO (some p)=(p:Int):=rfl;rw[T];go_wp2;go_ret2;exact⟨rfl,R.out⟩
theorem zgV(b:Nat)(w:World)(l:List Int)(run:List Bool)(a:Option Addr)(n c:Nat)(D:Option Addr)(rc:Nat)(mask:Int)(B:LR w l run a D n)(hm:0<=mask)(H:mask<=18446744073709551615)(R:uc l mask=some b)
 (V:((List.range n).find? fun p:Nat=>xc l run mask (p:Int))=none):
 Calls prog 135 #[.slice a n c,.slice D n rc,.int .i64 (-1),.int .u64 mask] w fun z w'=>z=.returned (.tuple #[.int .i64 b,.int .i64 0])/\Below w.heap.size w w':=by
 have E:=zc (uu l mask a c w (by rw[<-B.ln];exact B.ztd) hm H B.l);rw[R,<-B.ln]at E;have h:=zc B;have f:=zc V;have J:=zc B.ln;clear B R V;go_enter func135,ntmps135;go_wp2_with fail;refine E.out.mono ?_;rintro z j ⟨rfl,hb⟩;have T:=zc hb;clear hb;have N:qO (some b)=(b:Int):=rfl;rw[N];go_wp2_with fail;refine(ql j a n c D rc mask).mono ?_;rintro z O ⟨Z,g,d,rfl,X,I⟩;have A:=zc (zj T.out I T.out.size);have U:=zc (zgS (-1) O Z g d l run a n c D rc mask X (by omega) J.out);rw[show xc l run mask (-1)=false by unfold xc;simp]at U;clear X I;go_wp2_with fail
 refine U.out.mono ?_;rintro z w4 ⟨rfl,hw⟩;obtain rfl:=hw.symm;have Y:=zc (uI O l run a n c D rc mask (h.out.behind A.out) hm H);rw[f.out]at Y;go_wp2_with fail;refine Y.out.mono ?_;rintro z w5 ⟨rfl,G⟩;have M:=zc (zj A.out G A.out.size);clear G;have N:qO none=(-1:Int):=rfl;rw[N];go_wp2_with fail;go_quiet (fail);go_wp2;go_ret2;exact⟨rfl,zp M.out nq⟩
theorem zgW(p b:Nat)(w:World)(l:List Int)(run:List Bool)(a:Option Addr)(n c:Nat)(M:Option Addr)(rc:Nat)(mask:Int)(H:LR w l run a M n)(hm:0<=mask)(B:mask<=18446744073709551615)(u:uc l mask=some b)(hp:p<n)
 (N:xc l run mask p=false) (K:((List.range n).find? fun p:Nat=>xc l run mask (p:Int))=none):
 Calls prog 135 #[.slice a n c,.slice M n rc,.int .i64 p,.int .u64 mask] w fun z w'=>z=.returned (.tuple #[.int .i64 ((if qH mask p=true/\l.getD p 0<=l.getD b 0 then p else b:Nat):Int),.int .i64 0])/\Below w.heap.size w w':=by
 have q:b<n:=by rw[H.ln];exact zaO u
 have T:=zc (uu l mask a c w (by rw[<-H.ln];exact H.ztd) hm B H.l);rw[u,<-H.ln]at T;have U:=zc H;have F:=zc K;have Y:=zc N;have h4:=H.ztd;obtain⟨x,g⟩:∃x,l[p]?=some x:=⟨_,List.getElem?_eq_getElem (by rw[<-H.ln];exact hp)⟩
 obtain⟨y,k⟩:∃y,l[b]?=some y:=⟨_,List.getElem?_eq_getElem (by rw[<-H.ln];exact q)⟩
 have C:l.getD p 0=x:=by rw[List.getD_eq_getElem?_getD,g];rfl
 have L:l.getD b 0=y:=by rw[List.getD_eq_getElem?_getD,k];rfl
 rw[C,L];have HX:=zc g;have Q:=zc k;have R:=zc (zfC hm B p);have h2:(p:Int) <64:=by omega
 have h9:(p:Int) <(n:Int):=by omega
 have ha:(b:Int) <(n:Int):=by omega
 have h8:IntKind.u64.wrap (p:Int)=(p:Int):=by simp only[IntKind.wrap,IntKind.signed,IntKind.bits];simp;omega
 obtain⟨r,h,_,_⟩:=H.l p _ (qJ g);subst h;obtain⟨o,V⟩:=zh (qH mask p)
 rw[<-V]at R ⊢;clear H u K N g k C L V;cases o with
 | false=>
  have m:(bits BinOp.and IntKind.u64 (mask/2 ^ p) 1 == 1)=false:=R.out;rw[show(if false=true/\x<=y then p else b:Nat)=b by simp];go_enter func135,ntmps135;go_wp2_with fail;refine T.out.mono ?_;rintro z v ⟨rfl,hb⟩;have d:=zc hb;clear hb;have O:qO (some b)=(b:Int):=rfl;rw[O];go_wp2_with fail;refine(ql v (some ⟨r,0,none⟩) n c M rc mask).mono ?_;rintro z X ⟨j,s,t,rfl,N,E⟩;have A:=zc (zj d.out E d.out.size);have f:=zc (zcS p X j s t l run _ n c M rc mask N (U.out.behind A.out) hp hm B);rw[Y.out]at f;clear N E;go_wp2_with fail;refine f.out.mono ?_;rintro z P ⟨rfl,hw⟩;obtain rfl:=hw.symm
  have Z:=zc (uI X l run _ n c M rc mask (U.out.behind A.out) hm B);rw[F.out]at Z;go_wp2_with fail;refine Z.out.mono ?_;rintro z w5 ⟨rfl,I⟩;have D:=zc (zj A.out I A.out.size);clear I;have O:qO none=(-1:Int):=rfl;rw[O];go_wp2_with fail;go_quiet (fail);go_wp2;go_ret2;exact⟨rfl,zp D.out nq⟩
 | true=>
  have m:(bits BinOp.and IntKind.u64 (mask/2 ^ p) 1 == 1)=true:=R.out;rw[show(if true=true/\x<=y then p else b:Nat)=if x<=y then p else b by simp];obtain⟨res,G⟩:∃res:Nat,res=if x<=y then p else b:=⟨_,rfl⟩
  rw[<-G];have J:=zc G;clear G;go_enter func135,ntmps135;go_wp2_with fail;refine T.out.mono ?_;rintro z v ⟨rfl,hb⟩;have d:=zc hb;clear hb;have O:qO (some b)=(b:Int):=rfl;rw[O];go_wp2_with fail;refine(ql v (some ⟨r,0,none⟩) n c M rc mask).mono ?_;rintro z X ⟨j,s,t,rfl,N,E⟩;have A:=zc (zj d.out E d.out.size);have f:=zc (zcS p X j s t l run _ n c M rc mask N (U.out.behind A.out) hp hm B);rw[Y.out]at f;clear N E;go_wp2_with fail;refine f.out.mono ?_;rintro z P ⟨rfl,hw⟩;obtain rfl:=hw.symm;have Z:=zc (uI X l run _ n c M rc mask (U.out.behind A.out) hm B);rw[F.out]at Z
  go_wp2_with fail;refine Z.out.mono ?_;rintro z w5 ⟨rfl,I⟩;have D:=zc (zj A.out I A.out.size);obtain⟨r1,W,h5,h1⟩:=(U.out.behind D.out).l p _ (qJ HX.out);obtain⟨r2,S,h6,h3⟩:=(U.out.behind D.out).l b _ (qJ Q.out);cases W;cases S;clear I;have O:qO none=(-1:Int):=rfl;rw[O];go_wp2_with fail;go_quiet (fail);by_cases h7:x<=y
  ·go_wp2;go_ret2;exact⟨by rw[J.out,if_pos (by omega)];rfl,zp D.out nq⟩
  ·go_wp2;go_ret2;exact⟨by rw[J.out,if_neg (by omega)];rfl,zp D.out nq⟩
theorem zfD(prev:Int)(w:World)(l:List Int)(run:List Bool)(a:Option Addr)(n c:Nat)(D:Option Addr)(rc:Nat)(mask:Int)(G:LR w l run a D n)(hm:0<=mask)(A:mask<=18446744073709551615)(hp:prev= -1∨∃p:Nat,prev=p/\p<n):
 Calls prog 135 #[.slice a n c,.slice D n rc,.int .i64 prev,.int .u64 mask] w fun z w'=>(z=match yS l run prev mask with
  | none=>.returned (.tuple #[.int .i64 0,.int .i64 9])
  | some p=>.returned (.tuple #[.int .i64 (p:Nat),.int .i64 0]))/\Below w.heap.size w w':=by
 have E:=G.ln;cases h0:uc l mask with
 | none=>
  have e:yS l run prev mask=none:=by unfold yS;rw[h0]
  rw[e];exact zkF prev w l run a n c D rc mask G hm A h0
 | some b=>
  have zre:∀W I O J,Below w.heap.size w W->ztA W I O J a n c D rc mask->Calls prog 226 #[.int .i64 prev,.pointer (some ⟨I,0,none⟩),.pointer (some ⟨J,0,none⟩),.pointer (some ⟨O,0,none⟩)] W fun z w'=>z=.returned (.bool (xc l run mask prev))/\w'=W:=by
   intro W I O J hb B;rcases hp with rfl | ⟨p,rfl,H⟩
   ·exact zgS (-1) W I O J l run a n c D rc mask B (by omega) E
   ·exact zcS p W I O J l run a n c D rc mask B (G.behind hb) H hm A
  by_cases B:xc l run mask prev=true
  ·have e:yS l run prev mask=some prev.toNat:=by unfold yS;rw[h0];simp only;rw[if_pos B]
   rw[e];have N:((prev.toNat:Nat):Int)=prev:=by
    rcases hp with rfl | ⟨p,rfl,_⟩
    ·unfold xc at B;simp at B
    ·simp
   simp only[N];rw[B]at zre;exact zgT prev b w l run a n c D rc mask G hm A h0 zre
  ·have M:xc l run mask prev=false:=by simpa using B
   rw[M]at zre;cases hf:((List.range n).find? fun p:Nat=>xc l run mask (p:Int))with
   | some p=>
    have e:yS l run prev mask=some p:=by unfold yS;rw[h0];simp only;rw[if_neg B,<-E,hf]
    rw[e];exact zgU prev b p w l run a n c D rc mask G hm A h0 zre hf
   | none=>
    rcases hp with rfl | ⟨p,rfl,H⟩
    ·have e:yS l run (-1) mask=some b:=by unfold yS;rw[h0];simp only;rw[if_neg B,<-E,hf];simp
     rw[e];exact zgV b w l run a n c D rc mask G hm A h0 hf
    ·have e:yS l run p mask=some (if qH mask p=true/\l.getD p 0<=l.getD b 0 then p else b):=by
      unfold yS;rw[h0];simp only;rw[if_neg B,<-E,hf];simp only[Int.toNat_natCast];have T:(0:Int)<=p/\(p:Int) <n:=by omega
      by_cases R:qH mask p=true/\l.getD p 0<=l.getD b 0
      ·rw[if_pos ⟨T.1,T.2,R.1,R.2⟩,if_pos R]
      ·rw[if_neg (fun h=>R ⟨h.2.2.1,h.2.2.2⟩),if_neg R]
     rw[e];exact zgW p b w l run a n c D rc mask G hm A h0 H M hf
end
section
open Go.Shelf
attribute [local go_sem ↓] Go.wp_at_zero Go.wp_at_succ
attribute [local go_sem] Oper.semAt_some
def xX(l:List Int)(q mask:Int):Nat->Option Nat
 | 0=>none
 | k+1=>match xX l q mask k with
  | none=>if qH mask k=true/\(k:Int)≠q then some k else none
  | some b=>if qH mask k=true/\(k:Int)≠q/\l.getD b 0<l.getD k 0 then some k else some b
def zno(l:List Int)(q mask:Int):Option Nat:=xX l q mask l.length
theorem zeb{l:List Int}{q mask:Int}:∀{k b:Nat},xX l q mask k=some b->b<k
 | 0,b,h=>by cases h
 | k+1,b,h=>by
  unfold xX at h;split at h
  ·split at h
   ·cases h;omega
   ·cases h
  ·rename_i c A;have:=zeb A;split at h <;> (cases h;omega)
theorem zji{l:List Int}{q mask:Int}{k:Nat}(h:qH mask k=false):xX l q mask (k+1)=xX l q mask k:=by
 conv=>lhs;unfold xX
 cases hc:xX l q mask k with
 | none=>simp[h]
 | some b=>simp[h]
theorem znp(l:List Int)(q mask:Int)(a:Option Addr)(c:Nat)(w:World)(hn:l.length<=64)(hm:0<=mask)(k7:mask<=18446744073709551615)(hR:ym w a (uv l)):
 Calls prog 102 #[.slice a l.length c,.int .i64 q,.int .u64 mask] w fun z w'=>z=.returned (.int .i64 (qO (zno l q mask)))/\Below w.heap.size w w':=by
 have HR:=zc hR;obtain⟨n,hN⟩:=zh l.length
 have HN:=zc hN;rw[<-hN]at hn ⊢;clear hR hN;refine(callsIn_wide (n:=4)).1 ?_;refine callsIn_of_wp_marks func102 rfl trivial ?_ rfl;simp only[ntmps102,List.size_toArray,List.length_cons,List.length_nil,Nat.reduceAdd,Nat.reduceSub,Array.replicate_succ,Array.replicate_zero,List.push_toArray,List.append_toArray,List.nil_append,List.cons_append]
 gi_wp2_with fail
 obtain⟨w1,d⟩:=zh (((w.alloc (.cells #[.slice a n c] 27)).alloc (.cells #[.int .i64 q] 3)).alloc (.cells #[.int .i64 (-1)] 3))
 have Hu:Below w.heap.size w w1:=by rw[d];exact(((Below.refl _ w).alloc (zg _) _).alloc (by simp) _).alloc (by simp;omega) _
 have h:w1.heap[w.heap.size]?=some (.cells #[.slice a n c] 27 (0,0)):=by rw[d];exact(Below.heap_alloc _ _ _ (by simp;omega)).trans ((Below.heap_alloc _ _ _ (by simp)).trans (heap_alloc_new w _))
 have s:w1.heap[w.heap.size+1]?=some (.cells #[.int .i64 q] 3 (0,0)):=by have h2:=heap_alloc_new (w.alloc (.cells #[.slice a n c] 27)) (.cells #[.int .i64 q] 3);rw[World.size_alloc]at h2;rw[d];exact(Below.heap_alloc _ _ _ (by simp)).trans h2
 have v:w1.heap[w.heap.size+2]?=some (.cells #[.int .i64 (-1)] 3 (0,0)):=by have h2:=heap_alloc_new ((w.alloc (.cells #[.slice a n c] 27)).alloc (.cells #[.int .i64 q] 3)) (.cells #[.int .i64 (-1)] 3);rw[World.size_alloc,World.size_alloc]at h2;rw[d];exact h2
 rw[<-d];obtain⟨D,hD⟩:=zh w.heap.size
 obtain⟨Q,ha⟩:=zh (D+1)
 obtain⟨B,h9⟩:=zh (D+2)
 rw[<-hD]at h v s ⊢;rw[show D+1+1=D+2 from rfl,<-h9,<-ha];rw[<-h9]at v;rw[<-ha]at s;have k9:=zc ha;have k4:=zc s;have Hb:=(zd s).1;have HD:=zc hD;have Hp:=zc h9;have Ha:=zc h;have hz:=zc v;have h0:=zc Hu;have Hg:=(zd h).1;have T:=zx h;clear d Hu h v s hD h9 ha;refine⟨trivial,(callsIn_wide.2 (zgP w1 (.slice a n c) mask rfl)).mono ?_⟩;rintro z w2 ⟨A,C,rfl,hA,hC,He,Hs,f⟩;have HA:=zc hA;have HC:=zc hC;have HZ:Hid (A<w2.heap.size/\C<w2.heap.size):=zc ⟨World.block_lt_of_cell? _ _ hA,World.block_lt_of_cell? _ _ hC⟩
 have ke:Hid (w1.heap.size<=A/\w1.heap.size<=C):=zc ⟨He,Hs⟩;have h5:=zc f;have H7:Hid (w2.heap[D]?=some (.cells #[.slice a n c] 27 (0,0))):=zc ((f.block D Hg).trans Ha.out);have Hq:Hid (w2.heap[Q]?=some (.cells #[.int .i64 q] 3 (0,0))):=zc ((f.block Q Hb).trans k4.out);have Hh:Hid (w2.heap[B]?=some (.cells #[.int .i64 (-1)] 3 (0,0))):=zc ((f.block B (zd hz.out).1).trans hz.out);clear hA hC He Hs f Hg T Hb
 gi_wp2_with fail
 refine zR rfl (by simp) (gf:=60) (lb:=#[.pointer (some ⟨A,0,none⟩),.pointer (some ⟨C,0,none⟩)]) rfl trivial (enters_of func60 (by kernel_rfl) rfl) ?_;intro fn t ku hb hl;obtain⟨L,O⟩:=zh w2.heap.size
 rw[<-O]at hl hb ⊢;have ko:=zc O;have kf:B<L:=by rw[O];exact(zd Hh.out).1
 have ka:Q<L:=by rw[O];exact(zd Hq.out).1
 have kb:D<L:=by rw[O];exact(zd H7.out).1
 have Hz:A<L:=by rw[O];exact HZ.out.1
 have k1:C<L:=by rw[O];exact HZ.out.2
 have H4:=h0.out.size;have kg:=h5.out.size;have kv:w.heap.size<=D:=by rw[HD.out];exact zg _
 have S:B≠D/\w.heap.size<=B:=by have:=Hp.out;omega
 have kc:Q≠B/\w.heap.size<=Q:=by have:=Hp.out;have:=k9.out;omega
 have kk:=(zd hz.out).1;have ki:=(zd Ha.out).1;have H2:A≠B/\C≠B/\A≠D/\C≠D:=by have:=ke.out;omega
 have H:Below w.heap.size w t:=zj (zj h0.out h5.out H4) hb (by omega);have F:t.cell? ⟨A,0,none⟩=some (.slice a n c):=(hb.cell (p:=⟨A,0,none⟩) Hz).trans HA.out;have P:t.cell? ⟨C,0,none⟩=some (.int .u64 mask):=(hb.cell (p:=⟨C,0,none⟩) k1).trans HC.out;have I:t.heap[B]?=some (.cells #[.int .i64 (-1)] 3 (0,0)):=(hb.block B kf).trans Hh.out;have g:t.heap[Q]?=some (.cells #[.int .i64 q] 3 (0,0)):=(hb.block Q ka).trans Hq.out;have T:t.heap[D]?=some (.cells #[.slice a n c] 27 (0,0)):=(hb.block D kb).trans H7.out;clear O
 refine(zgQ 1 (fun k W=>zo8 (fun j=>j=B∨j=L+1) t W/\W.heap[B]?=some (.cells #[.int .i64 (qO (xX l q mask k))] 3 (0,0))/\yD W L .ready fn _ _ _ _) l mask a c A C (L+1) (by rw[<-HN.out];exact hn) hm k7 ?_ ?_ ?_ t ⟨.refl _ _,I,hl⟩).mono ?_
 ·rintro k W ⟨Y,J,M⟩;have Hd:∀j,j<t.heap.size->j≠B->j≠L+1->∀o,W.cell? ⟨j,o,none⟩=t.cell? ⟨j,o,none⟩:=fun j E n1 n2 o=>by have e:=Y.block j E (by rintro(e | e);exact n1 e;exact n2 e);simp[World.cell?,e]
  refine⟨?_,?_,?_⟩
  ·rw[Hd A (World.block_lt_of_cell? _ _ F) H2.1 (by omega),F,HN.out]
  ·rw[Hd C (World.block_lt_of_cell? _ _ P) H2.2.1 (by omega)];exact P
  ·exact HR.out.behind (H.trans (Y.below H.size fun j E=>by rcases E with rfl | rfl;exact S.2;have:=H.size;omega))
 ·rintro k W ⟨Y,J,M⟩ Z;rw[zji Z];exact⟨Y,J,M⟩
 ·rintro k x W ⟨Y,J,M⟩ hx Z;have Hl:=HR.out.behind (H.trans (Y.below H.size fun j E=>by rcases E with rfl | rfl;exact S.2;have:=H.size;omega));have Hn:W.heap[D]?=some (.cells #[.slice a n c] 27 (0,0)):=(Y.block D (zd T).1 (by rintro(e | e);exact S.1 e.symm;omega)).trans T;have Ho:W.heap[Q]?=some (.cells #[.int .i64 q] 3 (0,0)):=(Y.block Q (zd g).1 (by rintro(e | e);exact kc.1 e;omega)).trans g;have hh:=zc Ho;have Hy:=(ze hx).1
  have H6:=zc Hl;have hg:=zc Hn;have HX:=zc hx;have Hi:=zc Z;have Hk:=zc M;have Hr:=zc J;have k5:=zc Y;have H5:=(zd J).1;rw[<-HN.out]at Hy;clear Hl Hn Ho hx Z J Y F P I T g H hb hl H2;refine YieldAt.mono (xF (a₁:=?a1) trivial M _ rfl (R:=fun W'=>W'.heap[B]?=some (.cells #[.int .i64 (qO (xX l q mask (k+1)))] 3 (0,0))/\zo8 (fun j=>j=B∨j=L+1) W W') ?has ?hbo) ?hmo
  case has=>
   intro K hK
   gi_wp2
   exact hK
  case hbo=>
   generalize hq:yH W L .busy _ _ _ _ _=U;have hr:=Hk.out.put .busy;rw[hq]at hr;have zpZ:zo8 (fun j=>j=L+1) W U:=by rw[<-hq];exact zF _ _ _ _ _ _ _ _
   have m:U.heap[B]?=some (.cells #[.int .i64 (qO (xX l q mask k))] 3 (0,0)):=(zpZ.block B H5 (by omega)).trans Hr.out;have ho:U.heap[D]?=some (.cells #[.slice a n c] 27 (0,0)):=(zpZ.block D (zd hg.out).1 (by omega)).trans hg.out;have hi:U.heap[Q]?=some (.cells #[.int .i64 q] 3 (0,0)):=(zpZ.block Q (zd hh.out).1 (by omega)).trans hh.out;have Hj:ym U a (uv l):=fun j u hu=>by
    obtain⟨r,e1,e2,e3⟩:=HR.out j u hu;obtain⟨r',Hv,k0,Hc⟩:=H6.out j u hu;have:r'=r:=by rw[e1]at Hv;cases Hv;rfl
    subst this;have k2:r'≠L+1:=by have:=HD.out;omega
    have e4:=zpZ.block r' Hc k2;refine⟨r',e1,?_,zf Hc zpZ.size⟩;rw[<-k0];simp[World.cell?,e4]
   have h7:=zc hr;have h6:=zc zpZ;have h8:=zc m;have k6:=zc Hj;have I:=zx m;have T:=zx ho;have km:U.frozen? ⟨B,0,none⟩=false:=by simp[World.frozen?,m]
   have kr:=(zd m).1;have kp:=(zd ho).1;have g:=zx hi;have kn:=(zd hi).1;have G:Hid (xX l q mask (k+1)=if(k:Int)=q then xX l q mask k else match xX l q mask k with
    | none=>some k
    | some b=>if l.getD b 0<x then some k else some b):=zc (by
     conv=>lhs;unfold xX
     have k3:l.getD k 0=x:=by rw[List.getD_eq_getElem?_getD,HX.out];rfl
     by_cases hk:(k:Int)=q
     ·rw[if_pos hk];cases hc:xX l q mask k with
      | none=>simp[hk]
      | some b=>simp[hk]
     ·rw[if_neg hk];cases hc:xX l q mask k with
      | none=>simp[Hi.out,hk]
      | some b=>simp only[Hi.out,true_and,k3,ne_eq,hk,not_false_eq_true])
   clear hq hr zpZ m ho hi Hj M Hk H6 hg hh Hr;by_cases X:(k:Int)=q
   ·rw[if_pos X]at G;have k8:((k:Int) != q)=false:=by simp[X]
    obtain⟨vb,H0⟩:=zh (qO (xX l q mask k))
    rw[<-H0]at I;have kx:=zc H0;clear H0 X
    gi_wp2
    refine⟨h7.out,?_,?_⟩
    ·rw[zE _ _ _ _ _ _ _ _ (by omega),G.out];exact h8.out
    ·exact(h6.out.mono fun j E=>.inr E).trans (zF _ _ _ _ _ _ _ _) fun j E=>.inl (.inr E)
   ·rw[if_neg X]at G;have k8:((k:Int) != q)=true:=by simp[X]
    cases hc:xX l q mask k with
    | none=>
     rw[hc]at I G;simp only at G;have H3:U.cell? ⟨B,0,none⟩=some (.int .i64 (-1)):=I;clear I hc X
     gi_wp2
     have V:(U.setCell ⟨B,0,none⟩ (.int .i64 k)).heap[B]?=some (.cells #[.int .i64 k] 3 (0,0)):=zi h8.out;have N:zo8 (fun j=>j=B) U (U.setCell ⟨B,0,none⟩ (.int .i64 k)):=(zo8.refl _ _).one;refine⟨h7.out.zpW N (by omega) (by omega),?_,?_⟩
     ·rw[zE _ _ _ _ _ _ _ _ (by omega),G.out];exact V
     ·exact((h6.out.mono fun j E=>.inr E).trans N fun j E=>.inl (.inl E)).trans (zF _ _ _ _ _ _ _ _) fun j E=>.inl (.inr E)
    | some b=>
     have kt:=zeb hc;rw[hc]at I G;simp only at G;have H3:U.cell? ⟨B,0,none⟩=some (.int .i64 b):=I;have Ht:b<l.length:=by rw[<-HN.out];omega
     obtain⟨y,hy⟩:∃y,l[b]?=some y:=⟨_,List.getElem?_eq_getElem Ht⟩
     have H9:l.getD b 0=y:=by rw[List.getD_eq_getElem?_getD,hy];rfl
     rw[H9]at G;obtain⟨r,hf,kz,ks⟩:=k6.out b _ (qJ hy);have ky:=zc hf;have H8:Hid (U.heap[B]?=some (.cells #[.int .i64 b] 3 (0,0))):=zc (by have:=h8.out;rw[hc]at this;exact this);rw[hf]at T;have kj:(b:Int) <(n:Int):=by omega
     have kh:(0:Int)<=(b:Int):=by omega
     clear I hc hy H9 hf Ht h8 X;by_cases Hf:y<x
     ·rw[if_pos Hf]at G
      gi_wp2
      have V:(U.setCell ⟨B,0,none⟩ (.int .i64 k)).heap[B]?=some (.cells #[.int .i64 k] 3 (0,0)):=zi H8.out;have N:zo8 (fun j=>j=B) U (U.setCell ⟨B,0,none⟩ (.int .i64 k)):=(zo8.refl _ _).one;refine⟨h7.out.zpW N (by omega) (by omega),?_,?_⟩
      ·rw[zE _ _ _ _ _ _ _ _ (by omega),G.out];exact V
      ·exact((h6.out.mono fun j E=>.inr E).trans N fun j E=>.inl (.inl E)).trans (zF _ _ _ _ _ _ _ _) fun j E=>.inl (.inr E)
     ·rw[if_neg Hf]at G
      gi_wp2
      refine⟨h7.out,?_,?_⟩
      ·rw[zE _ _ _ _ _ _ _ _ (by omega),G.out];exact H8.out
      ·exact(h6.out.mono fun j E=>.inr E).trans (zF _ _ _ _ _ _ _ _) fun j E=>.inl (.inr E)
  case hmo=>
   rintro e W' ⟨h1,h2,h3,h4⟩;exact⟨h1,k5.out.trans h4 fun j E=>.inl E,h3,h2⟩
 ·rintro e U ⟨hv,Y,J,M⟩;refine⟨hv,M,?_⟩;intro W3 hd N;have V:W3.heap[B]?=some (.cells #[.int .i64 (qO (zno l q mask))] 3 (0,0)):=by rw[N.block B (zd J).1 (by omega)];exact J
  have Hw:=zx V;have kq:=(zd V).1;have HT:Hid (Below w.heap.size w W3):=zc ((H.trans (Y.below H.size fun j E=>by rcases E with rfl | rfl;exact S.2;have:=H.size;omega)).trans (N.below (by have:=Y.size;have:=H.size;omega) fun j E=>by have:=H.size;omega));have kd:=zc hd;have kl:w.heap.size<=L:=by omega
  clear hd N V Y J M hv F P I T g H hb hl
  gi_wp2
  refine⟨by simp,.inl ⟨_,_,rfl,run_takeDeferred kd.out,?_⟩⟩;exact⟨_,results_tmp rfl _ _ _,rfl,HT.out.trans ⟨rfl,rfl,rfl,by simp,fun k hk=>World.putObj_heap_other (by omega)⟩⟩
end
section
attribute [local go_sem ↓] Go.wp_at_zero Go.wp_at_succ
def ztB(z:Ending):Prop:=∃b:Bool,z=.returned (.bool b)
structure Cd where
 n:Int
 w:Int
 m:Int
 r:Bool
abbrev zq6(c:Cd):Array Value:=#[.int .i64 c.n,.int .u64 c.w,.int .u64 c.m,.bool c.r]
theorem zjR(a:Int)(w:World):Calls prog 238 #[.int .i64 a] w fun z w'=>z=.returned (.bool false)/\w'=w:=by go_enter func238,ntmps238;go_wp2;go_ret;exact⟨by simp,rfl⟩
theorem zjS(a:Int)(w:World):Calls prog 208 #[.int .u64 a] w fun z w'=>z=.returned (.bool false)/\w'=w:=by go_enter func208,ntmps208;go_wp2;go_ret;exact⟨by simp,rfl⟩
theorem zjT(a b:Int)(w:World):Calls prog 210 #[.int .i64 a,.int .i64 b] w fun z w'=>(∃n:Int,(n= -1∨n=0∨n=1)/\z=.returned (.int .i64 n))/\w'=w:=by
 have D:=zc (zjR a w);have A:=zc (zjR b w);go_enter func210,ntmps210;go_wp2_with fail;refine D.out.mono ?_;rintro z B ⟨rfl,hw⟩;obtain rfl:=hw.symm;go_wp2_with fail;refine A.out.mono ?_;rintro z B ⟨rfl,hw⟩;obtain rfl:=hw.symm;by_cases h1:a<b
 ·go_wp2;go_ret;exact⟨⟨-1,.inl rfl,rfl⟩,rfl⟩
 ·by_cases h2:b<a
  ·go_wp2;go_ret;exact⟨⟨1,.inr (.inr rfl),rfl⟩,rfl⟩
  ·go_wp2;go_ret;exact⟨⟨0,.inr (.inl rfl),rfl⟩,rfl⟩
theorem zog(a b:Int)(w:World):Calls prog 159 #[.int .u64 a,.int .u64 b] w fun z w'=>(∃n:Int,(n= -1∨n=0∨n=1)/\z=.returned (.int .i64 n))/\w'=w:=by
 have D:=zc (zjS a w);have A:=zc (zjS b w);go_enter func159,ntmps159;go_wp2_with fail;refine D.out.mono ?_;rintro z B ⟨rfl,hw⟩;obtain rfl:=hw.symm;go_wp2_with fail;refine A.out.mono ?_;rintro z B ⟨rfl,hw⟩;obtain rfl:=hw.symm;by_cases h1:a<b
 ·go_wp2;go_ret;exact⟨⟨-1,.inl rfl,rfl⟩,rfl⟩
 ·by_cases h2:b<a
  ·go_wp2;go_ret;exact⟨⟨1,.inr (.inr rfl),rfl⟩,rfl⟩
  ·go_wp2;go_ret;exact⟨⟨0,.inr (.inl rfl),rfl⟩,rfl⟩
theorem znq(a b:Int)(r:Nat)(c:Nat)(w:World)(D:w.cell? ⟨r,0,none⟩=some (.int .i64 a))(G:w.cell? ⟨r,1,none⟩=some (.int .i64 b)):Calls prog 209 #[.slice (some ⟨r,0,none⟩) 2 c] w fun z w'=>(∃n:Int,z=.returned (.int .i64 n))/\w'=w:=by
 have h3:=World.block_lt_of_cell? _ _ D;go_enter func209,ntmps209;go_wp2;go_loopw [5,8] (fun _ i wr=>(∃k:Nat,k<=2/\i=.int .i64 k)/\wr=w) (fun _ i _=>2-(intOf i).toNat)
 case atStart=>exact⟨⟨0,by omega,rfl⟩,rfl⟩
 case round=>
  obtain⟨⟨k,hk,rfl⟩,rfl⟩:=hrel;by_cases A:k=2
  ·subst A;go_wp2;go_ret;exact⟨⟨_,rfl⟩,rfl⟩
  ·obtain⟨v,hv⟩:∃v:Int,wr.cell? ⟨r,k,none⟩=some (.int .i64 v):=by
    by_cases E:k=0
    ·subst E;exact⟨a,D⟩
    ·have:k=1:=by omega
     subst this;exact⟨b,G⟩
   have h2:(k:Int) <2:=by omega
   clear D G A;by_cases B:v=0
   ·have hb:(v != 0)=false:=by simp[B]
    go_wp2;go_roundw
    case rel=>exact⟨⟨k+1,by omega,by go_num⟩,by simp⟩
    case measure=>simp[intOf];omega
   ·have hb:(v != 0)=true:=by simp[B]
    go_wp2;go_ret;exact⟨⟨_,rfl⟩,rfl⟩
theorem znr(a b:Int)(w:World):Calls prog 154 #[.int .u64 a,.int .u64 b] w fun z w'=>(∃n:Int,z=.returned (.int .u64 n))/\w'=w:=by
 by_cases h:a<=b
 ·go_enter func154,ntmps154;go_wp2
  all_goals
   go_ret;exact⟨⟨_,rfl⟩,rfl⟩
 ·go_enter func154,ntmps154;go_wp2
  all_goals
   go_ret;exact⟨⟨_,rfl⟩,rfl⟩
theorem zns(c:Cd)(A here:Int)(w:World)(hm:0<=c.m/\c.m<=18446744073709551615)(B:0<=here/\here<64):
 Calls prog 156 #[.agg (zq6 c),.int .u64 A,.int .i64 here] w fun z w'=>ztB z/\Below w.heap.size w w':=by
 have h0:IntKind.u64.wrap here=here:=by simp only[IntKind.wrap,IntKind.signed,IntKind.bits];simp;omega
 obtain⟨h,rfl⟩:=Int.eq_ofNat_of_zero_le B.1;go_enter func156,ntmps156;go_wp2
 all_goals
  go_ret;exact⟨⟨_,rfl⟩,zk w _⟩
theorem zjU(c:Cd)(A here:Int)(G H:Nat)(w:World)(hm:0<=c.m/\c.m<=18446744073709551615)(I:0<=here/\here<64)(M:w.cell? ⟨G,0,none⟩=some (.int .u64 A))(J:w.cell? ⟨H,0,none⟩=some (.int .i64 here)):
 Calls prog 155 #[.agg (zq6 c),.pointer (some ⟨G,0,none⟩),.pointer (some ⟨H,0,none⟩)] w fun z w'=>ztB z/\Below w.heap.size w w':=by
 have h0:=World.block_lt_of_cell? _ _ M;have h1:=World.block_lt_of_cell? _ _ J;have D:=zc (fun W=>zns c A here W hm I);go_enter func155,ntmps155;go_wp2_with fail;refine(D.out _).mono ?_;rintro z w2 ⟨⟨b,rfl⟩,B⟩;have E:=zc (zj (zk w _) B (by simp));clear B;go_wp2;go_ret;exact⟨⟨_,rfl⟩,E.out⟩
theorem zjV(a b:Cd)(w:World):
 Calls prog 158 #[.agg (zq6 a),.agg (zq6 b)] w fun z w'=>(∃n,z=.returned (.int .i64 n))/\Below w.heap.size w w':=by
 have B:=zc (fun W=>zog b.w a.w W);go_enter func158,ntmps158;go_wp2_with fail;refine(B.out _).mono ?_;rintro z w2 ⟨⟨n,-,rfl⟩,rfl⟩;have A:=zc (((Below.refl _ w).alloc (zg _) (.cells (zq6 a) 191)).alloc (by simp) (.cells (zq6 b) 191));go_wp2;go_ret;exact⟨⟨_,rfl⟩,A.out⟩
def IsI(z:Ending):Prop:=∃n:Int,z=.returned (.int .i64 n)
theorem zoh(c:Cd)(I here:Int)(K G H:Nat)(w:World)(hm:0<=c.m/\c.m<=18446744073709551615)(g:0<=here/\here<64)
 (a:w.cell? ⟨K,0,none⟩=some (.func (.func 155) #[] #[.pointer (some ⟨G,0,none⟩),.pointer (some ⟨H,0,none⟩)])) (T:w.cell? ⟨G,0,none⟩=some (.int .u64 I)) (U:w.cell? ⟨H,0,none⟩=some (.int .i64 here)):
 Calls prog 157 #[.agg (zq6 c),.pointer (some ⟨K,0,none⟩),.pointer (some ⟨G,0,none⟩)] w fun z w'=>ztB z/\Below w.heap.size w w':=by
 have D:=World.block_lt_of_cell? _ _ T;have O:=World.block_lt_of_cell? _ _ U;have Y:=World.block_lt_of_cell? _ _ a;obtain⟨w1,A⟩:=zh (w.alloc (.cells (zq6 c) 191))
 have B:Below w.heap.size w w1:=by rw[A];exact zk w _
 have M:w1.heap[w.heap.size]?=some (.cells (zq6 c) 191 (0,0)):=by rw[A];exact heap_alloc_new w _
 have R:=zc M;have f:=zc (zjU c I here G H w1 hm g ((B.cell (p:=⟨G,0,none⟩) D).trans T) ((B.cell (p:=⟨H,0,none⟩) O).trans U));have N:=zc B;have X:=zc T;clear M B;go_enter func157,ntmps157;go_wp2_with fail;rw[show w.alloc (.cells (zq6 c) 191)=w1 from A.symm];clear A;refine f.out.mono ?_;rintro z d ⟨⟨b,rfl⟩,J⟩;have E:=(J.block w.heap.size (zd R.out).1).trans R.out;have c1:d.cell? ⟨w.heap.size,1,none⟩=some (.int .u64 c.w):=by simp[World.cell?,E]
 have cl:=(zd E).1;have hb:=zj N.out J N.out.size;have V:d.cell? ⟨G,0,none⟩=some (.int .u64 I):=(hb.cell (p:=⟨G,0,none⟩) D).trans X.out;have h0:=World.block_lt_of_cell? _ _ V;have Z:=zc hb;clear J E hb T D a Y U O;cases b with
 | true=>
  go_wp2;go_ret;exact⟨⟨_,rfl⟩,Z.out⟩
 | false=>
  go_wp2;go_ret;exact⟨⟨_,rfl⟩,Z.out⟩
theorem zoi(a b:Cd)(K:Nat)(w:World)(E:w.cell? ⟨K,0,none⟩=some (.func (.func 158) #[] #[])):
 Calls prog 161 #[.agg (zq6 a),.agg (zq6 b),.pointer (some ⟨K,0,none⟩)] w fun z w'=>IsI z/\Below w.heap.size w w':=by
 have h0:=World.block_lt_of_cell? _ _ E;have B:=zc (fun W=>zjV a b W);go_enter func161,ntmps161;go_wp2_with fail;refine(B.out _).mono ?_;rintro z w2 ⟨⟨n,rfl⟩,A⟩;have D:=zc (zj (((Below.refl _ w).alloc (zg _) (.cells (zq6 a) 191)).alloc (by simp) (.cells (zq6 b) 191)) A (by simp;omega));clear A;go_wp2;go_ret;exact⟨⟨_,rfl⟩,D.out⟩
def zfS(w:World)(a:Option Addr)(l:List Cd):Prop:=∀k c,l[k]?=some c->∃r,a=some ⟨r,0,none⟩/\r<w.heap.size/\w.cell? ⟨r,k*4,none⟩=some (.int .i64 c.n)/\w.cell? ⟨r,k*4+1,none⟩=some (.int .u64 c.w)/\w.cell? ⟨r,k*4+2,none⟩=some (.int .u64 c.m)/\w.cell? ⟨r,k*4+3,none⟩=some (.bool c.r)
theorem zfS.behind{w w':World}{a:Option Addr}{l:List Cd}(h:zfS w a l)(hb:Below w.heap.size w w'):zfS w' a l:=fun k c I=>by obtain⟨r,E,A,H,D,G,B⟩:=h k c I;exact⟨r,E,zf A hb.size,(hb.cell (p:=⟨r,_,none⟩) A).trans H,(hb.cell (p:=⟨r,_,none⟩) A).trans D,(hb.cell (p:=⟨r,_,none⟩) A).trans G,(hb.cell (p:=⟨r,_,none⟩) A).trans B⟩
theorem zo1(A1 A2:Nat)(l:List Cd)(n:Nat)(a:Option Addr)(cap:Nat)(w:World)(hn:n=l.length)(h5:n<=1000)(hR:zfS w a l)
 (hf:∀W c,Below w.heap.size w W->c∈l->Calls prog 157 #[.agg (zq6 c),.pointer (some ⟨A1,0,none⟩),.pointer (some ⟨A2,0,none⟩)] W fun z P=>ztB z/\Below W.heap.size W P)
 (hg:∀W c d,Below w.heap.size w W->c∈l->d∈l->Calls prog 158 #[.agg (zq6 c),.agg (zq6 d)] W fun z P=>IsI z/\Below W.heap.size W P):
 Calls prog 160 #[.slice a n cap,.func (.func 157) #[] #[.pointer (some ⟨A1,0,none⟩),.pointer (some ⟨A2,0,none⟩)],.func (.func 158) #[] #[]] w fun z w'=>(∃(k:Nat) (b:Bool),(b=true->k<n)/\z=.returned (.tuple #[.int .i64 k,.bool b]))/\Below w.heap.size w w':=by
 have HR:=zc hR;have HF:=zc hf;have HG:=zc hg;have HN:=zc hn;clear hR hf hg hn;go_enter func160,ntmps160;go_wp2_with fail;go_loopw [8,9,10,11,14] (fun v8 v9 _ _ i wr=>(∃(k at_:Nat) (b:Bool),k<=n/\i=.int .i64 k/\v8=.int .i64 at_/\v9=.bool b/\(b=true->at_<n))/\Below w.heap.size w wr) (fun _ _ _ _ i _=>n-(intOf i).toNat)
 case atStart=>exact⟨⟨0,0,false,by omega,rfl,rfl,rfl,by simp⟩,Below.refl _ _⟩
 case round=>
  obtain⟨⟨k,t,b,hk,rfl,rfl,rfl,Y⟩,hb⟩:=hrel;have g:=zc hb;have N:=zc Y;clear hb Y;by_cases q:k<n
  ·have h1:(k:Int) <(n:Int):=by omega
   have Q:k<l.length:=by rw[<-HN.out];exact q
   obtain⟨c,o⟩:∃c,l[k]?=some c:=⟨_,List.getElem?_eq_getElem Q⟩
   obtain⟨r,I,E,c0,c1,c2,c3⟩:=HR.out.behind g.out k c o;have h4:=zc I;subst I;have HC:=zc o;have HM:=zc (List.mem_of_getElem? o);obtain⟨w1,M⟩:=zh (wr.alloc (.cells (zq6 c) 191))
   have h:Below w.heap.size w w1:=by rw[M];exact g.out.alloc g.out.size _
   have T:w1.heap[wr.heap.size]?=some (.cells (zq6 c) 191 (0,0)):=by rw[M];exact heap_alloc_new wr _
   obtain⟨X,j⟩:=zh wr.heap.size
   rw[<-j]at T;have Z:=zc T;have R:=zc h;have h2:=zc (show w.heap.size<=X by rw[j];exact g.out.size);clear o T h;go_wp2_with fail;rw[<-j];rw[show wr.alloc (.cells (zq6 c) 191)=w1 from M.symm];clear M j c0 c1 c2 c3 E;refine(HF.out w1 c R.out HM.out).mono ?_;rintro z U ⟨⟨ok,rfl⟩,O⟩;have H:=zc (zj R.out O R.out.size);have D:=(O.block X (zd Z.out).1).trans Z.out;have h3:=zc D;clear O;cases ok with
   | false=>
    clear D;go_wp2;go_roundw
    case rel=>exact⟨⟨k+1,t,b,by omega,by go_num,rfl,rfl,N.out⟩,H.out⟩
    case measure=>simp[intOf];omega
   | true=>
    have v:U.cell? ⟨X,0,none⟩=some (.int .i64 c.n):=by simp[World.cell?,D]
    have L:U.cell? ⟨X,1,none⟩=some (.int .u64 c.w):=by simp[World.cell?,D]
    have u:U.cell? ⟨X,2,none⟩=some (.int .u64 c.m):=by simp[World.cell?,D]
    have K:U.cell? ⟨X,3,none⟩=some (.bool c.r):=by simp[World.cell?,D]
    have G:=(zd D).1;clear D;go_upto_region 6 with(fail)
    go_cut [44]from 23 to 43 (fun F wx=>(∃b,F=.bool b)/\Below w.heap.size w wx)
    case first=>
     cases b with
     | false=>
      go_wp2_with fail;go_quiet (fail)
      all_goals
       go_wp2_with fail;go_meet
       case rel=>exact⟨⟨_,rfl⟩,zp H.out nq⟩
     | true=>
      have V:=N.out rfl;have f:t<l.length:=by rw[<-HN.out];exact V
      have h0:(t:Int) <(n:Int):=by omega
      obtain⟨d,hd⟩:∃d,l[t]?=some d:=⟨_,List.getElem?_eq_getElem f⟩
      obtain⟨r',I,E,d0,d1,d2,d3⟩:=HR.out.behind H.out t d hd;obtain rfl:r'=r:=by cases I;rfl
      have S:=zc (List.mem_of_getElem? hd);clear hd V f I;go_wp2_with fail;go_region_held3 (fun w'=>w'.cell? ⟨X,0,none⟩=some (.int .i64 c.n)/\w'.cell? ⟨X,1,none⟩=some (.int .u64 c.w)/\w'.cell? ⟨X,2,none⟩=some (.int .u64 c.m)/\w'.cell? ⟨X,3,none⟩=some (.bool c.r)/\w'.cell? ⟨r',t*4,none⟩=some (.int .i64 d.n)/\w'.cell? ⟨r',t*4+1,none⟩=some (.int .u64 d.w)/\w'.cell? ⟨r',t*4+2,none⟩=some (.int .u64 d.m)/\w'.cell? ⟨r',t*4+3,none⟩=some (.bool d.r)) (go_keep)
       (first
        | (
         go_at_call 158;refine(HG.out _ c d (zv H.out) HM.out S.out).mono ?_;rintro z x ⟨⟨n3,rfl⟩,B⟩;have A:Hid (Below U.heap.size U x):=zc ⟨B.os,B.tape,B.output,B.size,B.block⟩;have J:Hid (Below w.heap.size w x):=zc (zj H.out A.out H.out.size);replace v:=(A.out.cell (p:=⟨X,0,none⟩) G).trans v;replace L:=(A.out.cell (p:=⟨X,1,none⟩) G).trans L;replace u:=(A.out.cell (p:=⟨X,2,none⟩) G).trans u;replace K:=(A.out.cell (p:=⟨X,3,none⟩) G).trans K;replace d0:=(A.out.cell (p:=⟨r',t*4,none⟩) E).trans d0;replace d1:=(A.out.cell (p:=⟨r',t*4+1,none⟩) E).trans d1
         replace d2:=(A.out.cell (p:=⟨r',t*4+2,none⟩) E).trans d2;replace d3:=(A.out.cell (p:=⟨r',t*4+3,none⟩) E).trans d3;replace G:=zf G A.out.size;replace E:=zf E A.out.size;clear B)
        | (
         go_at_call 210;refine(zjT _ _ _).mono ?_;rintro z w4 ⟨⟨n4,-,rfl⟩,s⟩;obtain rfl:=s.symm)
        | (
         go_at_call 209;refine(znq n3 n4 _ _ _ (by simp[World.cell?_alloc_new]) (by simp[World.cell?_alloc_new])).mono ?_;rintro z w5 ⟨⟨n5,rfl⟩,C⟩;obtain rfl:=C.symm))
      all_goals
       go_wp2_with fail;go_meet
       case rel=>exact⟨⟨_,rfl⟩,zj J.out (zk x _) J.out.size⟩
    case rest=>
     obtain⟨⟨b2,rfl⟩,B⟩:=hcut;have J:=zc B;clear B v L u K G;cases b2 with
     | true=>
      go_wp2;go_roundw
      case rel=>exact⟨⟨k+1,k,true,by omega,by go_num,rfl,rfl,fun _=>by omega⟩,J.out⟩
      case measure=>simp[intOf];omega
     | false=>
      go_wp2;go_roundw
      case rel=>exact⟨⟨k+1,t,b,by omega,by go_num,rfl,rfl,N.out⟩,J.out⟩
      case measure=>simp[intOf];omega
  ·have y:k=n:=by omega
   subst y;go_wp2;go_ret2;exact⟨⟨t,b,N.out,rfl⟩,g.out⟩
theorem zkG(a b:Int)(w:World)(D:0<=a)(h3:a<=1000000000000000000)(B:0<=b)(h0:b<=1000000000000000000):
 (callFunc 211 #[.int .u64 a,.int .u64 b,.int .u64 0]).run prog w=.ok (.value (.tuple #[.int .u64 (a+b),.int .u64 0])) w:=by
 rw[run_callFunc_extern (e:=add64Entry) func211 (by kernel_rfl) (by kernel_rfl) (by kernel_rfl) (by kernel_rfl),run_add64 a b 0 D B (by omega) (by omega)];have A:(a+b+0) %18446744073709551616=a+b:=by omega
 have E:(a+b+0) /18446744073709551616=0:=by omega
 rw[A,E];rfl
def zaP(l:List Int):Prop:=∀x∈l,0<=x/\x<=4294967296
theorem zgX(l:List Int)(k:Nat)(x:Int)(h:l[k]?=some x):(l.take (k+1)).sum=(l.take k).sum+x:=by obtain⟨A,he⟩:=ze h;rw[List.take_succ_eq_append_getElem A,he];simp
theorem ziu{l:List Int}(h:zaP l):∀k,k<=l.length->0<=(l.take k).sum/\(l.take k).sum<=4294967296*k
 | 0,_=>by simp
 | k+1,hk=>by
  obtain⟨x,A⟩:∃x,l[k]?=some x:=⟨_,List.getElem?_eq_getElem (by omega)⟩
  rw[zgX l k x A];have h1:=ziu h k (by omega);have h2:=h x (List.mem_of_getElem? A);omega
theorem zkH(l:List Int)(a:Option Addr)(n c:Nat)(w:World)(E:n=l.length)(hn:n<=64)(G:zaP l)(U:ym w a (uv l)):
 Calls prog 162 #[.slice a n c] w fun z w'=>z=.returned (.int .u64 l.sum)/\w'=w:=by
 have V:=zc U;have D:=zc G;have A:=zc E;clear U G E;go_enter func162,ntmps162;go_wp2_with fail;go_loop [3,10] (fun s i=>∃k:Nat,k<=n/\i=.int .i64 k/\s=.int .u64 (l.take k).sum) (fun _ i=>n-(intOf i).toNat)
 case atStart=>exact⟨0,by omega,rfl,by simp⟩
 case round=>
  obtain⟨k,hk,rfl,rfl⟩:=hrel;by_cases J:k<n
  ·obtain⟨x,I⟩:∃x,l[k]?=some x:=⟨_,List.getElem?_eq_getElem (by rw[<-A.out];exact J)⟩
   obtain⟨r,M,h0,h4⟩:=V.out k _ (qJ I);subst M;have R:=D.out x (List.mem_of_getElem? I);have B:=ziu D.out k (by rw[<-A.out];omega);have H:=zc (zgX l k x I);obtain⟨s,hs⟩:=zh ((l.take k).sum)
   rw[<-hs]at B H ⊢;obtain⟨N,h3⟩:=B;obtain⟨T,h2⟩:=R;have h1:=zkG s x w N (by omega) T (by omega);clear I hs;go_wp2;go_round
   case rel=>exact⟨k+1,by omega,by go_num,by rw[H.out]⟩
   case measure=>simp[intOf];omega
  ·have O:k=n:=by omega
   subst O;go_wp2;go_ret;refine⟨?_,rfl⟩;rw[List.take_of_length_le (by rw[<-A.out];exact zg _)];rfl
theorem zoM(x sh all:Int)(B E:Nat)(w:World)(D:0<=sh/\sh<=262144)(A:0<=x/\x<=4294967296)(G:0<=all/\all<=18446744073709551615)(I:w.cell? ⟨B,0,none⟩=some (.int .u64 sh))(c2:w.cell? ⟨E,0,none⟩=some (.int .u64 all)):
 Calls prog 164 #[.int .u64 x,.pointer (some ⟨B,0,none⟩),.pointer (some ⟨E,0,none⟩)] w fun z w'=>z=.returned (.int .u64 (xa sh x all))/\Below w.heap.size w w':=by
 have J:=zc (zfz sh x all w D A G);have k1:=World.block_lt_of_cell? _ _ I;have k2:=World.block_lt_of_cell? _ _ c2;clear D A G;go_enter func164,ntmps164;go_wp2_with fail;refine J.out.mono ?_;rintro z w2 ⟨rfl,hb⟩;have H:=zc hb;clear hb;go_wp2;go_ret;exact⟨rfl,H.out⟩
theorem zdI:(prog.info? 33).map (fun i=>(i.zero,i.size,i.bytes))=some (some (.int .u64 0),1,8):=by kernel_rfl
theorem znV(l:List Int)(f:Int->Int)(k:Nat)(x:Int)(h:l[k]?=some x):uv ((l.take (k+1)).map f)=uv ((l.take k).map f)++ [.int .u64 (f x)]:=by obtain⟨A,he⟩:=ze h;rw[List.take_succ_eq_append_getElem A,he];simp[uv]
theorem ziv(l:List Int)(sh all:Int)(a:Option Addr)(n c b C:Nat)(w:World)(H:n=l.length)(hn:n<=64)(T:zaP l)(hR:ym w a (uv l))(h1:0<=sh/\sh<=262144)(W:0<=all/\all<=18446744073709551615)
 (c1:w.cell? ⟨b,0,none⟩=some (.int .u64 sh)) (c2:w.cell? ⟨C,0,none⟩=some (.int .u64 all)):
 Calls prog 163 #[.slice a n c,.func (.func 164) #[] #[.pointer (some ⟨b,0,none⟩),.pointer (some ⟨C,0,none⟩)]] w fun z w'=>∃v,z=.returned v/\w'.ownsRow w.heap.size 33 1 v n (uv (l.map fun x=>xa sh x all))/\Below w.heap.size w w':=by
 obtain⟨i0,hi,d,K,q⟩:=info_parts zdI;have HR:=zc hR;have F:=zc T;have J:=zc H;have H1:=zc h1;have H3:=zc W;have C1:=zc c1;have C2:=zc c2;clear hR T H h1 W c1 c2;go_enter func163,ntmps163;go_wp2_with fail;go_loopw [5,10] (fun v i wr=>∃(k:Nat) (s:Option Addr) (f:Nat),k<=n/\i=.int .i64 k/\v=.slice s k f/\wr.ownsRow w.heap.size 33 1 (.slice s k f) k (uv ((l.take k).map fun x=>xa sh x all))/\Below w.heap.size w wr) (fun _ i _=>n-(intOf i).toNat)
 case atStart=>exact⟨0,none,0,by omega,rfl,rfl,by simpa[uv]using World.ownsRow_nil _ _ _ _,Below.refl _ _⟩
 case round=>
  obtain⟨k,s,f,hk,rfl,rfl,B,hb⟩:=hrel;have m:=zc B;have G:=zc hb;clear B hb;by_cases X:k<n
  ·obtain⟨x,V⟩:∃x,l[k]?=some x:=⟨_,List.getElem?_eq_getElem (by rw[<-J.out];exact X)⟩
   obtain⟨r,Y,D,p⟩:=(HR.out.behind G.out) k _ (qJ V);subst Y;have P:=zc (zoM x sh all b C wr H1.out (F.out x (List.mem_of_getElem? V)) H3.out ((G.out.cell (World.block_lt_of_cell? _ _ C1.out)).trans C1.out) ((G.out.cell (World.block_lt_of_cell? _ _ C2.out)).trans C2.out));have HX:=zc (znV l (fun x=>xa sh x all) k x V);obtain⟨y,o⟩:=zh (xa sh x all)
   have O:Hid (uv ((l.take (k+1)).map fun x=>xa sh x all)=uv ((l.take k).map fun x=>xa sh x all)++ [.int .u64 y]):=zc (by rw[HX.out,o]);rw[<-o]at P;obtain⟨S,M⟩:=zh (uv ((l.take k).map fun x=>xa sh x all))
   rw[<-M]at m O;clear V o HX M;go_wp2_with fail;refine P.out.mono ?_;rintro z w4 ⟨rfl,E⟩;have I:=zc (yY m.out E);have N:=zc (zj G.out E G.out.size);clear E D p P;have Q:=N.out.size;go_wp2_with (at_builtin;go_loud (refine wpList_append_own _ rfl _ _ 27 rfl w.heap.size 33 i0 (.int .u64 0) 1 8 underlying27 hi d K q rfl (by decide) _ k S rfl (I.out.alloc _) ⟨w4.heap.size,0,none⟩ 1 1 [.int .u64 y] rfl rfl ?c1 ?c2 ?c3 ?c4 ?c5 ?_))
   case c1=>exact World.news_of_block (cs:=#[.int .u64 y]) (t:=33) (fr:=(0,0)) (heap_alloc_new w4 _)
   case c2=>intro u hu;simp at hu;subst hu;rfl
   case c3=>unfold maxLen;omega
   case c4=>omega
   case c5=>simp;omega
   intro v' w5 A U _;have R:Below w.heap.size w w5:=(N.out.alloc Q _).grown U (by simp;omega) fun j hj=>(I.out.lt j hj).1;have L:=zc R;have Z:=zc A;rcases A.2 with⟨_,h0⟩ | ⟨g,cap,cur,hv,_⟩
   ·omega
   subst hv;clear R A U;go_wp2_with fail;go_roundw
   case rel=>exact⟨k+1,_,_,by omega,by go_num,rfl,by rw[O.out];exact Z.out,L.out⟩
   case measure=>simp[intOf];omega
  ·have h:k=n:=by omega
   subst h;go_wp2;go_ret;refine⟨_,rfl,?_,G.out⟩;have:=m.out;rw[List.take_of_length_le (by rw[<-J.out];exact zg _)]at this;exact this
theorem zgY(l:List Int)(sh:Int)(a:Option Addr)(n c:Nat)(w:World)(b:n=l.length)(q:n<=64)(I:zaP l)(r:ym w a (uv l))(m:0<=sh/\sh<=262144):
 Calls prog 104 #[.int .u64 sh,.slice a n c] w fun z w'=>∃v,z=.returned v/\w'.ownsRow w.heap.size 33 1 v n (uv (l.map fun x=>xa sh x l.sum))/\Below w.heap.size w w':=by
 have G:=ziu I l.length (zg _);rw[List.take_length]at G;have d:Hid (0<=l.sum/\l.sum<=18446744073709551615):=zc (by omega);have o:=zc r;have Z:=zc I;have V:=zc b;have H1:=zc m;clear r I b m G;go_enter func104,ntmps104;go_wp2_with fail;obtain⟨w1,E⟩:=zh (w.alloc (.cells #[.int .u64 sh] 33))
 have f:Below w.heap.size w w1:=by rw[E];exact zk w _
 have Y:w1.heap[w.heap.size]?=some (.cells #[.int .u64 sh] 33 (0,0)):=by rw[E];exact heap_alloc_new w _
 rw[<-E];have M:=zc f;have O:=zc Y;obtain⟨U,N⟩:=zh w.heap.size
 rw[<-N]at O ⊢;have h0:=zc N;clear E f Y N;refine(zkH l a n c w1 V.out q Z.out (o.out.behind M.out)).mono ?_;rintro z w2 ⟨rfl,hw⟩;obtain rfl:=hw.symm;obtain⟨sm,D⟩:=zh l.sum
 rw[<-D]at d;rw[<-D];have g:=zc D;clear D;go_wp2_with fail;obtain⟨T,A⟩:=zh (w1.alloc (.cells #[.int .u64 sm] 33))
 have R:Below w1.heap.size w1 T:=by rw[A];exact zk w1 _
 have J:T.heap[w1.heap.size]?=some (.cells #[.int .u64 sm] 33 (0,0)):=by rw[A];exact heap_alloc_new w1 _
 rw[<-A];obtain⟨h,X⟩:=zh w1.heap.size
 rw[<-X]at J ⊢;have H:T.heap[U]?=some (.cells #[.int .u64 sh] 33 (0,0)):=(R.block U (zd O.out).1).trans O.out;have B:=zc (zj M.out R M.out.size);have s:=zc (ziv l sh sm a n c U h T V.out q Z.out (o.out.behind B.out) H1.out d.out (zx H) (zx J));clear A R J X H;refine s.out.mono ?_;rintro z w4 ⟨v,rfl,p,hb⟩;have j:=zc p;have k:=zc (zj B.out hb B.out.size);clear p hb;go_wp2;go_ret;refine⟨_,rfl,?_,k.out⟩;rw[<-g.out];exact zaf j.out B.out.size
def jv(l:List Int):List Value:=l.map (Value.int .i64)
theorem zmE{l:List Int}{k:Nat}{x:Int}(h:l[k]?=some x):(jv l)[k]?=some (.int .i64 x):=by simp[jv,h]
structure zbe(l ys:List Int):Prop where
 len:ys.length=l.length
 inj:∀(i j:Nat) (x:Int),ys[i]?=some x->ys[j]?=some x->i=j
 sub:∀x∈ys,x∈l
theorem zmF{A:List Int}{i j:Nat}{a b:Int}(H:A[i]?=some a)(G:A[j]?=some b)(h0:i≠j)(k:Nat):((A.set i b).set j a)[k]?=if k=j then some a else if k=i then some b else A[k]?:=by
 have D:=(ze H).1;have B:=(ze G).1;by_cases e:k=j
 ·subst e;rw[if_pos rfl,List.getElem?_set_self (by simpa using B)]
 ·rw[if_neg e,List.getElem?_set_ne (Ne.symm e)];by_cases E:k=i
  ·subst E;rw[if_pos rfl,List.getElem?_set_self D]
  ·rw[if_neg E,List.getElem?_set_ne (Ne.symm E)]
theorem zbe.swap{l B:List Int}(h:zbe l B){i j:Nat}{a b:Int}(G:B[i]?=some a)(H:B[j]?=some b)(D:i≠j):zbe l ((B.set i b).set j a):=by
 have J:=zmF G H D;have key:∀k x,((B.set i b).set j a)[k]?=some x->B[if k=j then i else if k=i then j else k]?=some x:=fun k x A=>by
  rw[J k]at A;by_cases e:k=j
  ·rw[if_pos e]at A ⊢;rw[G];exact A
  ·rw[if_neg e]at A ⊢;by_cases E:k=i
   ·rw[if_pos E]at A ⊢;rw[H];exact A
   ·rw[if_neg E]at A ⊢;exact A
 refine⟨by simp[h.len],?_,?_⟩
 ·intro k N x M I;have e:=h.inj _ _ x (key k x M) (key N x I)
  repeat' (split at e)
  all_goals omega
 ·intro x O;obtain⟨k,A⟩:=List.getElem?_of_mem O;exact h.sub x (List.mem_of_getElem? (key k x A))
structure IR(w:World)(g:Nat)(zs:List Int):Prop where
 ex:∃cur:Array Value,w.heap[g]?=some (.cells cur 3 (0,0))/\∀(k:Nat) (x:Int),zs[k]?=some x->cur[k]?=some (.int .i64 x)
theorem IR.lt{w:World}{g:Nat}{zs:List Int}(h:IR w g zs):g<w.heap.size:=by obtain⟨cur,A,_⟩:=h.ex;exact(zd A).1
theorem IR.cell{w:World}{g:Nat}{zs:List Int}(h:IR w g zs){k:Nat}{x:Int}(D:zs[k]?=some x):w.cell? ⟨g,k,none⟩=some (.int .i64 x):=by obtain⟨cur,A,B⟩:=h.ex;simp[World.cell?,A,B k x D]
theorem IR.zpe{w:World}{g:Nat}{zs:List Int}(h:IR w g zs):∀j,w.frozen? ⟨g,j,none⟩=false:=by obtain⟨cur,A,hc⟩:=h.ex;intro j;simp[World.frozen?,A]
theorem IR.set{w:World}{g:Nat}{zs:List Int}(h:IR w g zs){k:Nat}{y:Int}(D:k<zs.length):IR (w.setCell ⟨g,k,none⟩ (.int .i64 y)) g (zs.set k y):=by
 obtain⟨cur,G,E⟩:=h.ex;refine⟨_,zi G,fun j x A=>?_⟩;have B:k<cur.size:=by have:=E k _ (List.getElem?_eq_getElem D);exact(zd this).1
 by_cases e:j=k
 ·subst e;rw[List.getElem?_set_self D]at A;cases A;simp[B]
 ·rw[List.getElem?_set_ne (Ne.symm e)]at A;rw[Array.getElem?_setIfInBounds_ne (Ne.symm e)];exact E j x A
theorem IR.of{w w':World}{g:Nat}{zs:List Int}(h:IR w g zs)(hb:w'.heap[g]?=w.heap[g]?):IR w' g zs:=by obtain⟨cur,A,B⟩:=h.ex;exact⟨cur,hb.trans A,B⟩
theorem zgZ(x y:Int)(w:World):Calls prog 278 #[.int .i64 x,.int .i64 y] w fun z w'=>z=.returned (.bool (decide (x<y)))/\w'=w:=by go_enter func278,ntmps278;go_wp2;go_ret;exact⟨rfl,rfl⟩
theorem zek(l zs:List Int)(g n c:Nat)(w:World)(f:n=zs.length)(a:1<=n)(h0:n<=12)(d:IR w g zs)(Z:zbe l zs):
 Calls prog 272 #[.slice (some ⟨g,0,none⟩) n c,.int .i64 0,.int .i64 n] w fun z w'=>(∃v,z=.returned v)/\∃A,IR w' g A/\zbe l A/\zo8 (fun k=>k=g) w w':=by
 have t:=zc d;have HS:=zc Z;have T:Hid (n=l.length):=zc (by rw[f];exact Z.len);clear d Z f;go_enter func272,ntmps272;go_wp2_with fail;go_loopw [6] (fun i wr=>∃(k:Nat) (A:List Int),1<=k/\k<=n/\i=.int .i64 k/\IR wr g A/\zbe l A/\zo8 (fun k=>k=g) w wr) (fun i _=>n-(intOf i).toNat)
 case atStart=>exact⟨1,zs,by omega,a,rfl,t.out,HS.out,zo8.refl _ _⟩
 case round=>
  obtain⟨k,A,h2,hk,rfl,B,hs,H⟩:=hrel;have N:=zc B;have O:=zc hs;have I:=zc H;clear B hs H;obtain⟨w1,X⟩:=zh wr
  subst X;by_cases h1:k<n
  ·go_wp2_with fail;go_loopw [7] (fun j wr=>∃(m:Nat) (A:List Int),m<=k/\j=.int .i64 m/\IR wr g A/\zbe l A/\zo8 (fun k=>k=g) w wr) (fun j _=>(intOf j).toNat)
   case atStart=>exact⟨k,A,by omega,rfl,N.out,O.out,I.out⟩
   case round=>
    obtain⟨m,xs,hm,rfl,B,hs,H⟩:=hrel;have E:=zc B;have D:=zc hs;have G:=zc H;have h8:=B.lt;have h3:=B.zpe;by_cases M:m=0
    ·subst M;clear B hs H;go_wp2_with fail;go_quiet (fail);go_wp2;go_roundw
     case rel=>exact⟨k+1,xs,by omega,by omega,by go_num,E.out.of rfl,D.out,G.out.drewN nq⟩
     case measure=>simp[intOf];omega
    ·obtain⟨m,rfl⟩:∃r,m=r+1:=⟨m-1,by omega⟩
     have hlen:xs.length=n:=by rw[D.out.len,T.out]
     obtain⟨x,Y⟩:∃x,xs[m+1]?=some x:=⟨_,List.getElem?_eq_getElem (by omega)⟩
     obtain⟨y,V⟩:∃y,xs[m]?=some y:=⟨_,List.getElem?_eq_getElem (by omega)⟩
     have p:=B.cell Y;have c2:=B.cell V;have u:=zc Y;have q:=zc V;have J:=zc hlen;have h7:((m+1:Nat):Int) <(n:Int):=by omega
     have h4:((m:Nat):Int) <(n:Int):=by omega
     clear B hs H Y V hlen M;by_cases R:x<y
     ·have hd:decide (x<y)=true:=by simp[R]
      go_wp2_with fail;go_quiet ((go_at_call 278;exact Calls.quiet_of_same (zgZ _ _ _)));go_wp2_with fail;go_region
      all_goals
       have b:IR (wr.drewN (nq+1)) g xs:=E.out.of rfl;have h:=(b.set (k:=m+1) (y:=y) (by rw[J.out];omega)).set (k:=m) (y:=x) (by simp[J.out];omega);have t6:zo8 (fun k=>k=g) w (((wr.drewN (nq+1)).setCell ⟨g,m+1,none⟩ (.int .i64 y)).setCell ⟨g,m,none⟩ (.int .i64 x)):=((G.out.drewN (nq+1)).one).one;have o:=zc h;have s:=zc t6;clear b h t6 p c2;go_wp2;go_roundw
       case rel=>exact⟨m,_,by omega,by go_num,o.out,D.out.swap u.out q.out (by omega),s.out⟩
       case measure=>simp[intOf]
     ·have hd:decide (x<y)=false:=by simp;omega
      go_wp2_with fail;go_quiet ((go_at_call 278;exact Calls.quiet_of_same (zgZ _ _ _)));go_wp2_with fail;go_roundw
      case rel=>exact⟨k+1,xs,by omega,by omega,by go_num,E.out.of rfl,D.out,G.out.drewN nq⟩
      case measure=>simp[intOf];omega
  ·have U:k=n:=by omega
   subst U;go_wp2;go_end0;exact⟨⟨_,rfl⟩,A,N.out,O.out,I.out⟩
end
end Go.Proofs.YtmgekibncmnmiaaGreatDoor
