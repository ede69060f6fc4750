/- Parts of the proof of the law TopKeeps: contracts of the functions that it reaches, and plain laws of what they compute. Conditions: those in each statement. -/
import Derived.LoopIn
import Derived.LoopNIn
import Derived.OwnWalkIn
import Derived.Shelf.Abstract
import Derived.Shelf.RegionOpen
import Derived.TacticsInMore
import Derived.WalkKit
import Derived.Test.YtmgekibncmnmiaaGreatDoorM12
import Derived.Test.YtmgekibncmnmiaaGreatDoorM27
set_option linter.unusedVariables false
set_option maxRecDepth 100000
set_option maxHeartbeats 4000000
open Go.Proofs.Tryz
namespace Go.Proofs.YtmgekibncmnmiaaGreatDoor
open Go Go.RowKit Go.ChangeShapes Go.WideShapes
section
open Go.Shelf
attribute [local go_sem ↓] Go.wp_at_zero Go.wp_at_succ
attribute [local go_sem] Oper.semAt_some
theorem zbK(c:Nat)(h:c<32):wrap64 (c:Int)=c:=by unfold wrap64;omega
structure zoo(W:World)(p A C:Nat)(rv:Value)(credit gran:Int)(ps:Nat->Option Nat)(qs dp:Nat->Nat)(h:Hm):Prop where
 ok:h.Ok
 hx:zra W p credit gran ps
 gx:∀g x,h.gs g=some x->x.deep=dp g/\∃b,ps g=some b/\zpQ W b (qs g) x
 a:W.cell? ⟨A,0,none⟩=some (.pointer (some ⟨p,0,none⟩))
 c:W.cell? ⟨C,0,none⟩=some rv
theorem zat(m:Nat)(f b:Qu->Qu)(hf:yu f)(hb:yu b)(J:Option (Nat×Int)->Hm->World->Prop)(p A C l:Nat)(credit gran:Int)(ps:Nat->Option Nat)(qs dp:Nat->Nat)(fin:Hm×Nat×Int)
 (hJ:∀s h W,J s h W->zoo W p A C (.func (.func 112) #[] #[]) credit gran ps qs dp h)
 (o:∀s h W g x,J s h W->h.gs g=some x->Calls prog 112 #[.pointer (some ⟨qs g,0,none⟩)] W fun z u=>z=.returned (.int .i64 (f x.q).cur)/\J s (h.set g (x.zpb (f x.q))) u)
 (hy:∀s h W g x k,J s h W->h.gs g=some x->Hm.down f b (k+1) h g=fin->∀u,J s (h.set g (x.zpb (f x.q))) u->YieldAt Fence.wide (m+1) prog l #[.pointer (some ⟨qs g,0,none⟩),.int .i64 (f x.q).cur] u fun e hn=>e=.returned (.bool true)/\J (some (g,(f x.q).cur)) ((h.set g (x.zpb (f x.q))).set g ((x.zpb (f x.q)).zpb (b (f x.q)))) hn)
 (h0:Hm) (W0:World) (Z:J none h0 W0) (h4:h0.down f b 9 0=fin):
 CallsIn Fence.wide (m+2) prog 170 #[.func (.yield l) #[] #[],.pointer (some ⟨A,0,none⟩),.pointer (some ⟨C,0,none⟩)] W0 fun e u=>(∃v,e=.returned v)/\J (some fin.2) fin.1 u:=by
 refine callsIn_of_wp func170 rfl trivial ?_ rfl;simp only[ntmps170,List.size_toArray,List.length_cons,List.length_nil,Nat.reduceAdd,Nat.reduceSub,Array.replicate_succ,Array.replicate_zero,List.push_toArray,List.append_toArray,List.nil_append,List.cons_append]
 gi_wp2
 gi_loopw [4] (fun i wr=>∃(s:Option (Nat×Int)) (h:Hm) (k g:Nat) (x:Gr),i=.int .i64 g/\J s h wr/\h.gs g=some x/\9<=k+dp g/\h.down f b k g=fin) (fun i _=>9-dp (intOf i).toNat)
 case atStart=>
  obtain⟨r,hr,_,hd⟩:=(hJ _ _ _ Z).ok.root;have:=((hJ _ _ _ Z).gx 0 r hr).1;exact⟨none,h0,9,0,r,rfl,Z,hr,by omega,h4⟩
 case round=>
  obtain⟨s,h,k,g,x,rfl,t,T,hk,hd⟩:=hrel;have hw:=hJ _ _ _ t;have h5:=hw.ok.zq4 g x T;have hz:=(hw.ok.deep g x T).2;obtain⟨H3,B,hB,L⟩:=hw.gx g x T;obtain⟨k,rfl⟩:∃k',k=k'+1:=⟨k-1,by omega⟩
  have hc:=hw.hx.at h5;rw[hB]at hc;have hl:=hw.hx.lt;have hA:=hw.a;have hC:=hw.c;obtain⟨c0,c1,c2,c3,c4,c5,c6,c7,c8⟩:=L.c9;have d:=L.lt;clear c0 c1 c3 c4 c5 c6 c7 c8;have n:=zc (o s h wr g x t T);have U:=zc (hy s h wr g x k t T hd);have M:=hw.ok;have h7:=(M.q g x T).1;have hg:=hf.ok _ h7;have G:h.down f b (k+1) g=if(f x.q).cur<0∨(f x.q).cur%2=0 then((h.set g (x.zpb (f x.q))).set g ((x.zpb (f x.q)).zpb (b (f x.q))),g,(f x.q).cur)else Hm.down f b k ((h.set g (x.zpb (f x.q))).set g ((x.zpb (f x.q)).zpb (b (f x.q)))) ((f x.q).cur/2).toNat:=by
   conv=>lhs;unfold Hm.down
   rw[T]
  obtain⟨N,hN⟩:=zh ((f x.q).cur)
  obtain⟨h3,O⟩:=zh ((h.set g (x.zpb (f x.q))).set g ((x.zpb (f x.q)).zpb (b (f x.q))))
  rw[<-hN]at n U G;rw[<-O]at U G;rw[G]at hd;by_cases Q:N<0
  ·rw[if_pos (.inl Q)]at hd;have HD:=zc hd;clear G hd O hN hw t
   gi_wp2
   refine⟨trivial,(callsIn_wide.2 n.out).mono ?_⟩;rintro z W2 ⟨rfl,E⟩;obtain⟨fn,tmps,assign,body,I,Y⟩:=U.out W2 E;clear hA hC hc hl c2 d L n U E
   gi_wp2
   refine Y.mono ?_;rintro e W3 ⟨rfl,D⟩;have R:=zc D;clear I Y D
   gi_wp2
   refine bodyPost_ret (results_none rfl _ _ _) rfl ?_;rw[<-HD.out];exact⟨⟨_,rfl⟩,R.out⟩
  ·by_cases h8:N%2=0
   ·rw[if_pos (.inr h8)]at hd;have HD:=zc hd;have ht:Int.tmod N 2=0:=by rw[Int.tmod_eq_emod_of_nonneg (by omega)];exact h8
    clear G hd O hN hw t
    gi_wp2
    refine⟨trivial,(callsIn_wide.2 n.out).mono ?_⟩;rintro z W2 ⟨rfl,E⟩;obtain⟨fn,tmps,assign,body,I,Y⟩:=U.out W2 E;clear hA hC hc hl c2 d L n U E
    gi_wp2
    refine Y.mono ?_;rintro e W3 ⟨rfl,D⟩;have R:=zc D;clear I Y D
    gi_wp2
    refine bodyPost_ret (results_none rfl _ _ _) rfl ?_;rw[<-HD.out];exact⟨⟨_,rfl⟩,R.out⟩
   ·rw[if_neg (by omega)]at hd;have HD:=zc hd;obtain⟨c,j⟩:∃c:Nat,N=2*c+1:=⟨(N/2).toNat,by omega⟩
    have ht:Int.tmod N 2=1:=by rw[Int.tmod_eq_emod_of_nonneg (by omega)];omega
    have H4:Int.tdiv N 2=c:=by rw[Int.tdiv_eq_ediv_of_nonneg (by omega)];omega
    have X:∃e∈(f x.q).l,e.id=(f x.q).cur:=hg.cur.resolve_left (by omega);have hh:x.q.has (2*c+1):=by rw[<-j,hN];exact(hf.has _ _ h7).1 X
    obtain⟨y,H,S⟩:=M.ztb g x c T hh;obtain⟨H0,K,x',h6,hv⟩:=zbD M H S;rw[T]at h6;cases h6;have h9:h3.gs c=some y:=by rw[O,zo _ _ K,zo _ _ K];exact H
    have hq:=(hw.gx c y H).1;have V:=M.zq4 c y H;have P:=zc V;have H2:=(M.deep c y H).2;have ha:Hid ((N/2).toNat=c):=zc (by rw[j];omega);have hi:=zc h9;have F:Hid (dp c=dp g+1):=zc (by omega);clear G hd O hN hw t X hh H S h9 j;have ho:wrap64 (c:Int)=c:=zbK c V
    gi_wp2
    refine⟨trivial,(callsIn_wide.2 n.out).mono ?_⟩;rintro z W2 ⟨rfl,E⟩;obtain⟨fn,tmps,assign,body,I,Y⟩:=U.out W2 E;clear hA hC hc hl c2 d L n U E
    gi_wp2
    refine Y.mono ?_;rintro e W3 ⟨rfl,D⟩;have R:=zc D;clear I Y D
    gi_wp2
    go_roundw
    case rel=>exact⟨_,h3,k,c,y,by first | rfl | rw[ho],R.out,hi.out,by have:=F.out;omega,by have:=HD.out;rw[ha.out]at this;exact this⟩
    case measure=>
     have h1:=F.out;have h2:=P.out;simp[intOf];omega
theorem zmz(m:Nat)(f b:Qu->Qu)(hf:yu f)(hb:yu b)(J:Option (Nat×Int)->Hm->World->Prop)(p A C K l:Nat)(credit gran:Int)(ps:Nat->Option Nat)(qs dp:Nat->Nat)(fin:Hm×Nat×Int)
 (hJ:∀s h W,J s h W->zoo W p A C (.func (.func 168) #[] #[.pointer (some ⟨K,0,none⟩)]) credit gran ps qs dp h)
 (o:∀s h W g x,J s h W->h.gs g=some x->Calls prog 168 #[.pointer (some ⟨qs g,0,none⟩),.pointer (some ⟨K,0,none⟩)] W fun z u=>z=.returned (.int .i64 (f x.q).cur)/\J s (h.set g (x.zpb (f x.q))) u)
 (hy:∀s h W g x k,J s h W->h.gs g=some x->Hm.down f b (k+1) h g=fin->∀u,J s (h.set g (x.zpb (f x.q))) u->YieldAt Fence.wide (m+1) prog l #[.pointer (some ⟨qs g,0,none⟩),.int .i64 (f x.q).cur] u fun e ho=>e=.returned (.bool true)/\J (some (g,(f x.q).cur)) ((h.set g (x.zpb (f x.q))).set g ((x.zpb (f x.q)).zpb (b (f x.q)))) ho)
 (h0:Hm) (W0:World) (Z:J none h0 W0) (h4:h0.down f b 9 0=fin):
 CallsIn Fence.wide (m+2) prog 170 #[.func (.yield l) #[] #[],.pointer (some ⟨A,0,none⟩),.pointer (some ⟨C,0,none⟩)] W0 fun e u=>(∃v,e=.returned v)/\J (some fin.2) fin.1 u:=by
 refine callsIn_of_wp func170 rfl trivial ?_ rfl;simp only[ntmps170,List.size_toArray,List.length_cons,List.length_nil,Nat.reduceAdd,Nat.reduceSub,Array.replicate_succ,Array.replicate_zero,List.push_toArray,List.append_toArray,List.nil_append,List.cons_append]
 gi_wp2
 gi_loopw [4] (fun i wr=>∃(s:Option (Nat×Int)) (h:Hm) (k g:Nat) (x:Gr),i=.int .i64 g/\J s h wr/\h.gs g=some x/\9<=k+dp g/\h.down f b k g=fin) (fun i _=>9-dp (intOf i).toNat)
 case atStart=>
  obtain⟨r,hr,_,hd⟩:=(hJ _ _ _ Z).ok.root;have:=((hJ _ _ _ Z).gx 0 r hr).1;exact⟨none,h0,9,0,r,rfl,Z,hr,by omega,h4⟩
 case round=>
  obtain⟨s,h,k,g,x,rfl,t,T,hk,hd⟩:=hrel;have hw:=hJ _ _ _ t;have h5:=hw.ok.zq4 g x T;have H0:=(hw.ok.deep g x T).2;obtain⟨H4,B,hB,P⟩:=hw.gx g x T;obtain⟨k,rfl⟩:∃k',k=k'+1:=⟨k-1,by omega⟩
  have hc:=hw.hx.at h5;rw[hB]at hc;have hl:=hw.hx.lt;have hA:=hw.a;have hC:=hw.c;obtain⟨c0,c1,c2,c3,c4,c5,c6,c7,c8⟩:=P.c9;have d:=P.lt;clear c0 c1 c3 c4 c5 c6 c7 c8;have n:=zc (o s h wr g x t T);have U:=zc (hy s h wr g x k t T hd);have M:=hw.ok;have h8:=(M.q g x T).1;have hi:=hf.ok _ h8;have G:h.down f b (k+1) g=if(f x.q).cur<0∨(f x.q).cur%2=0 then((h.set g (x.zpb (f x.q))).set g ((x.zpb (f x.q)).zpb (b (f x.q))),g,(f x.q).cur)else Hm.down f b k ((h.set g (x.zpb (f x.q))).set g ((x.zpb (f x.q)).zpb (b (f x.q)))) ((f x.q).cur/2).toNat:=by
   conv=>lhs;unfold Hm.down
   rw[T]
  obtain⟨N,hN⟩:=zh ((f x.q).cur)
  obtain⟨h3,O⟩:=zh ((h.set g (x.zpb (f x.q))).set g ((x.zpb (f x.q)).zpb (b (f x.q))))
  rw[<-hN]at n U G;rw[<-O]at U G;rw[G]at hd;by_cases S:N<0
  ·rw[if_pos (.inl S)]at hd;have HD:=zc hd;clear G hd O hN hw t
   gi_wp2
   refine⟨trivial,(callsIn_wide.2 n.out).mono ?_⟩;rintro z W2 ⟨rfl,E⟩;obtain⟨fn,tmps,assign,body,I,Y⟩:=U.out W2 E;clear hA hC hc hl c2 d P n U E
   gi_wp2
   refine Y.mono ?_;rintro e W3 ⟨rfl,D⟩;have R:=zc D;clear I Y D
   gi_wp2
   refine bodyPost_ret (results_none rfl _ _ _) rfl ?_;rw[<-HD.out];exact⟨⟨_,rfl⟩,R.out⟩
  ·by_cases h9:N%2=0
   ·rw[if_pos (.inr h9)]at hd;have HD:=zc hd;have ht:Int.tmod N 2=0:=by rw[Int.tmod_eq_emod_of_nonneg (by omega)];exact h9
    clear G hd O hN hw t
    gi_wp2
    refine⟨trivial,(callsIn_wide.2 n.out).mono ?_⟩;rintro z W2 ⟨rfl,E⟩;obtain⟨fn,tmps,assign,body,I,Y⟩:=U.out W2 E;clear hA hC hc hl c2 d P n U E
    gi_wp2
    refine Y.mono ?_;rintro e W3 ⟨rfl,D⟩;have R:=zc D;clear I Y D
    gi_wp2
    refine bodyPost_ret (results_none rfl _ _ _) rfl ?_;rw[<-HD.out];exact⟨⟨_,rfl⟩,R.out⟩
   ·rw[if_neg (by omega)]at hd;have HD:=zc hd;obtain⟨c,j⟩:∃c:Nat,N=2*c+1:=⟨(N/2).toNat,by omega⟩
    have ht:Int.tmod N 2=1:=by rw[Int.tmod_eq_emod_of_nonneg (by omega)];omega
    have H5:Int.tdiv N 2=c:=by rw[Int.tdiv_eq_ediv_of_nonneg (by omega)];omega
    have X:∃e∈(f x.q).l,e.id=(f x.q).cur:=hi.cur.resolve_left (by omega);have hh:x.q.has (2*c+1):=by rw[<-j,hN];exact(hf.has _ _ h8).1 X
    obtain⟨y,H,h6⟩:=M.ztb g x c T hh;obtain⟨H2,L,x',h7,hz⟩:=zbD M H h6;rw[T]at h7;cases h7;have ha:h3.gs c=some y:=by rw[O,zo _ _ L,zo _ _ L];exact H
    have hv:=(hw.gx c y H).1;have V:=M.zq4 c y H;have Q:=zc V;have H3:=(M.deep c y H).2;have hg:Hid ((N/2).toNat=c):=zc (by rw[j];omega);have hn:=zc ha;have F:Hid (dp c=dp g+1):=zc (by omega);clear G hd O hN hw t X hh H h6 ha j;have hq:wrap64 (c:Int)=c:=zbK c V
    gi_wp2
    refine⟨trivial,(callsIn_wide.2 n.out).mono ?_⟩;rintro z W2 ⟨rfl,E⟩;obtain⟨fn,tmps,assign,body,I,Y⟩:=U.out W2 E;clear hA hC hc hl c2 d P n U E
    gi_wp2
    refine Y.mono ?_;rintro e W3 ⟨rfl,D⟩;have R:=zc D;clear I Y D
    gi_wp2
    go_roundw
    case rel=>exact⟨_,h3,k,c,y,by first | rfl | rw[hq],R.out,hn.out,by have:=F.out;omega,by have:=HD.out;rw[hg.out]at this;exact this⟩
    case measure=>
     have h1:=F.out;have h2:=Q.out;simp[intOf];omega
def zop:Option (Nat×Int)->Int
 | none=> -1
 | some x=>x.2
def zkA(h:Hm)(g:Nat):Nat:=match h.gs g with
 | none=>0
 | some x=>x.deep.toNat
theorem zcR{h:Hm}(B:h.Ok){g:Nat}{x:Gr}(A:h.gs g=some x):x.deep=zkA h g:=by unfold zkA;rw[A];have:=(B.deep g x A).1;simp only;omega
theorem HS.gxs{w:World}{F:Nat->Prop}{p:Nat}{h:Hm}{ps:Nat->Option Nat}{A B:Nat->Nat}(hs:HS w F p h ps A B){g:Nat}{x:Gr}(G:h.gs g=some x):∃b,ps g=some b/\zpQ w b (A g) x:=by obtain⟨b,E,_,_,D⟩:=hs.zpS G;exact⟨b,E,D⟩
theorem zx{W:World}{b:Nat}{v:Value}{t:TypeId}{z:Nat×Nat}(h:W.heap[b]?=some (.cells #[v] t z)):W.cell? ⟨b,0,none⟩=some v:=by simp[World.cell?,h]
def zoI(m B l:Nat)(fn:FuncId)(T:Array Value)(pm:Array Tmp)(A bd:Code):Prop:=
 ∀(W:World) (q:Nat) (n:Int),yD W l .ready fn T pm A bd->(∃v,W.heap[B]?=some (.cells #[v] 3 (0,0)))->
  YieldAt Fence.wide m prog (l+1) #[.pointer (some ⟨q,0,none⟩),.int .i64 n] W fun e D=>e=.returned (.bool true)/\yD D l .ready fn T pm A bd/\
   D.heap[B]?=some (.cells #[.int .i64 n] 3 (0,0))/\zo8 (fun k=>k=B∨k=l+1) W D
theorem zjG(w:World)(A C:Nat)(D:Int->World->Prop)(N:∀n W f l,D n W->w.heap.size<=l->zo8 (fun k=>k=l) W f->D n f)
 (X:∀(B l:Nat) (fn:FuncId) (T:Array Value) (pm:Array Tmp) (Z bd:Code) (d:World),Below w.heap.size w d->w.heap.size<=B->B<l->d.heap[B]?=some (.cells #[.int .i64 (-1)] 3 (0,0))->
  yD d l .ready fn T pm Z bd->zoI 2 B l fn T pm Z bd->
  CallsIn Fence.wide 3 prog 170 #[.func (.yield (l+1)) #[] #[],.pointer (some ⟨A,0,none⟩),.pointer (some ⟨C,0,none⟩)] d fun e H=>(∃v,e=.returned v)/\
   yD H l .ready fn T pm Z bd/\∃n,H.heap[B]?=some (.cells #[.int .i64 n] 3 (0,0))/\ -1<=n/\n<1000000/\D n H):
 Calls prog 110 #[.func (.func 170) #[] #[.pointer (some ⟨A,0,none⟩),.pointer (some ⟨C,0,none⟩)]] w fun z w'=>∃n,z=.returned (.int .i64 (vP n))/\D n w':=by
 have HP:=zc N;have HW:=zc X;clear N X;refine(callsIn_wide (n:=4)).1 ?_;refine callsIn_of_wp_marks func110 rfl trivial ?_ rfl;simp only[ntmps110,List.size_toArray,List.length_cons,List.length_nil,Nat.reduceAdd,Nat.reduceSub,Array.replicate_succ,Array.replicate_zero,List.push_toArray,List.append_toArray,List.nil_append,List.cons_append]
 gi_wp2
 obtain⟨w1,I⟩:=zh (w.alloc (.cells #[.int .i64 (-1)] 3))
 rw[<-I];have F:Below w.heap.size w w1:=by rw[I];exact zk w _
 have u:w1.heap.size=w.heap.size+1:=by rw[I];simp
 have b:w1.heap[w.heap.size]?=some (.cells #[.int .i64 (-1)] 3 (0,0)):=by rw[I];exact heap_alloc_new w _
 obtain⟨B,Q⟩:=zh w.heap.size
 rw[<-Q]at b ⊢;have y:=zc u;have s:=zc F;have p:=zc b;have x:=zc Q;clear I F u b Q;refine zR rfl (by simp) (gf:=170) (lb:=#[.pointer (some ⟨A,0,none⟩),.pointer (some ⟨C,0,none⟩)]) rfl trivial (enters_of func170 (by kernel_rfl) rfl) ?_;intro fn d hh hb c;obtain⟨l,E⟩:=zh w1.heap.size
 rw[<-E]at c hb ⊢;have hc:=zc E;have m:B<l:=by rw[E,y.out,x.out];omega
 have h6:w.heap.size<=B:=by rw[x.out];exact zg _
 have j:d.heap[B]?=some (.cells #[.int .i64 (-1)] 3 (0,0)):=by rw[hb.block B m];exact p.out
 have h5:Hid (w.heap.size<=l+1):=zc (by rw[E,y.out];omega);have h9:w1.heap.size<=l:=by rw[E];exact zg _
 clear E;refine(HW.out B l fn _ _ _ _ d (zj s.out hb (by have:=s.out.size;omega)) h6 m j c ?_).mono ?_
 ·clear c hb j p HW HP;intro W q n c V;obtain⟨v,V⟩:=V;have HV:=zc V;have HL:=zc c;have hi:=(zd V).1;refine YieldAt.mono (xF (a₁:={ tmps:=#[.func (.func 170) #[] #[.pointer (some ⟨A,0,none⟩),.pointer (some ⟨C,0,none⟩)],undef,.int .i64 0,.pointer (some ⟨B,0,none⟩),undef,.int .i64 n,.func (.func 170) #[] #[.pointer (some ⟨A,0,none⟩),.pointer (some ⟨C,0,none⟩)],.pointer (some ⟨q,0,none⟩),.int .i64 n,undef,undef,undef,undef,undef],defers:= [] }) trivial c _ rfl (R:=fun f=>f.heap[B]?=some (.cells #[.int .i64 n] 3 (0,0))/\zo8 (fun k=>k=B∨k=l+1) W f) ?_ ?_) ?_
  ·intro K hK
   gi_wp2
   exact hK
  ·generalize O:yH W l .busy _ _ _ _ _=H;have G:=HL.out.put .busy;rw[O]at G;have M:H.heap[B]?=some (.cells #[v] 3 (0,0)):=by rw[<-O,zE _ _ _ _ _ _ _ _ (by omega)];exact HV.out
   have zpZ:zo8 (fun k=>k=B∨k=l+1) W H:=by rw[<-O];exact(zF _ _ _ _ _ _ _ _).mono fun k Y=>.inr Y
   have S:=zc G;have h0:=zc M;have P:=zc zpZ;have a:H.cell? ⟨B,0,none⟩=some v:=by simp[World.cell?,M]
   have h8:H.frozen? ⟨B,0,none⟩=false:=by simp[World.frozen?,M]
   have hf:=(zd M).1;clear O G M zpZ HL HV c V
   gi_wp2
   have J:(H.setCell ⟨B,0,none⟩ (.int .i64 n)).heap[B]?=some (.cells #[.int .i64 n] 3 (0,0)):=zi h0.out;have t:zo8 (fun k=>k=B) H (H.setCell ⟨B,0,none⟩ (.int .i64 n)):=(zo8.refl _ _).one;refine⟨S.out.zpW t (by omega) (by omega),?_,?_⟩
   ·rw[zE _ _ _ _ _ _ _ _ (by omega)];exact J
   ·exact((P.out.trans t fun k Y=>.inl (.inl Y)).trans (zF _ _ _ _ _ _ _ _) fun k Y=>.inl (.inr Y))
  ·rintro e f ⟨h1,h2,h3,h4⟩;exact⟨h1,h2,h3,h4⟩
 ·rintro e H ⟨V,G,n,hn,ha,hj,r⟩;refine⟨V,G,?_⟩;intro g hd L;have J:g.heap[B]?=some (.cells #[.int .i64 n] 3 (0,0)):=by rw[L.block B (zd hn).1 (by omega)];exact hn
  have a:g.cell? ⟨B,0,none⟩=some (.int .i64 n):=by simp[World.cell?,J]
  have h7:=(zd J).1;have U:=HP.out n H g (l+1) r h5.out L;have h:Hid (D n (g.putObj l (.deferred none))):=zc (HP.out n g _ l U (by omega) ⟨rfl,rfl,rfl,by simp,fun k _ Y=>World.putObj_heap_other Y⟩);clear r U hn G V L J;have HD:=zc hd;clear hd;by_cases o:n<0
  ·gi_wp2
   refine⟨by simp,.inl ⟨_,_,rfl,run_takeDeferred HD.out,?_⟩⟩;exact⟨_,results_tmp rfl _ _ _,n,by simp[vP,o],h.out⟩
  ·have hg:Int.tdiv n 2=n/2:=Int.tdiv_eq_ediv_of_nonneg (by omega)
   gi_wp2
   refine⟨by simp,.inl ⟨_,_,rfl,run_takeDeferred HD.out,?_⟩⟩;exact⟨_,results_tmp rfl _ _ _,n,by rw[vP,if_neg (by omega)];rfl,h.out⟩
theorem zaN{f b:Qu->Qu}(A:yu f)(hb:yu b):∀(k:Nat) {h:Hm} (D:h.Ok) (g:Nat),-1<=(h.down f b k g).2.2/\(h.down f b k g).2.2<1000000
 | 0,h,D,g=>⟨by show(-1:Int)<= -1;omega,by show(-1:Int) <_;omega⟩
 | k+1,h,D,g=>by
  unfold Hm.down;cases hx:h.gs g with
  | none=>exact⟨by show(-1:Int)<= -1;omega,by show(-1:Int) <_;omega⟩
  | some x=>
   simp only;have B:=(D.q g x hx).1;have H:=yB D hx (A.ok _ B) fun i=>A.has _ i B;have a2:=yB H.ok (zw h g (x.zpb (f x.q))) (q:=b (f x.q)) (hb.ok _ (A.ok _ B)) fun i=>hb.has _ i (A.ok _ B);split
   ·show -1<=(f x.q).cur/\(f x.q).cur<_;rcases(A.ok _ B).cur with E | ⟨e,he,hi⟩
    ·rw[E];exact⟨by omega,by omega⟩
    ·have:=(A.has _ e.id B).1 ⟨e,he,rfl⟩;obtain⟨a,G,h0⟩:=this;have h2:=(D.q g x hx).2 a G;have h3:=((A.ok _ B).zpR e he).id;omega
   ·exact zaN A hb k a2.ok _
theorem zgK(w:World)(F:Nat->Prop)(p A C:Nat)(h:Hm)(ps:Nat->Option Nat)(V j:Nat->Nat)(hs:HS w F p h ps V j)(I:h.Ok)
 (Z:w.cell? ⟨A,0,none⟩=some (.pointer (some ⟨p,0,none⟩))) (hC:w.cell? ⟨C,0,none⟩=some (.func (.func 112) #[] #[])):
 Calls prog 110 #[.func (.func 170) #[] #[.pointer (some ⟨A,0,none⟩),.pointer (some ⟨C,0,none⟩)]] w fun z w'=>z=.returned (.int .i64 h.running)/\Below w.heap.size w w':=by
 have O:=World.block_lt_of_cell? w _ Z;have X:=World.block_lt_of_cell? w _ hC;refine(zjG w A C (fun n W=>n=(h.down zpv zpv 9 0).2.2/\Below w.heap.size w W) ?_ ?_).mono ?_
 ·rintro n W Y l ⟨U,M⟩ a b;exact⟨U,M.trans (b.below (by have:=M.size;omega) fun k I=>by omega)⟩
 ·intro B l fn T pm R bd f hb h0 h6 d a r;refine(zat 1 zpv zpv .id .id (fun s N W=>N=h/\Below w.heap.size w W/\W.heap[B]?=some (.cells #[.int .i64 (zop s)] 3 (0,0))/\yD W l .ready fn T pm R bd) p A C (l+1) h.credit h.gran ps V (zkA h) (h.down zpv zpv 9 0) ?_ ?_ ?_ h f ⟨rfl,hb,d,a⟩ rfl).mono ?_
  ·rintro s N W ⟨rfl,D,_,_⟩;have J:=hs.kept (w':=W) (.zo7 D);exact⟨I,J.hx,fun g x H=>⟨zcR I H,J.gxs H⟩,((zf0 D).1 A 0 O).trans Z,((zf0 D).1 C 0 X).trans hC⟩
  ·rintro s N W g x ⟨rfl,D,G,E⟩ H;refine(ub W _ _ x.q ((hs.kept (w':=W) (.zo7 D)).zqt H)).mono ?_;rintro z Y ⟨rfl,rfl⟩;exact⟨rfl,xe (x:=x.zpb (zpv x.q)) H,D,G,E⟩
  ·rintro s N W g x k ⟨rfl,_,_,_⟩ H hd Y ⟨he,D,G,E⟩;refine(r Y (V g) _ E ⟨_,G⟩).mono ?_;rintro e h5 ⟨U,M,m,c⟩;refine⟨U,?_,D.trans (c.below (by have:=D.size;omega) fun k I=>by omega),m,M⟩;rw[he];exact xe (x:=(x.zpb (zpv x.q)).zpb (zpv (zpv x.q))) H
  ·rintro e W2 ⟨o,_,D,G,E⟩;exact⟨o,E,_,G,(zaN .id .id 9 I 0).1,(zaN .id .id 9 I 0).2,rfl,D⟩
 ·rintro z w' ⟨n,rfl,rfl,hb⟩;exact⟨rfl,hb⟩
theorem zbL(w:World)(p:Nat)(B:Value)(h1:B.oneCell'=true):
 Calls prog 111 #[.pointer (some ⟨p,0,none⟩),B] w fun z w'=>∃A C,z=.returned (.func (.func 170) #[] #[.pointer (some ⟨A,0,none⟩),.pointer (some ⟨C,0,none⟩)])/\
  w'.cell? ⟨A,0,none⟩=some (.pointer (some ⟨p,0,none⟩))/\w'.cell? ⟨C,0,none⟩=some B/\w.heap.size<=A/\w.heap.size<=C/\Below w.heap.size w w':=by
 go_enter func111,ntmps111;go_wp2;go_ret;refine⟨_,_,rfl,?_,?_,zg _,by omega,((Below.refl _ w).alloc (zg _) _).alloc (by simp) _⟩
 ·exact zx (t:=99) ((Below.heap_alloc _ _ _ (by simp)).trans (heap_alloc_new w _))
 ·have D:=heap_alloc_new (w.alloc (.cells #[.pointer (some ⟨p,0,none⟩)] 99)) (.cells #[B] 199);rw[World.size_alloc]at D;exact zx D
theorem xT(w:World)(F:Nat->Prop)(p:Nat)(h:Hm)(N:zB w F p h):Calls prog 59 #[.pointer (some ⟨p,0,none⟩)] w fun z w'=>z=.returned (.int .i64 h.running)/\Below w.heap.size w w':=by
 obtain⟨⟨ps,M,J,hs⟩,D⟩:=N;have E:=zc hs;have O:=zc D;have h0:=hs.hx.lt;have R:=zc (zbL w p (.func (.func 112) #[] #[]) rfl);clear hs D;go_enter func59,ntmps59;go_wp2_with fail;refine R.out.mono ?_;rintro z w1 ⟨A,C,rfl,I,hC,_,_,hb⟩;have H:=zc hb;have T:=zc (zgK w1 F p A C h ps M J (E.out.kept (.zo7 hb)) O.out I hC);clear I hC hb;go_wp2_with fail;refine T.out.mono ?_;rintro z w2 ⟨rfl,B⟩;have G:=zc B;clear B;go_wp2;go_ret;exact⟨rfl,zj H.out G.out H.out.size⟩
theorem HS.ztj{w w':World}{F:Nat->Prop}{p:Nat}{h:Hm}{ps:Nat->Option Nat}{E D:Nat->Nat}(hs:HS w F p h ps E D){g:Nat}{x:Gr}{q':Qu}(N:h.gs g=some x)
 (R:zo8 (fun k=>k=E g) w w') (T:yA w' (fun k=>F k/\D k=g+1) (E g) q'):HS w' F p (h.set g (x.zpb q')) ps E D:=by
 obtain⟨_,_,_,_,_,hF,U⟩:=(hs.zqt N).ex;obtain⟨I,H,a,tb,gb⟩:=hs.zpS N;have A:∀k,k<w.heap.size->D k≠g+1->w'.heap[k]?=w.heap[k]?:=fun k Z G=>R.block k Z (by rintro rfl;exact G U);refine⟨hs.hx.of (A p hs.hx.lt (by rw[hs.tp];omega)),?_,?_,hs.inj,hs.fp,hs.tp⟩
 ·intro k A;by_cases e:k=g
  ·subst e;rw[zw]at A;cases A
  ·rw[zo h _ e]at A;exact hs.zsX k A
 ·intro k z B;by_cases e:k=g
  ·subst e;rw[zw]at B;cases B;exact⟨I,H,a,tb,gb.of (A I gb.lt (by rw[tb];omega)),T⟩
  ·rw[zo h _ e]at B;obtain⟨c,V,O,M,J,X⟩:=hs.gx k z B;exact⟨c,V,O,M,J.of (A c J.lt (by rw[M];omega)),X.kept fun j b Y=>A j b (by rw[Y.2];omega)⟩
theorem zio(w:World)(F:Nat->Prop)(q p K:Nat)(x:Qu)(credit gran:Int)(ps:Nat->Option Nat)(h:yA w F q x)(A:zra w p credit gran ps)(H:w.cell? ⟨K,0,none⟩=some (.pointer (some ⟨p,0,none⟩))):
 Calls prog 168 #[.pointer (some ⟨q,0,none⟩),.pointer (some ⟨K,0,none⟩)] w (xk w F q (x.pick gran)):=by
 have G:=zc (ve gran w F q x h);have h0:=A.lt;have c1:=A.c1;have h1:=World.block_lt_of_cell? w _ H;clear h A;go_enter func168,ntmps168;go_wp2_with fail;refine G.out.mono ?_;rintro z w2 ⟨rfl,B,D⟩;have I:=zc B;have E:=zc D;clear B D;go_wp2;go_ret;exact⟨rfl,I.out,E.out⟩
theorem zmA(w:World)(F:Nat->Prop)(p A C K:Nat)(h:Hm)(ps:Nat->Option Nat)(a u:Nat->Nat)(hs:HS w F p h ps a u)(O:h.Ok)
 (hA:w.cell? ⟨A,0,none⟩=some (.pointer (some ⟨p,0,none⟩))) (hC:w.cell? ⟨C,0,none⟩=some (.func (.func 168) #[] #[.pointer (some ⟨K,0,none⟩)])) (hK:w.cell? ⟨K,0,none⟩=some (.pointer (some ⟨p,0,none⟩)))
 (r:∀k,F k->k<w.heap.size) (nA:¬F A) (nC:¬F C) (nK:¬F K):
 Calls prog 110 #[.func (.func 170) #[] #[.pointer (some ⟨A,0,none⟩),.pointer (some ⟨C,0,none⟩)]] w fun z w'=>z=.returned (.int .i64 h.pick.2)/\zB w' F p h.pick.1/\zo8 F w w':=by
 have P:=World.block_lt_of_cell? w _ hA;have h5:=World.block_lt_of_cell? w _ hC;have S:=World.block_lt_of_cell? w _ hK;have I:∀{W:World} {k:Nat},zo8 F w W->k<w.heap.size->¬F k->∀o,W.cell? ⟨k,o,none⟩=w.cell? ⟨k,o,none⟩:=fun m v hn o=>by simp[World.cell?,m.block _ v hn]
 obtain⟨fin,H⟩:=zh (h.down (xi h.gran) zpv 9 0)
 have b:=zaN (.pick h.gran) .id 9 O 0;have d:=(vm (.pick h.gran) .id 9 O 0).ok;rw[<-H]at b d;refine(zjG w A C (fun n W=>n=fin.2.2/\HS W F p fin.1 ps a u/\zo8 F w W) ?_ ?_).mono ?_
 ·rintro n W W' l ⟨f,N,R⟩ v m;have L:∀k,F k->k≠l:=fun k O e=>by have:=r k O;omega
  exact⟨f,N.kept (zY.zpK m fun k O e=>L k O e),R.trans m fun k O=>.inr (by omega)⟩
 ·intro B l fn T pm Q bd W1 hb h9 h6 hc v hR;have j:¬F B:=fun e=>by have:=r B e;omega
  have h0:¬F l:=fun e=>by have:=r l e;omega
  have Y:¬F (l+1):=fun e=>by have:=r _ e;omega
  refine(zmz 1 (xi h.gran) zpv (.pick _) .id (fun s Z W=>Z.Ok/\yV h Z/\HS W F p Z ps a u/\zo8 F w W/\W.heap[B]?=some (.cells #[.int .i64 (zop s)] 3 (0,0))/\yD W l .ready fn T pm Q bd) p A C K (l+1) h.credit h.gran ps a (zkA h) fin ?_ ?_ ?_ h W1 ⟨O,.refl h,hs.kept (.zo7 hb),.zo7 hb,hc,v⟩ H.symm).mono ?_
  ·rintro s Z W ⟨J,E,D,G,_,_⟩;refine⟨J,?_,fun g x V=>⟨?_,D.gxs V⟩,(I G P nA 0).trans hA,(I G h5 nC 0).trans hC⟩
   ·have:=D.hx;rw[E.cr,E.gr]at this;exact this
   ·rcases E.gs g with⟨_,N⟩ | ⟨x0,y,f,N,R,t⟩
    ·rw[V]at N;cases N
    ·rw[V]at N;cases N;rw[t];exact zcR O f
  ·rintro s Z W g x ⟨J,E,D,G,M,U⟩ V;have c:=D.hx;rw[E.cr,E.gr]at c;obtain⟨_,_,_,_,_,X,h8⟩:=(D.zqt V).ex;refine(zio W _ (a g) p K x.q h.credit h.gran ps (D.zqt V) c ((I G S nK 0).trans hK)).mono ?_;rintro z W' ⟨rfl,N,R⟩;have a1:=yB J V (zcP (J.q g x V).1 h.gran) fun i=>zbB _ _ _;refine⟨rfl,a1.ok,E.trans a1.zsd,D.ztj V R N,G.trans R fun k e=>.inl (e▸X),?_,U.zpW R (fun e=>h0 (e▸X)) (fun e=>Y (e▸X))⟩;rw[R.block B (zd M).1 (fun e=>j (e▸X))];exact M
  ·rintro s Z W g x k _ V hd W' ⟨J,E,D,G,M,U⟩;refine(hR W' (a g) _ U ⟨_,M⟩).mono ?_;rintro e h7 ⟨f,N,R,t⟩;have es:(Z.set g (x.zpb (xi h.gran x.q))).set g ((x.zpb (xi h.gran x.q)).zpb (zpv (xi h.gran x.q)))=Z.set g (x.zpb (xi h.gran x.q)):=xe (x:=(x.zpb (xi h.gran x.q)).zpb (zpv (xi h.gran x.q))) (zw _ _ _);rw[es];refine⟨f,J,E,D.kept (zY.zpK t ?_),G.trans t fun k e=>.inr (by omega),R,N⟩;rintro k O (rfl | rfl)
   ·exact j O
   ·exact Y O
  ·rintro e W2 ⟨hv,_,_,D,G,M,U⟩;exact⟨hv,U,_,M,b.1,b.2,rfl,D,G⟩
 ·rintro z w' ⟨n,rfl,rfl,N,R⟩;refine⟨?_,⟨⟨ps,a,u,?_⟩,?_⟩,R⟩
  ·unfold Hm.pick;rw[<-H]
  ·unfold Hm.pick;rw[<-H];exact N
  ·unfold Hm.pick;rw[<-H];exact d
theorem zbc(w:World)(F:Nat->Prop)(p:Nat)(h:Hm)(m:zB w F p h)(b:∀k,F k->k<w.heap.size):Calls prog 109 #[.pointer (some ⟨p,0,none⟩)] w fun z w'=>z=.returned (.int .i64 h.pick.2)/\zB w' F p h.pick.1/\zo8 F w w':=by
 obtain⟨⟨ps,l,j,hs⟩,J⟩:=m;have X:=zc hs;have n:=zc J;have Z:=zc b;have h0:=hs.hx.lt;clear hs J b;go_enter func109,ntmps109;go_wp2_with fail;obtain⟨w1,B⟩:=zh (w.alloc (.cells #[.pointer (some ⟨p,0,none⟩)] 99))
 have M:Below w.heap.size w w1:=by rw[B];exact zk w _
 have E:w1.heap[w.heap.size]?=some (.cells #[.pointer (some ⟨p,0,none⟩)] 99 (0,0)):=by rw[B];exact heap_alloc_new w _
 rw[<-B];obtain⟨K,G⟩:=zh w.heap.size
 rw[<-G]at E ⊢;have O:=zc G;have H:=zc M;have U:=zc E;have I:=(zd E).1;clear B M G E;refine(zbL w1 p (.func (.func 168) #[] #[.pointer (some ⟨K,0,none⟩)]) rfl).mono ?_;rintro z d ⟨A,C,rfl,a,hC,R,Y,hb⟩;have T:=zc (zj H.out hb H.out.size);have V:=H.out.size;have D:∀k,w.heap.size<=k->¬F k:=fun k N e=>by have:=Z.out k e;omega
 have o:=zc (zmA d F p A C K h ps l j (X.out.kept (.zo7 T.out)) n.out a hC (zx ((hb.block K I).trans U.out)) (fun k N=>zf (Z.out k N) T.out.size) (D _ (by omega)) (D _ (by omega)) (D _ (by rw[O.out];exact zg _)));clear a hC hb R Y D I V;go_wp2_with fail;refine o.out.mono ?_;rintro z w3 ⟨rfl,c,t3⟩;have f:=zc c;have g:=zc t3;clear c t3;go_wp2;go_ret;exact⟨rfl,f.out,(zo8.zo7 T.out:zo8 F w d).trans g.out fun k N=>.inl N⟩
theorem zkB(w:World)(F:Nat->Prop)(p:Nat)(h:Hm)(D:zB w F p h):Calls prog 109 #[.pointer (some ⟨p,0,none⟩)] w fun z w'=>z=.returned (.int .i64 h.pick.2)/\yW w F p h.pick.1 w':=
 (zbc w _ p h D.zsK fun k A=>A.2).mono fun z w' B=>⟨B.1,B.2.1.mono fun k _ A=>.inl A.1,B.2.2.mono fun k A=>A.1⟩
def zoX(A:Nat->Nat):Option (Nat×Int)->Value
 | none=>.pointer none
 | some x=>.pointer (some ⟨A x.1,0,none⟩)
def zoJ(m B l:Nat)(fn:FuncId)(T:Array Value)(pm:Array Tmp)(A bd:Code):Prop:=
 ∀(W:World) (q:Nat) (n:Int),yD W l .ready fn T pm A bd->(∃v,W.heap[B]?=some (.cells #[v] 136 (0,0)))->
  YieldAt Fence.wide m prog (l+1) #[.pointer (some ⟨q,0,none⟩),.int .i64 n] W fun e D=>e=.returned (.bool true)/\yD D l .ready fn T pm A bd/\
   D.heap[B]?=some (.cells #[.pointer (some ⟨q,0,none⟩)] 136 (0,0))/\zo8 (fun k=>k=B∨k=l+1) W D
theorem zmB(w N:World)(F:Nat->Prop)(p A C B l:Nat)(h:Hm)(ps:Nat->Option Nat)(Y r:Nat->Nat)(hs:HS w F p h ps Y r)(E:h.Ok)(fn:FuncId)(T:Array Value)(pm:Array Tmp)(J bd:Code)
 (d:w.cell? ⟨A,0,none⟩=some (.pointer (some ⟨p,0,none⟩))) (hC:w.cell? ⟨C,0,none⟩=some (.func (.func 112) #[] #[]))
 (U:A≠B/\C≠B/\A<l/\C<l/\B<l) (M:¬F B/\¬F (l+1)) (hb:Below w.heap.size w N) (o:N.heap[B]?=some (.cells #[.pointer none] 136 (0,0)))
 (t:yD N l .ready fn T pm J bd) (P:zoJ 2 B l fn T pm J bd):
 CallsIn Fence.wide 3 prog 170 #[.func (.yield (l+1)) #[] #[],.pointer (some ⟨A,0,none⟩),.pointer (some ⟨C,0,none⟩)] N fun e a=>(∃v,e=.returned v)/\
  yD a l .ready fn T pm J bd/\a.heap[B]?=some (.cells #[.pointer (some ⟨Y (h.down zpv zpv 9 0).2.1,0,none⟩)] 136 (0,0))/\zo8 (fun k=>k=B∨k=l+1) N a:=by
 have b:=World.block_lt_of_cell? w _ d;have c:=World.block_lt_of_cell? w _ hC;refine(zat 1 zpv zpv .id .id (fun s Z W=>Z=h/\zo8 (fun k=>k=B∨k=l+1) N W/\W.heap[B]?=some (.cells #[zoX Y s] 136 (0,0))/\yD W l .ready fn T pm J bd) p A C (l+1) h.credit h.gran ps Y (zkA h) (h.down zpv zpv 9 0) ?_ ?_ ?_ h N ⟨rfl,.refl _ _,o,t⟩ rfl).mono ?_
 ·rintro s Z W ⟨rfl,D,_,_⟩;have V:=hs.kept (w':=N) (.zo7 hb);have O:=V.kept (w':=W) (zY.zpK D fun k X E=>by rcases E with rfl | rfl;exact M.1 X;exact M.2 X);have I:∀k,k<w.heap.size->k≠B->k≠l+1->W.cell? ⟨k,0,none⟩=w.cell? ⟨k,0,none⟩:=fun k E L m=>by have y:=D.block k (zf E hb.size) (by rintro(e | e);exact L e;exact m e);simp[World.cell?,y.trans (hb.block k E)]
  exact⟨E,O.hx,fun g x R=>⟨zcR E R,O.gxs R⟩,(I A b U.1 (by omega)).trans d,(I C c U.2.1 (by omega)).trans hC⟩
 ·rintro s Z W g x ⟨rfl,D,H,G⟩ R;have V:=hs.kept (w':=N) (.zo7 hb);have O:=V.kept (w':=W) (zY.zpK D fun k X E=>by rcases E with rfl | rfl;exact M.1 X;exact M.2 X);refine(ub W _ _ x.q (O.zqt R)).mono ?_;rintro z f ⟨rfl,rfl⟩;exact⟨rfl,xe (x:=x.zpb (zpv x.q)) R,D,H,G⟩
 ·rintro s Z W g x k ⟨rfl,_,_,_⟩ R hd f ⟨he,D,H,G⟩;refine(P f (Y g) _ G ⟨_,H⟩).mono ?_;rintro e h0 ⟨V,j,u,n⟩;refine⟨V,?_,D.trans n fun k E=>.inl E,u,j⟩;rw[he];exact xe (x:=(x.zpb (zpv x.q)).zpb (zpv (zpv x.q))) R
 ·rintro e a ⟨K,_,D,H,G⟩;exact⟨K,G,H,D⟩
theorem zoK{h:Hm}(A:h.Ok): -1<=h.running/\h.running<1000000:=by have:=zaN .id .id 9 A 0;unfold Hm.running vP;split <;> omega
theorem ziq(w:World)(F:Nat->Prop)(p:Nat)(h:Hm)(B:zB w F p h)(I:∀k,F k->k<w.heap.size)(D:h.running= -1):Calls prog 95 #[.pointer (some ⟨p,0,none⟩)] w fun z w'=>z=.returned (.int .i64 h.yield.2)/\zB w' F p h.yield.1/\zo8 F w w':=by
 have J:h.yield=h.pick:=by unfold Hm.yield;rw[if_pos D]
 rw[J];have H:=zc (xT w F p h B);rw[D]at H;have R:=zc B;have M:=zc I;obtain⟨⟨ps,qs,tg,hs⟩,E⟩:=B;have h0:=hs.hx.lt;clear hs E D I J;go_enter func95,ntmps95;go_wp2_with fail;refine H.out.mono ?_;rintro z w1 ⟨rfl,hb⟩;have N:=zc hb;have T:=zc (zbc w1 F p h (R.out.behind hb) fun k A=>zf (M.out k A) hb.size);clear hb;go_wp2_with fail;refine T.out.mono ?_;rintro z w2 ⟨rfl,G,t2⟩;have O:=zc G;have U:=zc t2;clear G t2;go_wp2;go_ret;exact⟨rfl,O.out,(zo8.zo7 N.out:zo8 F w w1).trans U.out fun k A=>.inl A⟩
theorem zir(w:World)(F:Nat->Prop)(p:Nat)(h:Hm)(hh:zB w F p h)(hF:∀k,F k->k<w.heap.size)(hr:h.running≠ -1):Calls prog 95 #[.pointer (some ⟨p,0,none⟩)] w fun z w'=>z=.returned (.int .i64 h.yield.2)/\zB w' F p h.yield.1/\zo8 F w w':=by
 obtain⟨g,hg⟩:=zh ((h.down zpv zpv 9 0).2.1)
 have hy:h.yield=(h.zp9 g).pick:=by unfold Hm.yield;rw[if_neg hr,hg]
 have HR:=zc (xT w F p h hh);have HF:=zc hF;obtain⟨⟨ps,qs,tg,hs⟩,T⟩:=hh;obtain⟨r,Hd,_,k0⟩:=T.root;obtain⟨x,hx⟩:=zeA .id .id 9 T 0 r Hd (by omega);rw[zjD,<-hg]at hx;have Ha:h.zp9 g=h.set g (x.zpb (x.q.yield h.gran)):=by unfold Hm.zp9;rw[hx]
 have hj:=(xQ T g).ok;rw[Ha]at hy hj;rw[hy];have h6:(h.running == -1)=false:=beq_eq_false_iff_ne.2 hr;have h7:=zc hs;have HK:=zc T;have HX:=zc hx;have Hc:=zc hj;have HG:=zc hg;have k4:=zc (zoK T);have Hp:=zc hr;obtain⟨N,hN⟩:=zh h.running
 rw[<-hN]at HR h6 Hp;have k6:=hs.hx.lt;clear hs T hr hF hy hx Ha hj Hd k0 hg hN;have k9:(N == -1)=false:=h6;clear h6;refine(callsIn_wide (n:=4)).1 ?_;refine callsIn_of_wp_marks func95 rfl trivial ?_ rfl;simp only[ntmps95,List.size_toArray,List.length_cons,List.length_nil,Nat.reduceAdd,Nat.reduceSub,Array.replicate_succ,Array.replicate_zero,List.push_toArray,List.append_toArray,List.nil_append,List.cons_append]
 gi_wp2_with fail
 refine⟨trivial,(callsIn_wide.2 HR.out).mono ?_⟩;rintro z w1 ⟨rfl,Hn⟩;have s:=zc Hn;clear Hn HR
 gi_wp2_with fail
 obtain⟨w2,a⟩:=zh (w1.alloc (.cells #[.pointer none] 136))
 have H9:Below w1.heap.size w1 w2:=by rw[a];exact zk w1 _
 have f:w2.heap[w1.heap.size]?=some (.cells #[.pointer none] 136 (0,0)):=by rw[a];exact heap_alloc_new w1 _
 rw[<-a];obtain⟨B,H2⟩:=zh w1.heap.size
 rw[<-H2]at f ⊢;have k1:=zc H2;have ha:=zc H9;have H8:=zc f;clear a H2 H9 f;refine⟨trivial,(callsIn_wide.2 (zbL w2 p (.func (.func 112) #[] #[]) rfl)).mono ?_⟩;rintro z w3 ⟨A,C,rfl,hA,hC,Hv,k2,hc⟩;have S:=World.block_lt_of_cell? _ _ hA;have Q:=World.block_lt_of_cell? _ _ hC;have P:=(zd H8.out).1;have hz:w3.heap[B]?=some (.cells #[.pointer none] 136 (0,0)):=(hc.block B P).trans H8.out;have m:Hid (Below w.heap.size w w3):=zc (zj s.out (zj ha.out hc ha.out.size) s.out.size)
 have HA:=zc hA;have HC:=zc hC;have h8:=zc hz;have Hk:Hid (w.heap.size<=B/\B<w3.heap.size):=zc ⟨by rw[k1.out];exact s.out.size,(zd hz).1⟩;clear hA hC Hv k2 hc P hz
 gi_wp2_with fail
 refine zR rfl (by simp) (gf:=170) (lb:=#[.pointer (some ⟨A,0,none⟩),.pointer (some ⟨C,0,none⟩)]) rfl trivial (enters_of func170 (by kernel_rfl) rfl) ?_;intro fn W1 k8 hb hl;obtain⟨l,H⟩:=zh w3.heap.size
 rw[<-H]at hl hb ⊢;have Hr:=zc H;have H3:B<l:=by rw[H];exact Hk.out.2
 have h0:A<l:=by rw[H];exact S
 have y:C<l:=by rw[H];exact Q
 have Hg:w.heap.size<=l:=by rw[H];exact m.out.size
 have Hi:=Hk.out.1;clear H S Q;have o:Below w.heap.size w W1:=zj m.out hb (by rw[Hr.out];exact m.out.size);have M:W1.cell? ⟨A,0,none⟩=some (.pointer (some ⟨p,0,none⟩)):=(hb.cell (p:=⟨A,0,none⟩) h0).trans HA.out;have O:W1.cell? ⟨C,0,none⟩=some (.func (.func 112) #[] #[]):=(hb.cell (p:=⟨C,0,none⟩) y).trans HC.out;have X:W1.heap[B]?=some (.cells #[.pointer none] 136 (0,0)):=(hb.block B H3).trans h8.out;have He:∀k,F k->k<w.heap.size:=HF.out;have b:∀k,w.heap.size<=k->¬F k:=fun k D e=>by have:=He k e;omega
 have Hl:=b B Hi;have H0:=b l Hg;have Y:=b (l+1) (by omega);have ho:A≠B/\C≠B:=⟨fun e=>by rw[e]at M;rw[zx X]at M;simp at M,fun e=>by rw[e]at O;rw[zx X]at O;simp at O⟩
 have c:=h7.out.kept (w':=W1) (.zo7 o);clear b He;refine(zmB W1 W1 F p A C B l h ps qs tg c HK.out fn _ _ _ _ M O ⟨ho.1,ho.2,h0,y,H3⟩ ⟨Hl,Y⟩ (Below.refl _ _) X hl ?_).mono ?_
 ·clear hl hb o c M O X ho h7 HK HX Hc HA HC h8;intro W q n hl hv;obtain⟨v,hv⟩:=hv;have HV:=zc hv;have HL:=zc hl;have ka:=(zd hv).1
  refine YieldAt.mono (xF (a₁:={ tmps:=#[.pointer (some ⟨p,0,none⟩),undef,.int .i64 0,.pointer (some ⟨B,0,none⟩),.pointer (some ⟨q,0,none⟩),.pointer (some ⟨p,0,none⟩),.int .i64 N,.bool true,.pointer (some ⟨p,0,none⟩),.func (.func 170) #[] #[.pointer (some ⟨A,0,none⟩),.pointer (some ⟨C,0,none⟩)],.pointer (some ⟨q,0,none⟩),.int .i64 n,undef,undef,undef,undef,undef,undef,undef,undef,undef],defers:= [] }) trivial hl _ rfl (R:=fun W'=>W'.heap[B]?=some (.cells #[.pointer (some ⟨q,0,none⟩)] 136 (0,0))/\zo8 (fun k=>k=B∨k=l+1) W W') ?_ ?_) ?_
  ·intro K hK
   gi_wp2
   exact hK
  ·generalize j:yH W l .busy _ _ _ _ _=t;have U:=HL.out.put .busy;rw[j]at U;have Z:t.heap[B]?=some (.cells #[v] 136 (0,0)):=by rw[<-j,zE _ _ _ _ _ _ _ _ (by omega)];exact HV.out
   have zpZ:zo8 (fun k=>k=B∨k=l+1) W t:=by rw[<-j];exact(zF _ _ _ _ _ _ _ _).mono fun k D=>.inr D
   have Hy:=zc U;have Hz:=zc Z;have Ht:=zc zpZ;have I:t.cell? ⟨B,0,none⟩=some v:=by simp[World.cell?,Z]
   have k3:t.frozen? ⟨B,0,none⟩=false:=by simp[World.frozen?,Z]
   have f:=(zd Z).1;clear j U Z zpZ HL HV hl hv
   gi_wp2
   have V:(t.setCell ⟨B,0,none⟩ (.pointer (some ⟨q,0,none⟩))).heap[B]?=some (.cells #[.pointer (some ⟨q,0,none⟩)] 136 (0,0)):=zi Hz.out;have J:zo8 (fun k=>k=B) t (t.setCell ⟨B,0,none⟩ (.pointer (some ⟨q,0,none⟩))):=(zo8.refl _ _).one;refine⟨Hy.out.zpW J (by omega) (by omega),?_,?_⟩
   ·rw[zE _ _ _ _ _ _ _ _ (by omega)];exact V
   ·exact((Ht.out.trans J fun k D=>.inl (.inl D)).trans (zF _ _ _ _ _ _ _ _) fun k D=>.inl (.inr D))
  ·rintro e W' ⟨h1,h2,h3,h4⟩;exact⟨h1,h2,h3,h4⟩
 ·rintro e t ⟨hv,U,hn,zpZ⟩;refine⟨hv,U,?_⟩;intro L hd J;rw[<-HG.out]at hn;have V:L.heap[B]?=some (.cells #[.pointer (some ⟨qs g,0,none⟩)] 136 (0,0)):=by rw[J.block B (zd hn).1 (by omega)];exact hn
  have E:=(c.kept (w':=t) (zY.zpK zpZ fun k d D=>by rcases D with rfl | rfl;exact Hl d;exact Y d)).kept (w':=L) (zY.zpK J fun k d D=>by rw[D]at d;exact Y d);have ht:zo8 F w L:=((zo8.zo7 o:zo8 F w W1).trans zpZ fun k D=>by rcases D with rfl | rfl;exact .inr Hi;exact .inr (by omega)).trans J fun k D=>by rw[D];exact .inr (by omega)
  have I:L.cell? ⟨B,0,none⟩=some (.pointer (some ⟨qs g,0,none⟩)):=zx V;have Hu:=(zd V).1;have Hq:=E.hx.lt;have c1:=E.hx.c1;have h9:=zc E;have Ho:=zc ht;have HD:=zc hd;obtain⟨q,hq⟩:=zh (qs g)
  have HQ:=zc hq;rw[<-hq]at I;clear hn V E ht zpZ J hd hv U c M O X o hb hl h7 HA HC h8 hq s ha m;have k7:prog.follows .mixedOrders=true:=by kernel_rfl
  have Hh:∀W,W.heap=L.heap->Calls prog 145 #[.pointer (some ⟨q,0,none⟩),.int .i64 h.gran] W (xk W (fun k=>F k/\tg k=g+1) q (x.q.yield h.gran)):=fun W hW=>by rw[HQ.out];exact zgm h.gran W _ (qs g) x.q ((h9.out.kept (w':=W) fun k _ _=>by rw[hW]).zqt HX.out)
  have H6:=zc Hh;clear Hh
  gi_wp2
  have Hb:F q:=by obtain⟨_,_,_,_,_,d,_⟩:=(h9.out.zqt HX.out).ex;rw[HQ.out];exact d
  have H7:=zc Hb;have Hs:Hid (∀w4 w5,zo8 (fun k=>k=q) L.drew w4->zo8 F w4 w5->w5.heap[l]?=some (.deferred (some []))):=zc fun w4 w5 h1 h2=>by have Hf:=(zd HD.out).1;rw[h2.block l (zf Hf h1.size) H0,h1.block l Hf (fun e=>H0 (e▸H7.out))];exact HD.out
  clear Hb
  first | gi_region_with_o ((refine⟨trivial,(callsIn_wide.2 (H6.out L.drew rfl)).mono ?_⟩;rintro z w4 ⟨rfl,H4,u⟩)) | fail "region"
  all_goals
   have E:HS L.drew F p h ps qs tg:=h9.out.kept fun _ _ _=>rfl;have hi:=E.ztj (w':=w4) (q':=x.q.yield h.gran) HX.out (by rw[<-HQ.out];exact u) (by rw[<-HQ.out];exact H4);have k5:=zc hi;have Hj:=zc u;have HP:=zc (zbc w4 F p (h.set g (x.zpb (x.q.yield h.gran))) ⟨⟨_,_,_,hi⟩,Hc.out⟩ fun k D=>zf (HF.out k D) (Nat.le_trans Ho.out.size u.size));clear E hi H4 u I c1 Hq Hu H6
   gi_wp2_with fail
   refine⟨trivial,(callsIn_wide.2 HP.out).mono ?_⟩;rintro z w5 ⟨rfl,h5,t5⟩;have Hw:=zc (Hs.out w4 w5 Hj.out t5);have H5:=zc h5;have T5:=zc t5;clear h5 t5 HP
   gi_wp2
   refine⟨by simp,.inl ⟨_,_,rfl,run_takeDeferred Hw.out,?_⟩⟩;refine⟨_,results_tmp rfl _ _ _,rfl,H5.out.kept (fun k D d=>World.putObj_heap_other (fun e=>H0 (e▸d))),?_⟩;refine zo8.trans (((Ho.out.trans (Hj.out.zqS) fun k D=>.inl (D▸H7.out)).trans T5.out fun k D=>.inl D):zo8 F w w5) (G:=fun k=>k=l) ⟨rfl,rfl,rfl,by simp,fun k _ D=>World.putObj_heap_other D⟩ fun k D=>.inr (by rw[D];exact Hg)
theorem zdB(w:World)(F:Nat->Prop)(p:Nat)(h:Hm)(D:zB w F p h):Calls prog 95 #[.pointer (some ⟨p,0,none⟩)] w fun z w'=>z=.returned (.int .i64 h.yield.2)/\yW w F p h.yield.1 w':=by
 by_cases E:h.running= -1
 ·exact(ziq w _ p h D.zsK (fun k A=>A.2) E).mono fun z w' B=>⟨B.1,B.2.1.mono fun k _ A=>.inl A.1,B.2.2.mono fun k A=>A.1⟩
 ·exact(zir w _ p h D.zsK (fun k A=>A.2) E).mono fun z w' B=>⟨B.1,B.2.1.mono fun k _ A=>.inl A.1,B.2.2.mono fun k A=>A.1⟩
structure JCh(F:Nat->Prop)(W1:World)(p:Nat)(h:Hm)(ps:Nat->Option Nat)(qs:Nat->Nat)(A C B l:Nat)(ns:Int)(fn:FuncId)(T:Array Value)(pm:Array Tmp)(asg bd:Code)(h':Hm)(W:World):Prop where
 ok:h'.Ok
 zsd:yV h h'
 hs:∃tg,HS W (Ext F W1 W) p h' ps qs tg
 t:zo8 (fun k=>F k∨k=l+1) W1 W
 a:W.cell? ⟨A,0,none⟩=some (.pointer (some ⟨p,0,none⟩))
 c:W.cell? ⟨C,0,none⟩=some (.func (.func 112) #[] #[])
 b:W.heap[B]?=some (.cells #[.int .u64 ns] 33 (0,0))
 lr:yD W l .ready fn T pm asg bd
theorem Ext.no{F:Nat->Prop}{B W:World}{k:Nat}(h:¬F k)(hk:k<B.heap.size):¬Ext F B W k:=by
 rintro(A | A)
 ·exact h A
 ·omega
theorem znQ{ns:Int}{k g:Nat}{h:Hm}{x:Gr}{fin:Hm×Nat×Int}(D:h.gs g=some x)(hd:Hm.down zpv (vQ ns) (k+1) h g=fin)(A:0<=fin.2.2):0<=x.q.cur:=by
 by_cases B:x.q.cur<0
 ·unfold Hm.down at hd;rw[D]at hd;simp only at hd;have e:(zpv x.q).cur=x.q.cur:=rfl;rw[e,if_pos (.inl B)]at hd;rw[<-hd]at A;have:(0:Int)<=x.q.cur:=A;omega
 ·omega
theorem zfA(ns:Int)(w:World)(F:Nat->Prop)(p:Nat)(h:Hm)(hh:zB w F p h)(hF:∀k,F k->k<w.heap.size)(hr:h.running≠ -1)(k6:0<=ns)(K1:ns<=1000000000):
 Calls prog 99 #[.pointer (some ⟨p,0,none⟩),.int .u64 ns] w fun z w'=>z=.returned (.int .i64 0)/\zB w' (Ext F w w') p (h.zpg ns)/\zo8 F w w':=by
 have HF:=zc hF;obtain⟨fin,O⟩:=zh (h.down zpv (vQ ns) 9 0)
 have k2:h.zpg ns=fin.1:=by unfold Hm.zpg;rw[O]
 have k3:0<=fin.2.2:=by
  have e:=zgw h ns 9 0;rw[<-O]at e;have kb:=zaN .id .id 9 hh.2 0;rw[<-e]at kb;by_cases h0:0<=fin.2.2
  ·exact h0
  ·refine absurd ?_ hr;unfold Hm.running vP;rw[<-e,if_pos (by omega)]
 have H0:=(vm .id (.zpg ns) 9 hh.2 0).ok;rw[<-O]at H0;rw[k2];have HR:=zc (xT w F p h hh);have hi:(h.running == -1)=false:=beq_eq_false_iff_ne.2 hr;obtain⟨⟨ps,Q,tg,hs⟩,Hu⟩:=hh;have Ht:=zc hs;have HK:=zc Hu;have Hl:=zc O;have km:=zc k3;have K7:=zc H0;obtain⟨N,hN⟩:=zh h.running
 rw[<-hN]at HR hi;have K5:=hs.hx.lt;have HN:=zc hN;clear hs Hu hr hF k2 k3 H0 O hN HR;have K9:(N == -1)=false:=hi;clear hi;refine(callsIn_wide (n:=4)).1 ?_;refine callsIn_of_wp_marks func99 rfl trivial ?_ rfl;simp only[ntmps99,List.size_toArray,List.length_cons,List.length_nil,Nat.reduceAdd,Nat.reduceSub,Array.replicate_succ,Array.replicate_zero,List.push_toArray,List.append_toArray,List.nil_append,List.cons_append]
 gi_wp2_with fail
 obtain⟨w1,t⟩:=zh (w.alloc (.cells #[.int .u64 ns] 33))
 have Hh:Below w.heap.size w w1:=by rw[t];exact zk w _
 have ho:w1.heap[w.heap.size]?=some (.cells #[.int .u64 ns] 33 (0,0)):=by rw[t];exact heap_alloc_new w _
 rw[<-t];obtain⟨B,Hg⟩:=zh w.heap.size
 rw[<-Hg]at ho ⊢;have kv:=zc Hg;have k1:=zc Hh;have Hw:=zc ho;have H4:=zc (xT w1 F p h ⟨⟨ps,Q,tg,Ht.out.kept (.zo7 Hh)⟩,HK.out⟩);rw[<-HN.out]at H4;clear t Hh ho Hg;refine⟨trivial,(callsIn_wide.2 H4.out).mono ?_⟩;rintro z w2 ⟨rfl,H6⟩;have u:w2.heap[B]?=some (.cells #[.int .u64 ns] 33 (0,0)):=(H6.block B (zd Hw.out).1).trans Hw.out;have H7:=zc (zj k1.out H6 k1.out.size);have kl:=zc u;have P:=zx u;have h6:=(zd u).1;clear H6 u H4
 gi_wp2_with fail
 refine⟨trivial,(callsIn_wide.2 (zbL w2 p (.func (.func 112) #[] #[]) rfl)).mono ?_⟩;rintro z w3 ⟨A,C,rfl,hA,hC,kg,ky,Ha⟩;have h9:=World.block_lt_of_cell? _ _ hA;have h8:=World.block_lt_of_cell? _ _ hC;have Hf:w3.heap[B]?=some (.cells #[.int .u64 ns] 33 (0,0)):=(Ha.block B h6).trans kl.out;have Hb:Hid (Below w.heap.size w w3):=zc (zj H7.out Ha H7.out.size);have HA:=zc hA;have HC:=zc hC;have kj:=zc Hf;have k5:Hid (w.heap.size<=B/\B<w3.heap.size):=zc ⟨by rw[kv.out];exact zg _,(zd Hf).1⟩;have S:Hid (w.heap.size<=A/\w.heap.size<=C):=zc (by have:=H7.out.size;exact⟨by omega,by omega⟩)
 clear hA hC kg ky Ha h6 Hf P
 gi_wp2_with fail
 refine zR rfl (by simp) (gf:=170) (lb:=#[.pointer (some ⟨A,0,none⟩),.pointer (some ⟨C,0,none⟩)]) rfl trivial (enters_of func170 (by kernel_rfl) rfl) ?_;intro fn Z K6 hb hl;obtain⟨l,V⟩:=zh w3.heap.size
 rw[<-V]at hl hb ⊢;have k7:=zc V;have kd:B<l:=by rw[V];exact k5.out.2
 have Hq:A<l:=by rw[V];exact h9
 have Hj:C<l:=by rw[V];exact h8
 have ks:w.heap.size<=l:=by rw[V];exact Hb.out.size
 have Ka:=k5.out.1;clear V h9 h8;have o:Below w.heap.size w Z:=zj Hb.out hb (by rw[k7.out];exact Hb.out.size);have ht:Z.cell? ⟨A,0,none⟩=some (.pointer (some ⟨p,0,none⟩)):=(hb.cell (p:=⟨A,0,none⟩) Hq).trans HA.out;have hy:Z.cell? ⟨C,0,none⟩=some (.func (.func 112) #[] #[]):=(hb.cell (p:=⟨C,0,none⟩) Hj).trans HC.out;have H9:Z.heap[B]?=some (.cells #[.int .u64 ns] 33 (0,0)):=(hb.block B kd).trans kj.out;have kq:∀k,F k->k<w.heap.size:=HF.out;have k9:∀k,w.heap.size<=k->¬F k:=fun k D e=>by have:=kq k e;omega
 have k4:=hl.lt;have kf:∀W k,w.heap.size<=k->k<Z.heap.size->¬Ext F Z W k:=fun W k h1 r=>Ext.no (k9 k h1) r;have X:=zc kf;refine(zat 1 zpv (vQ ns) .id (.zpg ns) (fun _ h' W=>JCh F Z p h ps Q A C B l ns fn _ _ _ _ h' W) p A C (l+1) h.credit h.gran ps Q (zkA h) fin ?_ ?_ ?_ h Z ⟨HK.out,.refl h,⟨tg,(Ht.out.kept (.zo7 o)).mono fun k _ D=>.inl D⟩,.refl _ _,ht,hy,H9,hl⟩ Hl.out.symm).mono ?_
 ·rintro s h' W ⟨J,I,⟨b,E⟩,U,ha,hc,_,_⟩;refine⟨J,?_,fun g x f=>⟨?_,E.gxs f⟩,ha,hc⟩
  ·have:=E.hx;rw[I.cr,I.gr]at this;exact this
  ·rcases I.gs g with⟨_,r⟩ | ⟨x0,y,h1,r,h3,h4⟩
   ·rw[f]at r;cases r
   ·rw[f]at r;cases r;rw[h4];exact zcR HK.out h1
 ·rintro s h' W g x ⟨J,I,⟨b,E⟩,U,ha,hc,hb,M⟩ f;refine(ub W _ _ x.q (E.zqt f)).mono ?_;rintro z Y ⟨rfl,rfl⟩;rw[xe (x:=x.zpb (zpv x.q)) f];exact⟨rfl,J,I,⟨b,E⟩,U,ha,hc,hb,M⟩
 ·rintro s h' W g x k _ f hd Y hj;have Hp:=znQ f hd km.out;rw[xe (x:=x.zpb (zpv x.q)) f]at hj ⊢;obtain⟨J,I,⟨b,E⟩,U,ha,hc,H8,M⟩:=hj;have K3:=X.out Y B (by omega) (by omega);have kx:=X.out Y l (by omega) (by omega);have m:=X.out Y (l+1) (by omega) k4;have kt:=X.out Y A S.out.1 (by omega);have kr:=X.out Y C S.out.2 (by omega);obtain⟨q,hq⟩:=zh (Q g)
  rw[<-hq];have K0:=zc E;have H3:=zc U;have Hz:=zc M;have Hk:=zc H8;have HQ:=zc hq;have HX:=zc f;have hn:=zc J;have ko:=zc I;have k8:=zc Hp;have k0:=zc ha;have Hs:=zc hc;have kz:=(zd H8).1;clear E U H8 hq f J I hd ha hc hb o ht hy H9 hl;refine YieldAt.mono (xF (a₁:=?a1) trivial M _ rfl (R:=fun a=>a.heap[B]?=some (.cells #[.int .u64 ns] 33 (0,0))/\(∃tg'',HS a (Ext F Z a) p (h'.set g (x.zpb (x.q.zpg ns))) ps Q tg'')/\zo8 (fun k=>Ext F Z Y k∨k=l+1) Y a) ?has ?hbo) ?hmo
  case has=>
   intro K hK
   gi_wp2
   exact hK
  case hbo=>
   generalize v:yH Y l .busy _ _ _ _ _=W2;have Hc:=Hz.out.put .busy;rw[v]at Hc;have He:W2.heap.size=Y.heap.size:=by rw[<-v];simp[yH]
   have zpZ:zo8 (fun k=>k=l+1) Y W2:=by rw[<-v];exact zF _ _ _ _ _ _ _ _
   have L:W2.heap[B]?=some (.cells #[.int .u64 ns] 33 (0,0)):=by rw[zpZ.block B kz (by omega)];exact Hk.out
   have hz:HS W2 (Ext F Z Y) p h' ps Q b:=K0.out.kept (zY.zpK zpZ fun k H D=>m (D▸H));have Hd:=(hn.out.q g x HX.out).1;obtain⟨e,he,Hy⟩:∃e∈x.q.l,e.id=x.q.cur:=Hd.cur.resolve_left (by have:=k8.out;omega);have h7:x.q.get x.q.cur=some e:=by rw[<-Hy];exact zou Hd.ids he
   have H2:=zc (zfp ns e W2 _ (Q g) x.q (hz.zqt HX.out) h7 k6 K1);rw[<-HQ.out]at H2;have kn:=zc Hc;have kp:=zc L;have kc:=zc zpZ;have kh:=zc hz;have ki:=zc He;have hg:W2.cell? ⟨B,0,none⟩=some (.int .u64 ns):=zx L;have kk:=(zd L).1;clear v Hc L zpZ hz He Hd he Hy h7 M Hz
   gi_wp2_with fail
   refine⟨trivial,(CallsIn.inRound (l+1) (callsIn_wide.2 H2.out)).mono ?_⟩;rintro z W3 ⟨rfl,Hv,T⟩;have d:=kh.out.zsc (q':=x.q.zpg ns) HX.out T (by rw[<-HQ.out];exact Hv);have H5:=zc d;have c:=zc T;clear Hv d T hg H2
   gi_wp2
   have Ho:=kn.out.zpW c.out (fun D=>kx D.1) (fun D=>m D.1);have ke:W3.heap[B]?=some (.cells #[.int .u64 ns] 33 (0,0)):=(c.out.block B kk fun D=>K3 D.1).trans kp.out;have K4:=c.out.size;have He:=ki.out;have ku:=H3.out.size;refine⟨Ho,?_,⟨_,(H5.out.kept (w':=yH W3 l .ready _ _ _ _ _) ?_).mono ?_⟩,?_⟩
   ·rw[zE _ _ _ _ _ _ _ _ (by omega)];exact ke
   ·refine zY.zpK (zF _ _ _ _ _ _ _ _) fun k H D=>?_;rcases H with H | H
    ·exact m (D▸H)
    ·omega
   ·intro k D H;rcases H with(H | H) | H
    ·exact .inl H
    ·exact .inr ⟨H.1,D⟩
    ·exact .inr ⟨by omega,D⟩
   ·refine((kc.out.mono fun k D=>.inr D).trans c.out fun k D=>.inl (.inl D.1)).trans (zF _ _ _ _ _ _ _ _) fun k D=>.inl (.inr D)
  case hmo=>
   rintro e a ⟨h1,r,h3,h4,h5⟩;have a1:=yB hn.out HX.out (zqR (hn.out.q g x HX.out).1 ns) fun i=>zdd ns i;have ku:=H3.out.size;have j:∀k,k<Y.heap.size->¬Ext F Z Y k->k≠l+1->a.heap[k]?=Y.heap[k]?:=fun k D n1 n2=>h5.block k D (by rintro(e | e);exact n1 e;exact n2 e);have Hn:=World.block_lt_of_cell? _ _ k0.out;have Hr:=World.block_lt_of_cell? _ _ Hs.out;refine⟨h1,a1.ok,ko.out.trans a1.zsd,h4,H3.out.trans h5 fun k D=>?_,?_,?_,h3,r⟩
   ·rcases D with(D | D) | D
    ·exact .inl (.inl D)
    ·exact .inr D.1
    ·exact .inl (.inr D)
   ·refine Eq.trans ?_ k0.out;simp[World.cell?,j A Hn kt (by omega)]
   ·refine Eq.trans ?_ Hs.out;simp[World.cell?,j C Hr kr (by omega)]
 ·rintro e W2 ⟨hv,J,I,⟨b,E⟩,U,ha,hc,ka,M⟩;refine⟨hv,M,?_⟩;intro W3 hd T;have d:=E.kept (w':=W3) (zY.zpK T fun k H D=>by rw[D]at H;exact X.out _ (l+1) (by omega) k4 H);have H5:=zc d;have c:Hid (zo8 F w W3):=zc (((zo8.zo7 o:zo8 F w Z).trans U fun k D=>by rcases D with D | D;exact .inl D;exact .inr (by omega)).trans T fun k D=>.inr (by rw[D];omega));have K8:Hid (W2.heap.size<=W3.heap.size):=zc T.size;have K2:Hid (w.heap.size<=Z.heap.size):=zc o.size;have HD:=zc hd;have Hi:=zc J;clear hd d T E U ha hc ka M hv ht hy H9 hb o hl
  gi_wp2
  refine⟨by simp,.inl ⟨_,_,rfl,run_takeDeferred HD.out,?_⟩⟩;refine⟨_,results_tmp rfl _ _ _,rfl,⟨⟨ps,Q,b,(H5.out.kept (w':=W3.putObj l (.deferred none)) ?_).mono ?_⟩,Hi.out⟩,?_⟩
  ·exact fun k D H=>World.putObj_heap_other (fun e=>X.out _ l (by omega) (by omega) (e▸H))
  ·intro k D H;rcases H with H | ⟨h1,r⟩
   ·exact .inl H
   ·exact .inr ⟨by have:=K2.out;omega,D⟩
  ·exact c.out.trans (G:=fun k=>k=l) ⟨rfl,rfl,rfl,by simp,fun k _ D=>World.putObj_heap_other D⟩ fun k D=>.inr (by rw[D];exact ks)
theorem zgL(ns:Int)(w:World)(F:Nat->Prop)(p:Nat)(h:Hm)(G:zB w F p h)(H:h.running≠ -1)(B:0<=ns)(D:ns<=1000000000):
 Calls prog 99 #[.pointer (some ⟨p,0,none⟩),.int .u64 ns] w fun z w'=>z=.returned (.int .i64 0)/\yW w F p (h.zpg ns) w':=
 (zfA ns w _ p h G.zsK (fun k A=>A.2) H B D).mono fun z w' E=>⟨E.1,E.2.1.mono fun k _ A=>A.imp (fun a=>a.1) id,E.2.2.mono fun k A=>A.1⟩
end
section
attribute [local go_sem ↓] Go.wp_at_zero Go.wp_at_succ
def zca(rg:List Int)(fr n:Nat):List Value:=rg.map (Value.int .i64)++ [.int .i64 fr,.int .i64 n]
structure Lx(w:World)(l:Nat)(rg:List Int)(fr n:Nat):Prop where
 zp5:w.heap[l]?=some (.cells (zca rg fr n).toArray 219 (0,0))
 len:rg.length=64
 fr:fr<64
 n:n<=64
theorem Lx.lt{w:World}{l:Nat}{rg:List Int}{fr n:Nat}(h:Lx w l rg fr n):l<w.heap.size:=(zd h.zp5).1
theorem Lx.zpe{w:World}{l:Nat}{rg:List Int}{fr n:Nat}(h:Lx w l rg fr n):∀j,w.frozen? ⟨l,j,none⟩=false:=by intro j;simp[World.frozen?,h.zp5]
theorem Lx.c2{w:World}{l:Nat}{rg:List Int}{fr n:Nat}(h:Lx w l rg fr n):w.cell? ⟨l,64,none⟩=some (.int .i64 fr)/\w.cell? ⟨l,65,none⟩=some (.int .i64 n):=by have A:=h.len;constructor <;> simp[World.cell?,h.zp5,zca,A]
theorem Lx.rg{w:World}{l:Nat}{rg:List Int}{fr n:Nat}(h:Lx w l rg fr n){i:Nat}{x:Int}(A:rg[i]?=some x):w.cell? ⟨l,i,none⟩=some (.int .i64 x):=by have B:=(ze A).1;simp only[World.cell?,h.zp5,zca];simp only[List.getElem?_toArray];rw[List.getElem?_append_left (by simpa using B)];simp[A]
theorem Lx.of{w w':World}{l:Nat}{rg:List Int}{fr n:Nat}(h:Lx w l rg fr n)(hb:w'.heap[l]?=w.heap[l]?):Lx w' l rg fr n:=⟨hb.trans h.zp5,h.len,h.fr,h.n⟩
theorem Lx.zrg{w:World}{l:Nat}{rg:List Int}{fr n:Nat}(h:Lx w l rg fr n){i:Nat}(B:i<64)(x:Int):Lx (w.setCell ⟨l,i,none⟩ (.int .i64 x)) l (rg.set i x) fr n:=by refine⟨?_,by simp[h.len],h.fr,h.n⟩;rw[zi h.zp5];have A:=h.len;simp[zca,List.set_append_left,A,B]
theorem Lx.setF{w:World}{l:Nat}{rg:List Int}{fr n:Nat}(h:Lx w l rg fr n)(f:Nat)(A:f<64):Lx (w.setCell ⟨l,64,none⟩ (.int .i64 f)) l rg f n:=by refine⟨?_,h.len,A,h.n⟩;rw[zi h.zp5];have B:=h.len;simp[zca,List.set_append_right,B]
theorem Lx.setN{w:World}{l:Nat}{rg:List Int}{fr n:Nat}(h:Lx w l rg fr n)(m:Nat)(hm:m<=64):Lx (w.setCell ⟨l,65,none⟩ (.int .i64 m)) l rg fr m:=by refine⟨?_,h.len,h.fr,hm⟩;rw[zi h.zp5];have A:=h.len;simp[zca,List.set_append_right,A]
structure Lq(rg:List Int)(fr:Nat)(q:List Nat):Prop where
 at_:∀i,(h:i<q.length)->rg[(fr+i) %64]?=some ((q[i]:Nat):Int)
def zG(w:World)(l:Nat)(q:List Nat):Prop:=∃rg fr,Lx w l rg fr q.length/\Lq rg fr q
theorem zG.lt{w:World}{l:Nat}{q:List Nat}(h:zG w l q):l<w.heap.size:=by obtain⟨rg,fr,h,_⟩:=h;exact h.lt
theorem zG.of{w w':World}{l:Nat}{q:List Nat}(h:zG w l q)(hb:w'.heap[l]?=w.heap[l]?):zG w' l q:=by obtain⟨rg,fr,h,A⟩:=h;exact⟨rg,fr,h.of hb,A⟩
def z66:Array Value:=(List.replicate 66 (Value.int .i64 0)).toArray
theorem znR(w:World):(zeroValue 219).run prog w=.ok (.agg z66) w:=by kernel_rfl
theorem zmC(w:World):Calls prog 73 #[] w fun z w'=>∃l,z=.returned (.pointer (some ⟨l,0,none⟩))/\w.heap.size<=l/\zG w' l []/\Below w.heap.size w w':=by have hz:=znR w;go_enter func73,ntmps73;go_wp2;go_ret;refine⟨_,rfl,zg _,⟨List.replicate 64 0,0,⟨?_,by simp,by omega,by simp⟩,⟨fun i A=>by simp at A⟩⟩,(Below.refl _ w).alloc (zg _) _⟩;rw[heap_alloc_new];rfl
theorem zdC(w:World)(l:Nat)(q:List Nat)(h:zG w l q):Calls prog 132 #[.pointer (some ⟨l,0,none⟩)] w fun z w'=>z=.returned (.int .i64 q.length)/\w'=w:=by
 obtain⟨rg,fr,h,B⟩:=h;obtain⟨n,A⟩:=zh q.length
 rw[<-A]at h ⊢;obtain⟨c1,c2⟩:=h.c2;have hl:=h.lt;clear h B A;go_enter func132,ntmps132;go_wp2;go_ret;exact⟨rfl,rfl⟩
theorem zdD:(prog.info? 3).map (fun i=>(i.zero,i.size,i.bytes))=some (some (.int .i64 0),1,8):=by kernel_rfl
theorem zjH(a b m:Nat)(ha:a<64)(hb:b<=64)(hm:m=(a+b) %64):IntKind.i64.wrap ((a:Int)+(b:Int))=(a:Int)+(b:Int)/\wrap64 ((a:Int)+(b:Int))=(a:Int)+(b:Int)/\Int.tmod ((a:Int)+(b:Int)) 64=(m:Int)/\((a:Int)+(b:Int)) %64=(m:Int):=by
 refine⟨?_,?_,?_,?_⟩
 ·simp only[IntKind.wrap,IntKind.signed,IntKind.bits];simp;omega
 ·unfold wrap64;omega
 ·rw[Int.tmod_eq_emod_of_nonneg (by omega)];omega
 ·omega
def pv(l:List Nat):List Value:=l.map fun n:Nat=>Value.int .i64 (n:Int)
theorem znS(l:List Nat)(k:Nat)(h:k<l.length):pv (l.take (k+1))=pv (l.take k)++ [.int .i64 (l[k]:Nat)]:=by unfold pv;rw[List.take_succ_eq_append_getElem h,List.map_append];rfl
theorem zeC(w:World)(l:Nat)(q:List Nat)(h:zG w l q):Calls prog 167 #[.pointer (some ⟨l,0,none⟩)] w fun z w'=>∃v,z=.returned v/\w'.ownsRow w.heap.size 3 1 v q.length (pv q)/\Below w.heap.size w w':=by
 have T:=zc (zdC w l q h);obtain⟨i0,hi,p,y,s⟩:=info_parts zdD;obtain⟨rg,fr,h,Q⟩:=h;have HL:=zc h;have S:=zc Q;obtain⟨n,K⟩:=zh q.length
 rw[<-K]at T h ⊢;have P:=zc K;have hl:=h.lt;have h1:=h.n;have C:=h.fr;clear h Q K;go_enter func167,ntmps167;go_wp2_with fail;refine T.out.mono ?_;rintro z w2 ⟨rfl,hw⟩;obtain rfl:=hw.symm;go_wp2_with fail;go_loopw [3,7] (fun v i wr=>∃(k:Nat) (O:Option Addr) (N:Nat),k<=n/\i=.int .i64 k/\v=.slice O k N/\wr.ownsRow w.heap.size 3 1 (.slice O k N) k (pv (q.take k))/\Below w.heap.size w wr) (fun _ i _=>n-(intOf i).toNat)
 case atStart=>exact⟨0,none,0,by omega,rfl,rfl,by simpa[pv]using World.ownsRow_nil _ _ _ _,Below.refl _ _⟩
 case round=>
  obtain⟨k,O,N,L,rfl,rfl,H,hb⟩:=hrel;have a:=zc H;have b:=zc hb;clear H hb;have h2:=b.out.size;by_cases c:k<n
  ·have G:=HL.out.of (w':=wr) (b.out.block l hl);have Y:k<q.length:=by rw[<-P.out];exact c
   have D:=G.rg (S.out.at_ k Y);obtain⟨m,hm⟩:=zh ((fr+k) %64)
   obtain⟨x,f⟩:∃x:Nat,x=q[k]:=⟨_,rfl⟩
   rw[<-hm,<-f]at D;have HX:=zc f;have HM:=zc hm;have h0:m<64:=by omega
   obtain⟨W,c2⟩:=G.c2;have g:=G.lt;have h3:(0:Int)<=(m:Int):=by omega
   have h4:(m:Int) <64:=by omega
   obtain⟨R,I,X,J⟩:=zjH fr k m C (by omega) hm;clear f hm G;go_upto_region 5 with(fail)
   have V:wr.drew.ownsRow w.heap.size 3 1 (.slice O k N) k (pv (q.take k)):=a.out;have u:=zc V;clear V;go_region_held3 (fun w'=>w'.cell? ⟨l,64,none⟩=some (.int .i64 fr)/\w'.cell? ⟨l,m,none⟩=some (.int .i64 x)) (go_keep)
    ((
     clear R I X J;refine step_append_lies _ (by rfl) _ _ _ (by rfl) w.heap.size 3 i0 _ 1 8 underlying43 hi p y s rfl (by omega) (.slice O k N) k (pv (q.take k)) (by rfl) (u.out.alloc _)
      ⟨wr.heap.size,0,none⟩ 1 1 [.int .i64 x] (by rfl) (by rfl) (World.news_of_block (cs:=#[.int .i64 x]) (t:=3) (fr:=(0,0)) (heap_alloc_new wr.drew _)) (by simp[Value.oneCell'])
      (by omega) (by unfold maxLen;omega) (by omega) (by first | omega | (simp;omega)) (wr.heap.size+1) (by first | rfl | simp) ?_
     intro g2 cap2 Z B A F j;have d:=zc B;have U:Below w.heap.size w Z:=by refine(zv (b.out.alloc (by omega) (.cells #[.int .i64 x] 3))).grown A (by simp;omega) ?_;intro k L;exact(a.out.lt k L).1
     have o:=zc U;have M:Z.heap[l]?=(wr.drew.alloc (.cells #[.int .i64 x] 3)).heap[l]?:=A.block l (by simp;omega) (fun e'=>by have:=a.out.lt l e'.symm;omega);have E:(wr.drew.alloc (.cells #[.int .i64 x] 3)).heap[l]?=wr.heap[l]?:=Below.heap_alloc _ _ _ g;have s0:Z.cell? ⟨l,64,none⟩=some (.int .i64 fr):=by rw[<-W];simp[World.cell?,M.trans E]
     have s1:Z.cell? ⟨l,m,none⟩=some (.int .i64 x):=by rw[<-D];simp[World.cell?,M.trans E]
     clear B A F j U M E))
   go_wp2_with fail;go_roundw
   case rel=>
    refine⟨k+1,_,_,by omega,by go_num,rfl,?_,o.out⟩;rw[znS q k Y,<-HX.out];exact d.out
   case measure=>simp[intOf];omega
  ·have r:k=n:=by omega
   subst r;go_wp2;go_ret;refine⟨_,rfl,?_,b.out⟩;have:=a.out;rw[List.take_of_length_le (by rw[<-P.out];exact zg _)]at this;exact this
end
end Go.Proofs.YtmgekibncmnmiaaGreatDoor
