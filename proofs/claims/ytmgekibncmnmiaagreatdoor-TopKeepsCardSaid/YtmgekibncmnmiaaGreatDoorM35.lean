/- Parts of the proof of the law TopKeeps: contracts of the functions that it reaches, and plain laws of what they compute. Conditions: those in each statement. -/
import Derived.Test.YtmgekibncmnmiaaGreatDoorM10
import Derived.Test.YtmgekibncmnmiaaGreatDoorM33
set_option linter.unusedVariables false
set_option maxRecDepth 100000
set_option maxHeartbeats 4000000
open Go.Proofs.Tryz
namespace Go.Proofs.YtmgekibncmnmiaaGreatDoor
open Go Go.RowKit Go.ChangeShapes Go.WideShapes
section
open Go.Shelf
attribute [local go_sem ↓] Go.wp_at_zero Go.wp_at_succ
attribute [local go_sem] Oper.semAt_some
theorem znW(l zs:List Int)(g n c:Nat)(zqg:Int)(w:World)(J:n=zs.length)(D:1<=n)(A:n<=12)(H:IR w g zs)(M:zbe l zs):
 Calls prog 254 #[.slice (some ⟨g,0,none⟩) n c,.int .i64 0,.int .i64 n,.int .i64 zqg] w fun z w'=>(∃v,z=.returned v)/\∃B,IR w' g B/\zbe l B/\zo8 (fun k=>k=g) w w':=by
 have R:=zc (zek l zs g n c w J D A H M);clear H M J;go_enter func254,ntmps254;go_wp2_with fail;go_loopw [1,2] (fun a b wr=>a=.int .i64 0/\b=.int .i64 n/\wr=w) (fun _ _ _=>0)
 case atStart=>exact⟨rfl,rfl,rfl⟩
 case round=>
  obtain⟨rfl,rfl,hw⟩:=hrel;subst hw;go_wp2_with fail;refine R.out.mono ?_;rintro z w2 ⟨⟨v,rfl⟩,B,G,E,I⟩;have H1:=zc G;have O:=zc E;have N:=zc I;clear G E I;go_wp2;refine bodyPost_ret (results_none rfl _ _ _) rfl ?_;exact⟨⟨_,rfl⟩,B,H1.out,O.out,N.out⟩
theorem zmH(l zs:List Int)(g n c:Nat)(w:World)(J:n=zs.length)(D:1<=n)(A:n<=12)(H:IR w g zs)(M:zbe l zs):
 Calls prog 232 #[.slice (some ⟨g,0,none⟩) n c] w fun z w'=>(∃v,z=.returned v)/\∃B,IR w' g B/\zbe l B/\zo8 (fun k=>k=g) w w':=by
 have U:=zc (fun zqg=>znW l zs g n c zqg w J D A H M);have O:=zc (zmG (n:Int) w (by omega) (by omega));have h0:IntKind.u64.wrap (n:Int)=(n:Int):=by simp only[IntKind.wrap,IntKind.signed,IntKind.bits];simp;omega
 clear H M J;go_enter func232,ntmps232;go_wp2_with fail;refine O.out.mono ?_;rintro z T ⟨⟨k,rfl⟩,hw⟩;obtain rfl:=hw.symm;go_wp2_with fail;refine(U.out k).mono ?_;rintro z T ⟨⟨v,rfl⟩,B,G,E,I⟩;have H1:=zc G;have R:=zc E;have N:=zc I;clear G E I;go_wp2;go_end0;exact⟨⟨_,rfl⟩,B,H1.out,R.out,N.out⟩
theorem zix(w:World)(v:Value)(h1:v.oneCell'=true):
 Calls prog 198 #[v] w fun z w'=>∃A,z=.returned (.func (.func 233) #[] #[.pointer (some ⟨A,0,none⟩)])/\w'.cell? ⟨A,0,none⟩=some v/\w.heap.size<=A/\Below w.heap.size w w':=by
 go_enter func198,ntmps198;go_wp2;go_ret;exact⟨_,rfl,zx (heap_alloc_new w _),zg _,zk w _⟩
theorem zg0(m:Nat)(J:Nat->World->Prop)(l:List Int)(a:Option Addr)(c A L:Nat)(o:l.length<=64)
 (X:∀k W,J k W->W.cell? ⟨A,0,none⟩=some (.slice a l.length c)/\ym W a (jv l))
 (d:∀k x W,J k W->l[k]?=some x->YieldAt Fence.wide (m+1) prog L #[.int .i64 x] W fun e Z=>e=.returned (.bool true)/\J (k+1) Z)
 (O:World) (E:J 0 O):
 CallsIn Fence.wide (m+2) prog 233 #[.func (.yield L) #[] #[],.pointer (some ⟨A,0,none⟩)] O fun e Z=>(∃v,e=.returned v)/\J l.length Z:=by
 obtain⟨b,_⟩:=X 0 O E;have h1:=World.block_lt_of_cell? _ _ b;obtain⟨n,M⟩:=zh l.length
 rw[<-M]at b o;have j:=zc M;have U:=zc E;refine callsIn_of_wp func233 rfl trivial ?_ rfl;simp only[ntmps233,List.size_toArray,List.length_cons,List.length_nil,Nat.reduceAdd,Nat.reduceSub,Array.replicate_succ,Array.replicate_zero,List.push_toArray,List.append_toArray,List.nil_append,List.cons_append];rw[<-M];have g:=zc X;have h:=zc d;clear M X d
 gi_wp2
 gi_loopw [7] (fun i wr=>∃k:Nat,k<=n/\i=.int .i64 k/\J k wr) (fun i _=>n-(intOf i).toNat)
 case atStart=>exact⟨0,by omega,rfl,U.out⟩
 case round=>
  obtain⟨k,hk,rfl,I⟩:=hrel;have D:=zc I;by_cases N:k<n
  ·obtain⟨_,f⟩:=g.out k wr I;have B:k<l.length:=by rw[<-j.out];exact N
   obtain⟨x,Y⟩:∃x,l[k]?=some x:=⟨_,List.getElem?_eq_getElem B⟩
   obtain⟨r,rfl,h0,h2⟩:=f k _ (zmE Y);obtain⟨fn,tmps,assign,body,R,H⟩:=h.out k x wr D.out Y;clear f Y I B
   gi_wp2
   refine H.mono ?_;rintro e W3 ⟨rfl,G⟩;have T:=zc G;clear R H G
   gi_wp2
   go_roundw
   case rel=>exact⟨k+1,by omega,by go_num,T.out⟩
   case measure=>simp[intOf];omega
  ·have V:k=n:=by omega
   subst V;clear I
   gi_wp2
   go_end0;exact⟨⟨_,rfl⟩,D.out⟩
theorem znX(l:List Int)(k:Nat)(x:Int)(h:l[k]?=some x):jv (l.take (k+1))=jv (l.take k)++ [.int .i64 x]:=by obtain⟨A,he⟩:=ze h;rw[List.take_succ_eq_append_getElem A,he];simp[jv]
theorem zz{w:World}{base:Nat}{e t:TypeId}{size n k:Nat}{v:Value}{xs:List Value}{cs:Array Value}{z:Nat×Nat}(h:w.ownsRow base e size v n xs)(E:w.heap[k]?=some (.cells cs t z))(D:t≠e):v.ownBlock≠some k:=by
 rcases h.2 with⟨rfl,_⟩ | ⟨g,cap,cur,rfl,_,A,_⟩
 ·simp[Value.ownBlock]
 ·intro B;simp[Value.ownBlock]at B;subst B;rw[E]at A;simp only[Option.some.injEq,Obj.cells.injEq]at A;exact D A.2.1
theorem zel(l:List Int)(a:Option Addr)(c A:Nat)(w:World)(Q:l.length<=12)(hA:w.cell? ⟨A,0,none⟩=some (.slice a l.length c))(hR:ym w a (jv l)):
 Calls prog 253 #[.slice none 0 0,.func (.func 233) #[] #[.pointer (some ⟨A,0,none⟩)]] w fun z w'=>∃v,z=.returned v/\w'.ownsRow w.heap.size 3 1 v l.length (jv l)/\Below w.heap.size w w':=by
 have HR:=zc hR;have HA:=zc hA;have Hn:=World.block_lt_of_cell? _ _ hA;obtain⟨i0,hi,Hp,Hz,Hs⟩:=info_parts zdD;obtain⟨n,hN⟩:=zh l.length
 have HN:=zc hN;rw[<-hN]at Q ⊢;clear hR hA hN;refine(callsIn_wide (n:=4)).1 ?_;refine callsIn_of_wp_marks func253 rfl trivial ?_ rfl;simp only[ntmps253,List.size_toArray,List.length_cons,List.length_nil,Nat.reduceAdd,Nat.reduceSub,Array.replicate_succ,Array.replicate_zero,List.push_toArray,List.append_toArray,List.nil_append,List.cons_append]
 gi_wp2_with fail
 obtain⟨w1,Y⟩:=zh (w.alloc (.cells #[.slice none 0 0] 43))
 have Hj:Below w.heap.size w w1:=by rw[Y];exact zk w _
 have hc:w1.heap[w.heap.size]?=some (.cells #[.slice none 0 0] 43 (0,0)):=by rw[Y];exact heap_alloc_new w _
 have Hf:w1.heap.size=w.heap.size+1:=by rw[Y];simp
 rw[<-Y];obtain⟨D,hD⟩:=zh w.heap.size
 rw[<-hD]at hc ⊢;have HD:=zc hD;have Hr:=zc hc;have Hw:=zc Hj;have Hi:=zc Hf;clear Y Hj hc hD Hf;refine zR rfl (by simp) (gf:=233) (lb:=#[.pointer (some ⟨A,0,none⟩)]) rfl trivial (enters_of func233 (by kernel_rfl) rfl) ?_;intro fn W1 k6 hb hl;obtain⟨L,s⟩:=zh w1.heap.size
 rw[<-s]at hl hb ⊢;have k0:D<L:=by rw[s,Hi.out,HD.out];omega
 have k3:w.heap.size<L:=by rw[s,Hi.out];omega
 have Hy:w.heap.size<=D:=by rw[HD.out];exact zg _
 have ha:Below w.heap.size w W1:=zj Hw.out hb (by omega);have h7:W1.heap[D]?=some (.cells #[.slice none 0 0] 43 (0,0)):=(hb.block D k0).trans Hr.out;clear s;refine(zg0 1 (fun k W=>Below w.heap.size w W/\W1.heap.size<=W.heap.size/\(∃U T,W.heap[D]?=some (.cells #[.slice U k T] 43 (0,0))/\W.ownsRow w.heap.size 3 1 (.slice U k T) k (jv (l.take k)))/\yD W L .ready fn _ _ _ _) l a c A (L+1) (by have:=HN.out;omega) ?_ ?_ W1 ⟨ha,zg _,⟨none,0,h7,by simpa[jv]using World.ownsRow_nil _ _ _ _⟩,hl⟩).mono ?_
 ·rintro k W ⟨y,_,_,_⟩;exact⟨(y.cell (p:=⟨A,0,none⟩) Hn).trans HA.out,HR.out.behind y⟩
 ·rintro k x W ⟨y,hz,⟨U,T,J,E⟩,I⟩ hx;have Hc:=(ze hx).1;have HX:=zc (znX l k x hx);have k2:k<n:=by rw[HN.out];exact Hc
  have Hh:=zc y;have H3:=zc J;have F:=zc E;have h9:=zc I;have Hq:=(zd J).1;have k1:=hl.lt;obtain⟨ys,Ha⟩:=zh (jv (l.take k))
  rw[<-Ha]at F HX;clear hx Hc y J E ha h7 hb hl Ha;refine YieldAt.mono (xF (a₁:=?a1) trivial I _ rfl (R:=fun W'=>Below w.heap.size w W'/\W.heap.size<=W'.heap.size/\∃U T,W'.heap[D]?=some (.cells #[.slice U (k+1) T] 43 (0,0))/\W'.ownsRow w.heap.size 3 1 (.slice U (k+1) T) (k+1) (jv (l.take (k+1)))) ?has ?hbo) ?hmo
  case has=>
   intro K hK
   gi_wp2
   exact hK
  case hbo=>
   generalize C:yH W L .busy _ _ _ _ _=V;have G:=h9.out.put .busy;rw[C]at G;have hg:V.heap.size=W.heap.size:=by rw[<-C];simp[yH]
   have zpZ:zo8 (fun k=>k=L+1) W V:=by rw[<-C];exact zF _ _ _ _ _ _ _ _
   have h:V.heap[D]?=some (.cells #[.slice U k T] 43 (0,0)):=by rw[zpZ.block D Hq (by omega)];exact H3.out
   have H7:V.ownsRow w.heap.size 3 1 (.slice U k T) k ys:=by
    refine⟨F.out.1,?_⟩;rcases F.out.2 with Q | ⟨g,cap,cur,X,N,M,B⟩
    ·exact .inl Q
    ·refine .inr ⟨g,cap,cur,X,N,?_,B⟩;rw[zpZ.block g (zd M).1 ?_];exact M;rintro rfl;have:=h9.out.r;rw[M]at this;simp at this
   have Ht:=zc G;have Hb:=zc h;have k4:=zc zpZ;have t:=zc H7;have Ho:=zc hg;have H6:Hid (Below w.heap.size w V):=zc (Hh.out.trans (zpZ.below Hh.out.size fun j q=>by rw[q];omega));have Z:=zx h;have hq:V.frozen? ⟨D,0,none⟩=false:=by simp[World.frozen?,h]
   have ht:=(zd h).1;have hr:w.heap.size<=V.heap.size:=H6.out.size;clear C G h zpZ H7 I h9 F H3 hg
   gi_wp2_with (gi_at_builtin;go_loud (refine wpListIn_append_own _ rfl _ _ 43 rfl w.heap.size 3 i0 (.int .i64 0) 1 8 underlying43 hi Hp Hz Hs rfl (by decide) _ _ _ rfl (t.out.alloc _) ⟨V.heap.size,0,none⟩ 1 1 [.int .i64 x] rfl rfl (cell_one_new _ _ _) (by simp[Value.oneCell']) (by unfold maxLen;omega) (by omega) (by simp;omega) ?_);go_loud (intro v' m O ho _;obtain⟨g',H,rfl⟩:=ownsRow_succ O);go_loud (have H9:=ho.block D (by simp;omega) (fun e=>by have:=zz t.out Hb.out (by decide);exact this e.symm));go_loud (have f:m.heap[D]?=some (.cells #[.slice U k T] 43 (0,0)):=H9.trans ((Below.heap_alloc _ _ _ ht).trans Hb.out));go_loud (have H4:=zc f;have H5:=zc O;have h6:=zc ho;have hy:=zx f);go_loud (have Hk:m.frozen? ⟨D,0,none⟩=false:=by simp[World.frozen?,f]);go_loud (have k8:=(zd f).1);go_loud (clear O ho H9 f Z hq))
   have H0:∀b,b<V.heap.size->(∀cs z,V.heap[b]?≠some (.cells cs 3 z))->m.heap[b]?=V.heap[b]?:=fun b hb Hl=>by
    rw[h6.out.block b (by simp;omega) (fun e=>by
     have e':(Value.slice U k T).ownBlock=some b:=e.symm;rcases t.out.2 with⟨h0,_⟩ | ⟨g,cap,cur,X,_,M,_⟩
     ·rw[h0]at e';simp[Value.ownBlock]at e'
     ·rw[X]at e';simp[Value.ownBlock]at e';subst e';exact Hl _ _ M)]
    exact Below.heap_alloc _ _ _ hb
   have G:=Ht.out;have S:yD m L .busy fn _ _ _ _:=⟨(H0 _ G.lt (fun cs z=>by rw[G.r];simp)).trans G.r,(H0 _ (by have:=G.lt;omega) (fun cs z=>by rw[G.d];simp)).trans G.d⟩
   have k5:V.heap.size<=m.heap.size:=by have:=h6.out.size;simp at this;omega
   have Hv:(m.setCell ⟨D,0,none⟩ (.slice (some ⟨g',0,none⟩) (k+1) H)).heap[D]?=some (.cells #[.slice (some ⟨g',0,none⟩) (k+1) H] 43 (0,0)):=zi H4.out;have H2:zo8 (fun j=>j=D) m (m.setCell ⟨D,0,none⟩ (.slice (some ⟨g',0,none⟩) (k+1) H)):=(zo8.refl _ _).one;have hf:Below w.heap.size w m:=(H6.out.alloc hr _).grown h6.out (by simp;omega) fun j q=>(t.out.lt j q).1;have H8:=zbY (o:=0) (u:=.slice (some ⟨g',0,none⟩) (k+1) H) H5.out (zz H5.out H4.out (by decide));have hg:=Ho.out;refine⟨S.zpW H2 (by omega) (by omega),?_,?_,some ⟨g',0,none⟩,H,?_,?_⟩
   ·refine(hf.trans (H2.below hf.size fun j q=>by rw[q];exact Hy)).trans (zo8.below (zF _ L _ _ _ _ _ _) ?_ ?_)
    ·have:=hf.size;simp;omega
    ·intro j q;rw[q];omega
   ·simp[yH];omega
   ·rw[zE _ _ _ _ _ _ _ _ (by omega)];exact Hv
   ·rw[HX.out];refine⟨H8.1,?_⟩;rcases H8.2 with Q | ⟨g,cap,cur,X,N,M,B⟩
    ·exact .inl Q
    ·refine .inr ⟨g,cap,cur,X,N,?_,B⟩;rw[zE _ _ _ _ _ _ _ _ ?_];exact M;rintro rfl;have h1:=S.r;rw[<-Below.heap_setCell m ⟨D,0,none⟩ (.slice (some ⟨g',0,none⟩) (k+1) H) _ (by show L+1≠D;omega),M]at h1;simp at h1
  case hmo=>
   rintro e W' ⟨h1,h2,h3,h4,h5⟩;exact⟨h1,h3,by omega,h5,h2⟩
 ·rintro e V ⟨X,y,hz,⟨U,T,J,E⟩,I⟩;refine⟨X,I,?_⟩;intro W3 hd P;rw[List.take_length,<-HN.out]at E;rw[<-HN.out]at J;have k1:=I.lt;have h8:W3.heap[D]?=some (.cells #[.slice U n T] 43 (0,0)):=(P.block D (zd J).1 (by omega)).trans J;have Hd:W3.ownsRow w.heap.size 3 1 (.slice U n T) n (jv l):=by
   refine⟨E.1,?_⟩;rcases E.2 with Q | ⟨g,cap,cur,X,N,M,B⟩
   ·exact .inl Q
   ·refine .inr ⟨g,cap,cur,X,N,?_,B⟩;rw[P.block g (zd M).1 ?_];exact M;rintro rfl;have:=I.r;rw[M]at this;simp at this
  have Z:=zx h8;have k7:=(zd h8).1;have Hu:Hid (Below w.heap.size w W3):=zc (y.trans (P.below y.size fun j q=>by rw[q];omega));have Hg:=zc Hd;have He:=zc hd;clear h8 Hd hd y hz J E I P X ha h7 hb hl
  gi_wp2
  refine⟨by simp,.inl ⟨_,_,rfl,run_takeDeferred He.out,?_⟩⟩;refine⟨_,results_tmp rfl _ _ _,_,rfl,?_,Hu.out.trans ⟨rfl,rfl,rfl,by simp,fun k hk=>World.putObj_heap_other (by omega)⟩⟩;refine⟨Hg.out.1,?_⟩;rcases Hg.out.2 with Q | ⟨g,cap,cur,X,N,M,B⟩
  ·exact .inl Q
  ·refine .inr ⟨g,cap,cur,X,N,?_,B⟩;rw[World.putObj_heap_other ?_];exact M;rintro rfl;have:=He.out;rw[M]at this;simp at this
theorem zg1(l:List Int)(a:Option Addr)(c A:Nat)(w:World)(J:l.length<=12)(G:w.cell? ⟨A,0,none⟩=some (.slice a l.length c))(D:ym w a (jv l)):
 Calls prog 231 #[.func (.func 233) #[] #[.pointer (some ⟨A,0,none⟩)]] w fun z w'=>∃v,z=.returned v/\w'.ownsRow w.heap.size 3 1 v l.length (jv l)/\Below w.heap.size w w':=by
 have I:=zc (zel l a c A w J G D);clear G D;go_enter func231,ntmps231;go_wp2_with fail;refine I.out.mono ?_;rintro z w2 ⟨v,rfl,E,B⟩;have H1:=zc E;have H:=zc B;clear E B;go_wp2;go_ret;exact⟨_,rfl,H1.out,H.out⟩
theorem zbe.refl{l:List Int}(h:∀(i j:Nat) (x:Int),l[i]?=some x->l[j]?=some x->i=j):zbe l l:=⟨rfl,h,fun _ A=>A⟩
theorem ziy(l:List Int)(a:Option Addr)(c A:Nat)(w:World)(D:1<=l.length)(G:l.length<=12)(R:w.cell? ⟨A,0,none⟩=some (.slice a l.length c))(b:ym w a (jv l))(Y:∀(i j:Nat) (x:Int),l[i]?=some x->l[j]?=some x->i=j):
 Calls prog 197 #[.func (.func 233) #[] #[.pointer (some ⟨A,0,none⟩)]] w fun z w'=>∃g cap E,z=.returned (.slice (some ⟨g,0,none⟩) l.length cap)/\IR w' g E/\zbe l E/\w.heap.size<=g/\Below w.heap.size w w':=by
 have T:=zc (zg1 l a c A w G R b);obtain⟨n,H⟩:=zh l.length
 have r:=zc H;have p:=zc (zbe.refl Y);rw[<-H]at G D T ⊢;clear R b H Y;go_enter func197,ntmps197;go_wp2_with fail;refine T.out.mono ?_;rintro z d ⟨v,rfl,N,I⟩;obtain⟨g,cap,cur,rfl,J,U,V⟩:=N.2.resolve_left (by rintro⟨h,h0⟩;simp_all);have B:IR d g l:=⟨cur,U,fun k x s=>by
  have h:=zmE s;rw[<-V.2.2.2,List.getElem?_take]at h;split at h
  ·simpa using h
  ·cases h⟩
 have HS:=zc (zmH l l g n cap d r.out D G B p.out);have Z:=zc I;clear N I U V B;go_wp2_with fail;refine HS.out.mono ?_;rintro z w3 ⟨⟨v,rfl⟩,E,X,M,O⟩;have f:=zc X;have q:=zc M;have m:=zc O;clear X M O;go_wp2;go_ret;exact⟨g,cap,E,rfl,f.out,q.out,J,Z.out.trans (m.out.below Z.out.size fun k o=>by rw[o];exact J)⟩
theorem zg2(A:List Int)(g n c:Nat)(w:World)(N:n=A.length)(h0:n<=12)(J:IR w g A)(M:∀(i j:Nat) (x:Int),A[i]?=some x->A[j]?=some x->i=j):
 Calls prog 199 #[.slice (some ⟨g,0,none⟩) n c] w fun z w'=>z=.returned (.slice (some ⟨g,0,none⟩) n c)/\zo8 (fun _=>False) w w':=by
 have T:=zc J;have V:=zc N;have R:=zc M;clear J N M;go_enter func199,ntmps199;by_cases h2:n<2
 ·go_wp2;go_ret;exact⟨rfl,zo8.refl _ _⟩
 ·go_wp2_with fail;go_loopw [3] (fun i wr=>∃k:Nat,1<=k/\k<=n/\i=.int .i64 k/\IR wr g A/\zo8 (fun _=>False) w wr) (fun i _=>n-(intOf i).toNat)
  case atStart=>exact⟨1,zg _,by omega,rfl,T.out,zo8.refl _ _⟩
  case round=>
   obtain⟨k,h1,hk,rfl,B,G⟩:=hrel;obtain⟨m,rfl⟩:∃X,k=X+1:=⟨k-1,by omega⟩
   have U:=zc B;have O:=zc G;by_cases D:m+1<n
   ·have E:m+1<A.length:=by rw[<-V.out];exact D
    obtain⟨x,I⟩:∃x,A[m+1]?=some x:=⟨_,List.getElem?_eq_getElem (by omega)⟩
    obtain⟨y,H⟩:∃y,A[m]?=some y:=⟨_,List.getElem?_eq_getElem (by omega)⟩
    have c1:=B.cell I;have c2:=B.cell H;have h3:¬x=y:=fun e=>by have h:=R.out (m+1) m x I (by rw[e];exact H);omega
    have h5:((m+1:Nat):Int) <(n:Int):=by omega
    have h4:((m:Nat):Int) <(n:Int):=by omega
    clear B G I H E;go_wp2_with fail;go_quiet (fail);go_wp2;go_roundw
    case rel=>exact⟨m+2,by omega,by omega,by go_num,U.out.of rfl,O.out.drewN nq⟩
    case measure=>simp[intOf];omega
   ·clear B G;go_wp2;go_ret;exact⟨rfl,O.out⟩
theorem zmI(l:List Int)(a:Option Addr)(c:Nat)(w:World)(I:1<=l.length)(O:l.length<=12)(Y:ym w a (jv l))(X:∀(i j:Nat) (x:Int),l[i]?=some x->l[j]?=some x->i=j)(hp:∀x∈l,0<=x):
 Calls prog 150 #[.slice a l.length c] w fun z w'=>z=.returned (.bool true)/\Below w.heap.size w w':=by
 have Z:=zc (zix w (.slice a l.length c) rfl);obtain⟨n,T⟩:=zh l.length
 have H:=zc T;have s:=zc Y;have d:=zc X;have r:=zc hp;rw[<-T]at O I Z ⊢;clear Y T X hp;go_enter func150,ntmps150;go_wp2_with fail;refine Z.out.mono ?_;rintro z v ⟨A,rfl,U,h2,D⟩;have HS:=zc (ziy l a c A v (by rw[<-H.out];exact I) (by rw[<-H.out];exact O) (by rw[<-H.out];exact U) (s.out.behind D) d.out);rw[<-H.out]at HS;have p:=zc D;clear U D;go_wp2_with fail;refine HS.out.mono ?_;rintro z f ⟨g,cap,R,rfl,M,J,u,G⟩;have E:n=R.length:=by rw[J.len];exact H.out
 obtain⟨y,N⟩:∃y,R[0]?=some y:=⟨_,List.getElem?_eq_getElem (by omega)⟩
 have c0:=M.cell N;have h9:0<=y:=r.out y (J.sub y (List.mem_of_getElem? N));have t:=zc (fun w' h=>zg2 R g n cap w' E O (M.of h) J.inj);have m:=zc G;clear M J u G N E;have h0:¬(n:Int)=0:=by omega
 go_wp2_with fail;refine(t.out f rfl).mono ?_;rintro z b ⟨rfl,V⟩;have B:Below w.heap.size w b:=by have D:=p.out;have G:=zj D m.out D.size;exact G.trans (V.below G.size fun k q=>q.elim)
 have o:=zc B;clear V B;go_wp2;go_ret;exact⟨by simp,o.out⟩
end
section
open Go.Shelf
attribute [local go_sem ↓] Go.wp_at_zero Go.wp_at_succ
def zte:Value->Option (DataW Unit×List MemPlace)
 | .int .i64 x=>some (.lit (.int .i64 x),[])
 | _=>none
theorem ziz(x:Int):zte (.int .i64 x)=some (.lit (.int .i64 x),[]):=rfl
theorem zoN{v:Value}{x:Int}{ps:List MemPlace}(h:zte v=some (.lit (.int .i64 x),ps)):v=.int .i64 x:=by
 unfold zte at h;split at h
 ·simp only[Option.some.injEq,Prod.mk.injEq,DataW.lit.injEq,Lit.int.injEq,true_and]at h;rw[h.1]
 ·cases h
structure qP(w:World)(b:Nat)(g:Nat->Int)(n:Nat):Prop where
 ex:∃D,w.ownsMap prog 3 zte b n D/\∀k:Nat,zpY k->D.atKey (.int .i64 k) (.lit (.int .i64 0))=.lit (.int .i64 (g k))
theorem qP.lt{w:World}{b n:Nat}{g:Nat->Int}(h:qP w b g n):b<w.heap.size:=by obtain⟨D,A,_⟩:=h.ex;exact A.lt
theorem qP.of{w w':World}{b n:Nat}{g:Nat->Int}(h:qP w b g n)(hb:w'.heap[b]?=w.heap[b]?):qP w' b g n:=by obtain⟨D,⟨es,clock,B,A⟩,E⟩:=h.ex;exact⟨D,⟨es,clock,hb.trans B,A⟩,E⟩
theorem qP.le{w:World}{b n n':Nat}{g:Nat->Int}(h:qP w b g n)(hn:n<=n'):qP w b g n':=by obtain⟨D,⟨es,clock,E,A,h3,B⟩,G⟩:=h.ex;exact⟨D,⟨es,clock,E,A,by omega,B⟩,G⟩
theorem zmJ(w:World):(zeroValue 2).run prog w=.ok (.int .i64 0) w:=by kernel_rfl
theorem qP.look{w:World}{b n:Nat}{g:Nat->Int}(h:qP w b g n){k:Nat}(A:zpY k):(Instr.lookup 115 (.map (some b)) (.int .i64 k) false).run prog w=.ok (.int .i64 (g k)) w:=by obtain⟨D,G,H⟩:=h.ex;obtain⟨v,ps,E,B⟩:=G.lookup xw underlying115 (zmJ w) (ziz 0) (vF A);rw[E];rw[H k A]at B;rw[zoN B]
theorem qP.stored{w w1:World}{b n:Nat}{g:Nat->Int}{k:Nat}{c:Int}{D:DataW Unit}(G:w.ownsMap prog 3 zte b n D)(H:∀k:Nat,zpY k->D.atKey (.int .i64 k) (.lit (.int .i64 0))=.lit (.int .i64 (g k)))
 (A:w1.ownsMap prog 3 zte b (n+1) (D.put (.int .i64 k) (.lit (.int .i64 c)))):qP w1 b (zpt g k c) (n+1):=by
 have E:=G.tidy xw;refine⟨_,A,fun j B=>?_⟩;by_cases e:j=k
 ·subst e;rw[zy,Maps.atKey_put_same E.isMap (zcZ j)]
 ·rw[zA _ _ e,Maps.atKey_put_other (za0 (by omega))];exact H j B
theorem qP.new(w:World):qP (w.alloc (.map #[] 0)) w.heap.size (fun _=>0) 0:=
 ⟨⟨_,World.ownsMap_made w prog 3 zte,fun k hk=>rfl⟩⟩
abbrev znY(m1 m2:Nat)(t:Int):Array Value:=#[.map (some m1),.map (some m2),.int .i64 t]
structure zsG(w:World)(b m1 m2:Nat)(x:Bk):Prop where
 bx:w.heap[b]?=some (.cells (znY m1 m2 x.total) 117 (0,0))
 k1:qP w m1 x.bt x.n
 k2:qP w m2 x.bg x.n
 ne:m1≠m2
theorem zsG.lt{w:World}{b m1 m2:Nat}{x:Bk}(h:zsG w b m1 m2 x):b<w.heap.size:=(zd h.bx).1
theorem zsG.zpe{w:World}{b m1 m2:Nat}{x:Bk}(h:zsG w b m1 m2 x):∀j,w.frozen? ⟨b,j,none⟩=false:=by intro j;simp[World.frozen?,h.bx]
theorem zsG.c3{w:World}{b m1 m2:Nat}{x:Bk}(h:zsG w b m1 m2 x):w.cell? ⟨b,0,none⟩=some (.map (some m1))/\w.cell? ⟨b,1,none⟩=some (.map (some m2))/\w.cell? ⟨b,2,none⟩=some (.int .i64 x.total):=by have:=h.bx;refine⟨?_,?_,?_⟩ <;> simp[World.cell?,this]
theorem qP.zrL{w:World}{b m n:Nat}{g:Nat->Int}{cs:Array Value}{t:TypeId}{z:Nat×Nat}(h:qP w m g n)(hb:w.heap[b]?=some (.cells cs t z)):b≠m:=by rintro rfl;obtain⟨D,⟨es,clock,A,h2⟩,h3⟩:=h.ex;rw[hb]at A;cases A
def zM(w:World)(F:Nat->Prop)(b:Nat)(x:Bk):Prop:=∃m1 m2,zsG w b m1 m2 x/\F b/\F m1/\F m2
theorem zM.kept{w w':World}{F:Nat->Prop}{b:Nat}{x:Bk}(h:zM w F b x)(A:zY F w w'):zM w' F b x:=by obtain⟨m1,m2,h,f0,f1,f2⟩:=h;exact⟨m1,m2,⟨(A b h.lt f0).trans h.bx,h.k1.of (A m1 h.k1.lt f1),h.k2.of (A m2 h.k2.lt f2),h.ne⟩,f0,f1,f2⟩
theorem zM.mono{w:World}{F A:Nat->Prop}{b:Nat}{x:Bk}(h:zM w F b x)(hm:∀k,k<w.heap.size->F k->A k):zM w A b x:=by obtain⟨m1,m2,h,f0,f1,f2⟩:=h;exact⟨m1,m2,h,hm b h.lt f0,hm m1 h.k1.lt f1,hm m2 h.k2.lt f2⟩
def Bk.new:Bk:=⟨fun _=>0,fun _=>0,0,0⟩
theorem zmK(w:World):Calls prog 34 #[] w fun z w'=>∃b,z=.returned (.pointer (some ⟨b,0,none⟩))/\zM w' (fun k=>w.heap.size<=k) b Bk.new/\Below w.heap.size w w':=by
 have h0:=@run_makeMap prog;go_enter func34,ntmps34;go_wp2;go_ret;have D:(w.alloc (.map #[] 0)).heap.size=w.heap.size+1:=by simp
 have A:=heap_alloc_new ((w.alloc (.map #[] 0)).alloc (.map #[] 0)) (.cells #[Value.map (some w.heap.size),Value.map (some (w.heap.size+1)),Value.int IntKind.i64 0] 117);rw[show((w.alloc (.map #[] 0)).alloc (.map #[] 0)).heap.size=w.heap.size+1+1 by simp]at A;refine⟨_,rfl,⟨w.heap.size,w.heap.size+1,⟨A,?_,?_,by omega⟩,by simp;omega,by simp,by simp⟩,?_⟩
 ·have B:=qP.new w;have E:=B.of (w':=(w.alloc (.map #[] 0)).alloc (.map #[] 0)) (Below.heap_alloc _ _ _ (by simp));exact E.of (Below.heap_alloc _ _ _ (by simp;omega))
 ·have B:=qP.new (w.alloc (.map #[] 0));rw[D]at B;exact B.of (Below.heap_alloc _ _ _ (by simp))
 ·exact((zk w _).alloc (by simp) _).alloc (by simp;omega) _
theorem zeE(w:World)(F:Nat->Prop)(b n:Nat)(x:Bk)(h:zM w F b x)(hn:n<=1000000):Calls prog 21 #[.pointer (some ⟨b,0,none⟩),.int .i64 n] w fun z w'=>z=.returned (.int .i64 (x.bt n))/\w'=w:=by
 obtain⟨m1,m2,h,_⟩:=h;have A:zpY (n:Int):=by unfold zpY;omega
 have h0:=h.k1.look A;obtain⟨c0,c1,c2⟩:=h.c3;have hl:=h.lt;clear h;go_enter func21,ntmps21;go_wp2;go_ret;exact⟨rfl,rfl⟩
theorem ziA(w:World)(F:Nat->Prop)(b n:Nat)(x:Bk)(h:zM w F b x)(hn:n<=1000000):Calls prog 26 #[.pointer (some ⟨b,0,none⟩),.int .i64 n] w fun z w'=>z=.returned (.int .i64 (x.bg n))/\w'=w:=by
 obtain⟨m1,m2,h,_⟩:=h;have A:zpY (n:Int):=by unfold zpY;omega
 have h0:=h.k2.look A;obtain⟨c0,c1,c2⟩:=h.c3;have hl:=h.lt;clear h;go_enter func26,ntmps26;go_wp2;go_ret;exact⟨rfl,rfl⟩
theorem ym.zpW{w w':World}{P:Nat->Prop}{a:Option Addr}{A:List Value}(h:ym w a A)(E:zo8 P w w')(H:∀r,a=some ⟨r,0,none⟩->¬P r):ym w' a A:=fun k u hu=>by obtain⟨r,B,G,D⟩:=h k u hu;refine⟨r,B,?_,zf D E.size⟩;rw[<-G];simp[World.cell?,E.block r D (H r B)]
def Bk.part(b:Bk)(path:List Nat)(n:Nat)(ns:Int)(k:Nat):Bk:=b.credit (path.take k) n ns
theorem zg3(b:Bk)(path:List Nat)(hd:∀(i j:Nat) (x:Nat),path[i]?=some x->path[j]?=some x->i=j)(n:Nat)(ns:Int)(k p:Nat)(hp:path[k]?=some p):
 (b.part path n ns k).bg p=b.bg p/\zpt (b.part path n ns k).bg p (b.bg p+ns)=(b.part path n ns (k+1)).bg:=by
 have D:path.take (k+1)=path.take k++ [p]:=by rw[List.take_add_one,hp];rfl
 have A:p∉path.take k:=by
  intro hm;have hk:=(ze hp).1;obtain⟨i,B⟩:=List.getElem?_of_mem hm;rw[List.getElem?_take]at B;split at B
  ·rename_i h0;have:=hd i k p B hp;omega
  ·cases B
 have E:(b.part path n ns k).bg p=b.bg p:=by simp[Bk.part,Bk.credit,A]
 refine⟨E,funext fun g=>?_⟩;by_cases e:g=p
 ·subst e;rw[zy];simp[Bk.part,Bk.credit,D]
 ·rw[zA _ _ e];simp[Bk.part,Bk.credit,D,e]
theorem zsG.zsY{w:World}{b m1 m2:Nat}{x:Bk}(h:zsG w b m1 m2 x)(t:Int):zsG (w.setCell ⟨b,2,none⟩ (.int .i64 t)) b m1 m2 { x with total:=t }:=
 ⟨zi h.bx,h.k1.of (Below.heap_setCell _ _ _ _ (h.k1.zrL h.bx).symm),h.k2.of (Below.heap_setCell _ _ _ _ (h.k2.zrL h.bx).symm),h.ne⟩
theorem znZ(path:List Nat)(k p:Nat)(h:path[k]?=some p):(jv (path.map Int.ofNat))[k]?=some (.int .i64 p):=by simp[jv,h]
theorem zg4(path:List Nat)(a:Option Addr)(c base n:Nat)(ns:Int)(w:World)(F:Nat->Prop)(b:Nat)(x:Bk)(h:zM w F b x)
 (G:w.ownsRow base 3 1 (.slice a path.length c) path.length (jv (path.map Int.ofNat))) (P:1<=path.length) (hl:path.length<=12) (hd:∀(i j:Nat) (x:Nat),path[i]?=some x->path[j]?=some x->i=j)
 (hp:∀g∈path,g<=1000000) (hn:n<=1000000) (Hh:0<=ns) (ztm:0<=x.total) (ht:x.total+ns<=9223372036854775807)
 (Hj:0<=x.bt n/\x.bt n<=x.total) (h6:∀g,0<=x.bg g/\x.bg g<=x.total) (Hi:x.n<=1000000000):
 Calls prog 98 #[.pointer (some ⟨b,0,none⟩),.slice a path.length c,.int .i64 n,.int .i64 ns] w fun z w'=>z=.returned (.int .i64 0)/\zM w' F b (x.credit path n ns)/\zo8 F w w':=by
 obtain⟨m1,m2,h,f0,f1,f2⟩:=h;have s:ym w a (jv (path.map Int.ofNat)):=by obtain⟨a',c',e,h⟩:=ym.zqA G;simp only[Value.slice.injEq]at e;rw[e.1];exact h
 have hA:∀r,a=some ⟨r,0,none⟩->r≠b/\r≠m1/\r≠m2:=by
  rintro r rfl;have e1:=zz G h.bx (by decide);refine⟨fun e=>e1 (by rw[e];rfl),?_,?_⟩
  ·rintro rfl;rcases G.2 with⟨e,_⟩ | ⟨g,cap,cur,hv,_,hh,_⟩
   ·cases e
   ·simp only[Value.slice.injEq,Option.some.injEq,Addr.mk.injEq,true_and,and_true]at hv;rw[<-hv.1]at hh;exact h.k1.zrL hh rfl
  ·rintro rfl;rcases G.2 with⟨e,_⟩ | ⟨g,cap,cur,hv,_,hh,_⟩
   ·cases e
   ·simp only[Value.slice.injEq,Option.some.injEq,Addr.mk.injEq,true_and,and_true]at hv;rw[<-hv.1]at hh;exact h.k2.zrL hh rfl
 have HO:=zc (zmI (path.map Int.ofNat) a c w (by simpa using P) (by simpa using hl) s (fun i j y h1 h2=>by
  rw[List.getElem?_map,Option.map_eq_some_iff]at h1 h2;obtain⟨u,h1,rfl⟩:=h1;obtain⟨v,h2,e⟩:=h2;have e':(v:Int)=(u:Int):=by simp at*;omega
  have:v=u:=by omega
  subst this;exact hd i j v h1 h2) (fun y hy=>by obtain⟨u,_,rfl⟩:=List.mem_map.1 hy;simp))
 have HD:=zc hd;have HP:=zc hp;have m:=zc hA;obtain⟨len,hlen⟩:=zh path.length
 have O:=zc hlen;rw[List.length_map,<-hlen]at HO;rw[<-hlen]at P hl ⊢;have K:=zc h;have H8:=zc s;have H6:=zc h6;obtain⟨c0,c1,c2⟩:=h.c3;have M:=h.lt;have o:=h.zpe;have h4:=zc f0;have h9:=zc f1;have hq:=zc f2;have Ha:¬ns<0:=by omega
 have Hd:¬(n:Int) <0:=by omega
 have Hc:IntKind.i64.wrap (9223372036854775807-x.total)=9223372036854775807-x.total:=by simp only[IntKind.wrap,IntKind.signed,IntKind.bits];simp;omega
 have hle:¬9223372036854775807-x.total<ns:=by omega
 have Hb:IntKind.i64.wrap (x.total+ns)=x.total+ns:=by simp only[IntKind.wrap,IntKind.signed,IntKind.bits];simp;omega
 have H0:IntKind.i64.wrap (x.bt n+ns)=x.bt n+ns:=by simp only[IntKind.wrap,IntKind.signed,IntKind.bits];simp;omega
 have hI:zpY (n:Int):=by unfold zpY;omega
 clear h s G hlen hd hp hA h6 f0 f1 f2;go_enter func98,ntmps98;go_wp2_with fail;refine HO.out.mono ?_;rintro z w2 ⟨rfl,R⟩;have hj:=zc R;have I:zsG w2 b m1 m2 x:=⟨(R.block b M).trans K.out.bx,K.out.k1.of (R.block _ K.out.k1.lt),K.out.k2.of (R.block _ K.out.k2.lt),K.out.ne⟩
 have Hg:=zc I;clear c0 c1 c2 M o R;obtain⟨c0,c1,c2⟩:=I.c3;have M:=I.lt;have o:=I.zpe;have t:=I.zsY (x.total+ns);have Z:=t.k1.look hI;have B:=zc t;clear I t;obtain⟨D,T,X⟩:=B.out.k1.ex;have J:=zc T;have d:=zc X;clear T X;have C:Hid (zo8 (fun k=>k=b) w2 (w2.setCell ⟨b,2,none⟩ (.int .i64 (x.total+ns)))):=zc (zo8.refl _ _).one
 go_wp2_with (at_mapUpdate;refine wpList_mapUpdate_own _ rfl _ _ _ 115 rfl 3 2 xw underlying115 zte m1 x.n D (by rfl) J.out (by unfold maxLen;omega) _ _ _ (by rfl) (by rfl) (vF hI) (.lit (.int .i64 (x.bt n+ns))) [] (ziz _) ?_;intro w4 N E;have W:=zc N;have h7:=zc E;clear N E c0 c1 c2 M o Z);have V:zo8 (fun z=>z=m1) (w2.setCell ⟨b,2,none⟩ (.int .i64 (x.total+ns))) w4:=(zo8.refl (fun z=>z=m1) _).grown h7.out fun k Y=>.inl (by cases Y;rfl);have h5:zsG w4 b m1 m2 (x.part path n ns 0):=by
  have H4:=qP.stored J.out d.out W.out;refine⟨(V.block b B.out.lt (B.out.k1.zrL B.out.bx)).trans B.out.bx,by simpa[Bk.part,Bk.credit]using H4,?_,B.out.ne⟩;have h:=qP.le (n':=x.n+1) (B.out.k2.of (V.block m2 B.out.k2.lt B.out.ne.symm)) (by show x.n<=x.n+1;omega);simpa[Bk.part,Bk.credit]using h
 have hf:zo8 F w w4:=((zo8.zo7 hj.out:zo8 F w w2).trans C.out fun k Y=>.inl (by rw[Y];exact h4.out)).trans V fun k Y=>.inl (by rw[Y];exact h9.out);have hi:ym w4 a (jv (path.map Int.ofNat)):=((H8.out.behind hj.out).zpW C.out fun r G=>(m.out r G).1).zpW V fun r G=>(m.out r G).2.1;have hg:=zc h5;have h3:=zc hf;have S:=zc hi;clear V h5 hf hi J d W h7 C B;go_loopw [10,53] (fun _ i wr=>∃k:Nat,k<=len/\i=.int .i64 k/\zsG wr b m1 m2 (x.part path n ns k)/\ym wr a (jv (path.map Int.ofNat))/\zo8 F w wr) (fun _ i _=>len-(intOf i).toNat)
 case atStart=>exact⟨0,Nat.zero_le _,rfl,hg.out,S.out,h3.out⟩
 case round=>
  obtain⟨k,Y,rfl,hx,G,ht⟩:=hrel;have A:=zc hx;have ho:=zc G;have Q:=zc ht;clear hx G ht hg h3 S;by_cases H2:k<len
  ·obtain⟨p,hp⟩:∃p,path[k]?=some p:=⟨_,List.getElem?_eq_getElem (by rw[<-O.out];exact H2)⟩
   obtain⟨r,ha,hc,H5⟩:=ho.out k _ (znZ path k p hp);have L:zpY (p:Int):=by have:=HP.out p (List.mem_of_getElem? hp);unfold zpY;omega
   have q:=zg3 x path HD.out n ns k p hp;have Z:=A.out.k2.look L;rw[q.1]at Z;have H7:=zc q;have hz:IntKind.i64.wrap (x.bg p+ns)=x.bg p+ns:=by have:=H6.out p;simp only[IntKind.wrap,IntKind.signed,IntKind.bits];simp;omega
   obtain⟨c0,c1,c2⟩:=A.out.c3;have M:=A.out.lt;obtain⟨D,T,X⟩:=A.out.k2.ex;have J:=zc T;have d:=zc X;have He:(k:Int) <(len:Int):=by omega
   have Hf:(x.part path n ns k).n<=1000000100:=by simp[Bk.part,Bk.credit];omega
   clear T X hp q;subst ha;go_wp2_with (at_mapUpdate;refine wpList_mapUpdate_own _ rfl _ _ _ 115 rfl 3 2 xw underlying115 zte m2 (x.part path n ns k).n D (by rfl) J.out (by unfold maxLen;omega) _ _ _ (by rfl) (by rfl) (vF L) (.lit (.int .i64 (x.bg p+ns))) [] (ziz _) ?_;intro w5 U H;have H9:=zc U;have H3:=zc H;clear U H c0 c1 c2 M Z hc H5);have f:zo8 (fun z=>z=m2) wr w5:=(zo8.refl (fun z=>z=m2) _).grown H3.out fun k Y=>.inl (by cases Y;rfl);have h8:(x.part path n ns (k+1)).n=(x.part path n ns k).n+1:=by have:=O.out;simp[Bk.part,Bk.credit];omega
   refine⟨⟨k+1,by omega,by go_num,⟨(f.block b A.out.lt (A.out.k2.zrL A.out.bx)).trans A.out.bx,?_,?_,A.out.ne⟩,ho.out.zpW f fun r G=>(m.out r G).2.2,Q.out.trans f fun k Y=>.inl (by rw[Y];exact hq.out)⟩,by simp[intOf];omega⟩
   ·rw[h8];exact qP.le (A.out.k1.of (f.block m1 A.out.k1.lt A.out.ne)) (by omega)
   ·rw[h8,<-H7.out.2];exact qP.stored J.out d.out H9.out
  ·have e:k=len:=by omega
   subst e;have l:x.part path n ns k=x.credit path n ns:=by unfold Bk.part;rw[O.out,List.take_length]
   have h0:=zc l;clear l;go_wp2;go_ret;exact⟨rfl,⟨m1,m2,h0.out▸A.out,h4.out,h9.out,hq.out⟩,Q.out⟩
end
structure Lay where
 tb:Nat->Nat
 gb:Nat->Nat
 bb:Nat->Nat
 lb:Nat->Nat
 hb:Nat->Nat
 cb:Nat->Nat
 t:Nat
 tp:Nat
 pp:Nat
 bk:Nat
 vt:Value
 vg:Value
 vh:Value
 vc:Value
abbrev zau(gb:Nat->Nat)(t:Tk):Array Value:=#[.int .i64 t.hi,.int .i64 t.hg,.bool t.dead,.bool t.on,.int .i64 t.p,.pointer (some ⟨gb t.zpc,0,none⟩),.int .i64 t.nice,.int .u64 t.w,.int .u64 t.mask,.int .i64 t.e.id,.int .u64 t.e.w,.int .i64 t.e.v,.int .u64 t.e.rem,.int .i64 t.min]
def zp7(w:World)(b:Nat)(gb:Nat->Nat)(t:Tk):Prop:=w.heap[b]?=some (.cells (zau gb t) 82 (0,0))
theorem zp7.lt{w:World}{b:Nat}{gb:Nat->Nat}{t:Tk}(h:zp7 w b gb t):b<w.heap.size:=(zd h).1
theorem zp7.zpe{w:World}{b:Nat}{gb:Nat->Nat}{t:Tk}(h:zp7 w b gb t):∀j,w.frozen? ⟨b,j,none⟩=false:=by intro j;unfold zp7 at h;simp[World.frozen?,h]
theorem zp7.of{w w':World}{b:Nat}{gb:Nat->Nat}{t:Tk}(h:zp7 w b gb t)(hb:w'.heap[b]?=w.heap[b]?):zp7 w' b gb t:=hb.trans h
theorem zp7.zq7{w:World}{b:Nat}{gb:Nat->Nat}{t:Tk}(h:zp7 w b gb t):w.cell? ⟨b,0,none⟩=some (.int .i64 t.hi)/\w.cell? ⟨b,1,none⟩=some (.int .i64 t.hg)/\w.cell? ⟨b,2,none⟩=some (.bool t.dead)/\w.cell? ⟨b,3,none⟩=some (.bool t.on)/\w.cell? ⟨b,4,none⟩=some (.int .i64 t.p)/\w.cell? ⟨b,5,none⟩=some (.pointer (some ⟨gb t.zpc,0,none⟩))/\w.cell? ⟨b,6,none⟩=some (.int .i64 t.nice)/\w.cell? ⟨b,7,none⟩=some (.int .u64 t.w)/\w.cell? ⟨b,8,none⟩=some (.int .u64 t.mask)/\w.cell? ⟨b,9,none⟩=some (.int .i64 t.e.id)/\w.cell? ⟨b,10,none⟩=some (.int .u64 t.e.w)/\w.cell? ⟨b,11,none⟩=some (.int .i64 t.e.v)/\w.cell? ⟨b,12,none⟩=some (.int .u64 t.e.rem)/\w.cell? ⟨b,13,none⟩=some (.int .i64 t.min):=by
 unfold zp7 at h;refine⟨?_,?_,?_,?_,?_,?_,?_,?_,?_,?_,?_,?_,?_,?_⟩ <;> simp[World.cell?,h]
abbrev vS(n bb lb:Nat)(g:Gp):Array Value:=#[.int .i64 n,.int .i64 g.hi,.int .i64 g.hg,.int .u64 g.shares,.int .i64 g.quota,.pointer (if g.band.isSome=true then some ⟨bb,0,none⟩else none),.pointer (if g.band.isSome=true then some ⟨lb,0,none⟩else none)]
def zrA(w:World)(b n bb lb:Nat)(g:Gp):Prop:=w.heap[b]?=some (.cells (vS n bb lb g) 86 (0,0))
theorem zrA.lt{w:World}{b n bb lb:Nat}{g:Gp}(h:zrA w b n bb lb g):b<w.heap.size:=(zd h).1
theorem zrA.zpe{w:World}{b n bb lb:Nat}{g:Gp}(h:zrA w b n bb lb g):∀j,w.frozen? ⟨b,j,none⟩=false:=by intro j;unfold zrA at h;simp[World.frozen?,h]
theorem zrA.of{w w':World}{b n bb lb:Nat}{g:Gp}(h:zrA w b n bb lb g)(hb:w'.heap[b]?=w.heap[b]?):zrA w' b n bb lb g:=hb.trans h
theorem zrA.c7{w:World}{b n bb lb:Nat}{g:Gp}(h:zrA w b n bb lb g):w.cell? ⟨b,0,none⟩=some (.int .i64 n)/\w.cell? ⟨b,1,none⟩=some (.int .i64 g.hi)/\w.cell? ⟨b,2,none⟩=some (.int .i64 g.hg)/\w.cell? ⟨b,3,none⟩=some (.int .u64 g.shares)/\w.cell? ⟨b,4,none⟩=some (.int .i64 g.quota)/\w.cell? ⟨b,5,none⟩=some (.pointer (if g.band.isSome=true then some ⟨bb,0,none⟩else none))/\w.cell? ⟨b,6,none⟩=some (.pointer (if g.band.isSome=true then some ⟨lb,0,none⟩else none)):=by unfold zrA at h;refine⟨?_,?_,?_,?_,?_,?_,?_⟩ <;> simp[World.cell?,h]
def yq(l:List (Option Nat)):List Value:=l.map fun x=>.pointer (x.map fun b=>⟨b,0,none⟩)
theorem zg5(l:List (Option Nat)):(yq l).length=l.length:=by simp[yq]
theorem zg6{l:List (Option Nat)}{k:Nat}{x:Option Nat}(h:l[k]?=some x):(yq l)[k]?=some (.pointer (x.map fun b=>⟨b,0,none⟩)):=by simp[yq,h]
structure Sx(w:World)(G:Nat->Prop)(s:Nat)(S:Sc)(L:Lay):Prop where
 ty:∃cs,w.heap[s]?=some (.cells cs 66 (0,0))
 own:G s
 c0:w.cell? ⟨s,0,none⟩=some (.int .i64 S.ps)
 c1:w.cell? ⟨s,1,none⟩=some (.int .i64 S.tick)
 c2:w.cell? ⟨s,2,none⟩=some (.int .i64 S.gran)
 c3:w.cell? ⟨s,3,none⟩=some (.int .i64 S.credit)
 c4:w.cell? ⟨s,4,none⟩=some (.int .u64 S.lat)
 c5:w.cell? ⟨s,5,none⟩=some (.pointer (some ⟨L.t,0,none⟩))
 c6:w.cell? ⟨s,6,none⟩=some (.pointer (some ⟨L.pp,0,none⟩))
 c7:w.cell? ⟨s,7,none⟩=some L.vt
 c8:w.cell? ⟨s,8,none⟩=some L.vg
 pl:∀i,i<32->w.cell? ⟨s,9+i,none⟩=some (.pointer ((S.pl i).map fun n=>⟨L.gb n,0,none⟩))
 at_:∀i,i<64->w.cell? ⟨s,41+i,none⟩=some (.int .i64 (S.at_ i))
 vh:w.cell? ⟨s,105,none⟩=some L.vh
 vc:w.cell? ⟨s,106,none⟩=some L.vc
 bk:w.cell? ⟨s,107,none⟩=some (.pointer (some ⟨L.bk,0,none⟩))
theorem Sx.lt{w:World}{G:Nat->Prop}{s:Nat}{S:Sc}{L:Lay}(h:Sx w G s S L):s<w.heap.size:=by obtain⟨cs,A⟩:=h.ty;exact(zd A).1
theorem Sx.zpe{w:World}{G:Nat->Prop}{s:Nat}{S:Sc}{L:Lay}(h:Sx w G s S L):∀j,w.frozen? ⟨s,j,none⟩=false:=by intro j;obtain⟨cs,A⟩:=h.ty;simp[World.frozen?,A]
theorem Sx.kept{w w':World}{G:Nat->Prop}{s:Nat}{S:Sc}{L:Lay}(h:Sx w G s S L)(B:zY G w w'):Sx w' G s S L:=by
 have hb:=B s h.lt h.own;obtain⟨cs,D⟩:=h.ty;have e:∀j,w'.cell? ⟨s,j,none⟩=w.cell? ⟨s,j,none⟩:=fun j=>by simp[World.cell?,hb]
 exact⟨⟨cs,hb.trans D⟩,h.own,(e _).trans h.c0,(e _).trans h.c1,(e _).trans h.c2,(e _).trans h.c3,(e _).trans h.c4,(e _).trans h.c5,(e _).trans h.c6,(e _).trans h.c7,(e _).trans h.c8,fun i A=>(e _).trans (h.pl i A),fun i A=>(e _).trans (h.at_ i A),(e _).trans h.vh,(e _).trans h.vc,(e _).trans h.bk⟩
theorem Sx.mono{w:World}{G A:Nat->Prop}{s:Nat}{S:Sc}{L:Lay}(h:Sx w G s S L)(hm:∀k,k<w.heap.size->G k->A k):Sx w A s S L:=
 ⟨h.ty,hm s h.lt h.own,h.c0,h.c1,h.c2,h.c3,h.c4,h.c5,h.c6,h.c7,h.c8,h.pl,h.at_,h.vh,h.vc,h.bk⟩
structure xJ(w:World)(G:Nat->Prop)(e:TypeId)(v:Value)(l:List (Option Nat)):Prop where
 row:w.ownsRow 0 e 1 v l.length (yq l)
 own:∀k,v.ownBlock=some k->G k
theorem xJ.kept{w w':World}{G:Nat->Prop}{e:TypeId}{v:Value}{l:List (Option Nat)}(h:xJ w G e v l)(D:zY G w w'):xJ w' G e v l:=by
 refine⟨⟨h.row.1,?_⟩,h.own⟩;rcases h.row.2 with H | ⟨g,cap,cur,A,hb,B,E⟩
 ·exact .inl H
 ·exact .inr ⟨g,cap,cur,A,hb,by rw[D g (zd B).1 (h.own g (by rw[A];rfl))];exact B,E⟩
theorem xJ.mono{w:World}{G B:Nat->Prop}{e:TypeId}{v:Value}{l:List (Option Nat)}(h:xJ w G e v l)(hm:∀k,k<w.heap.size->G k->B k):xJ w B e v l:=
 ⟨h.row,fun k A=>hm k (h.row.lt k A).2 (h.own k A)⟩
theorem xJ.at_{w:World}{G:Nat->Prop}{e:TypeId}{v:Value}{l:List (Option Nat)}(h:xJ w G e v l){k:Nat}{x:Option Nat}(D:l[k]?=some x):
 ∃r cap,v=.slice (some ⟨r,0,none⟩) l.length cap/\w.cell? ⟨r,k,none⟩=some (.pointer (x.map fun b=>⟨b,0,none⟩))/\r<w.heap.size:=by
 have hk:=(ze D).1;obtain⟨r,cap,A⟩:=vX h.row (by
  rintro rfl;rcases h.row.2 with⟨_,h0⟩ | ⟨g,cap,cur,A,_⟩
  ·have:=h.row.1;rw[zg5]at this;omega
  ·cases A)
 have B:=h.row;rw[A]at B;have:=B.cells (g:=r) rfl k _ (zg6 D);refine⟨r,cap,A,?_,(B.lt r rfl).2⟩;rw[<-this];rw[qz]
theorem xJ.len{w:World}{G:Nat->Prop}{e:TypeId}{v:Value}{l:List (Option Nat)}(h:xJ w G e v l):∃a c,v=.slice a l.length c:=by
 rcases h.row.2 with⟨rfl,B⟩ | ⟨g,cap,cur,A,_⟩
 ·refine⟨none,0,?_⟩;rw[B]
 ·exact⟨_,_,A⟩
def yT(tb:Nat->Nat)(l:List Tk):List (Option Nat):=(List.range l.length).map fun n=>some (tb n)
def yx(gb:Nat->Nat)(l:List Gp):List (Option Nat):=(List.range l.length).map fun n=>if(l.getD n ztc).there=true then some (gb n)else none
theorem qv(tb:Nat->Nat)(l:List Tk):(yT tb l).length=l.length:=by simp[yT]
theorem yZ(tb:Nat->Nat)(l:List Gp):(yx tb l).length=l.length:=by simp[yx]
theorem ziB{tb:Nat->Nat}{l:List Tk}{n:Nat}(h:n<l.length):(yT tb l)[n]?=some (some (tb n)):=by simp[yT,h]
theorem zdJ{gb:Nat->Nat}{l:List Gp}{n:Nat}(h:n<l.length):(yx gb l)[n]?=some (if(l.getD n ztc).there=true then some (gb n)else none):=by simp[yx,h]
def yo(f:Nat->Nat)(n:Nat):List (Option Nat):=(List.range n).map fun k=>some (f k)
theorem xU(f:Nat->Nat)(n:Nat):(yo f n).length=n:=by simp[yo]
theorem zkI{f:Nat->Nat}{n k:Nat}(h:k<n):(yo f n)[k]?=some (some (f k)):=by simp[yo,h]
structure zrc(w:World)(G:Nat->Prop)(tb gb:Nat->Nat)(vt:Value)(l:List Tk):Prop where
 row:xJ w G 74 vt (yT tb l)
 tk:∀n t,l[n]?=some t->G (tb n)/\zp7 w (tb n) gb t
 inj:∀n m,n<l.length->m<l.length->tb n=tb m->n=m
theorem zrc.kept{w w':World}{G:Nat->Prop}{tb gb:Nat->Nat}{vt:Value}{l:List Tk}(h:zrc w G tb gb vt l)(B:zY G w w'):zrc w' G tb gb vt l:=
 ⟨h.row.kept B,fun n t A=>⟨(h.tk n t A).1,(h.tk n t A).2.of (B _ (h.tk n t A).2.lt (h.tk n t A).1)⟩,h.inj⟩
theorem zrc.mono{w:World}{G B:Nat->Prop}{tb gb:Nat->Nat}{vt:Value}{l:List Tk}(h:zrc w G tb gb vt l)(hm:∀k,k<w.heap.size->G k->B k):zrc w B tb gb vt l:=
 ⟨h.row.mono hm,fun n t A=>⟨hm _ (h.tk n t A).2.lt (h.tk n t A).1,(h.tk n t A).2⟩,h.inj⟩
structure zqX(w:World)(G:Nat->Prop)(gb bb lb:Nat->Nat)(vg:Value)(l:List Gp):Prop where
 row:xJ w G 59 vg (yx gb l)
 gp:∀n g,l[n]?=some g->G (gb n)/\zrA w (gb n) n (bb n) (lb n) g
 inj:∀n m,n<l.length->m<l.length->gb n=gb m->n=m
theorem zqX.kept{w w':World}{G:Nat->Prop}{gb bb lb:Nat->Nat}{vg:Value}{l:List Gp}(h:zqX w G gb bb lb vg l)(B:zY G w w'):zqX w' G gb bb lb vg l:=
 ⟨h.row.kept B,fun n g A=>⟨(h.gp n g A).1,(h.gp n g A).2.of (B _ (h.gp n g A).2.lt (h.gp n g A).1)⟩,h.inj⟩
theorem zqX.mono{w:World}{G B:Nat->Prop}{gb bb lb:Nat->Nat}{vg:Value}{l:List Gp}(h:zqX w G gb bb lb vg l)(hm:∀k,k<w.heap.size->G k->B k):zqX w B gb bb lb vg l:=
 ⟨h.row.mono hm,fun n g A=>⟨hm _ (h.gp n g A).2.lt (h.gp n g A).1,(h.gp n g A).2⟩,h.inj⟩
structure zqY(w:World)(G:Nat->Prop)(bb:Nat->Nat)(l:List Gp):Prop where
 bd:∀n g b,l[n]?=some g->g.band=some b->G (bb n)/\Qt.zo9 w (bb n) b
 inj:∀n m,n<l.length->m<l.length->bb n=bb m->n=m
theorem zqY.kept{w w':World}{G:Nat->Prop}{bb:Nat->Nat}{l:List Gp}(h:zqY w G bb l)(B:zY G w w'):zqY w' G bb l:=
 ⟨fun n g b A hb=>⟨(h.bd n g b A hb).1,(h.bd n g b A hb).2.kept (B _ (h.bd n g b A hb).2.lt (h.bd n g b A hb).1)⟩,h.inj⟩
theorem zqY.mono{w:World}{G B:Nat->Prop}{bb:Nat->Nat}{l:List Gp}(h:zqY w G bb l)(hm:∀k,k<w.heap.size->G k->B k):zqY w B bb l:=
 ⟨fun n g b A hb=>⟨hm _ (h.bd n g b A hb).2.lt (h.bd n g b A hb).1,(h.bd n g b A hb).2⟩,h.inj⟩
structure zqZ(w:World)(G:Nat->Prop)(lb:Nat->Nat)(l:List Gp):Prop where
 ln:∀n g,l[n]?=some g->g.band.isSome=true->G (lb n)/\zG w (lb n) g.line
 inj:∀n m,n<l.length->m<l.length->lb n=lb m->n=m
theorem zqZ.kept{w w':World}{G:Nat->Prop}{lb:Nat->Nat}{l:List Gp}(h:zqZ w G lb l)(B:zY G w w'):zqZ w' G lb l:=
 ⟨fun n g A hb=>⟨(h.ln n g A hb).1,(h.ln n g A hb).2.of (B _ (h.ln n g A hb).2.lt (h.ln n g A hb).1)⟩,h.inj⟩
theorem zqZ.mono{w:World}{G B:Nat->Prop}{lb:Nat->Nat}{l:List Gp}(h:zqZ w G lb l)(hm:∀k,k<w.heap.size->G k->B k):zqZ w B lb l:=
 ⟨fun n g A hb=>⟨hm _ (h.ln n g A hb).2.lt (h.ln n g A hb).1,(h.ln n g A hb).2⟩,h.inj⟩
structure zq0(w:World)(G:Nat->Prop)(cb:Nat->Nat)(vc:Value)(ps:Nat)(cs:Nat->Ck):Prop where
 row:xJ w G 107 vc (yo cb ps)
 ck:∀p,p<ps->G (cb p)/\yj w (cb p) (cs p)
 inj:∀n m,n<ps->m<ps->cb n=cb m->n=m
theorem zq0.kept{w w':World}{G:Nat->Prop}{cb:Nat->Nat}{vc:Value}{ps:Nat}{cs:Nat->Ck}(h:zq0 w G cb vc ps cs)(B:zY G w w'):zq0 w' G cb vc ps cs:=
 ⟨h.row.kept B,fun n A=>⟨(h.ck n A).1,(h.ck n A).2.of (B _ (h.ck n A).2.lt (h.ck n A).1)⟩,h.inj⟩
theorem zq0.mono{w:World}{G B:Nat->Prop}{cb:Nat->Nat}{vc:Value}{ps:Nat}{cs:Nat->Ck}(h:zq0 w G cb vc ps cs)(hm:∀k,k<w.heap.size->G k->B k):zq0 w B cb vc ps cs:=
 ⟨h.row.mono hm,fun n A=>⟨hm _ (h.ck n A).2.lt (h.ck n A).1,(h.ck n A).2⟩,h.inj⟩
structure zS(w:World)(G:Nat->Prop)(t tp:Nat)(s:Ps):Prop where
 x:zqn w 0 t tp s
 gt:G t
 gp:G tp
 row:∀z,zpB w tp z->G z
theorem zS.kept{w w':World}{G:Nat->Prop}{t B:Nat}{s:Ps}(h:zS w G t B s)(A:zY G w w'):zS w' G t B s:=by obtain⟨v,hp⟩:=h.x.has;have D:=A B hp.lt h.gp;refine⟨⟨(A t h.x.lt h.gt).trans h.x.tb,⟨v,hp.kept D fun g E=>A g (hp.own.lt g E).2 (h.row g ⟨v,hp.cell.2.2.1,E⟩)⟩,h.x.lo⟩,h.gt,h.gp,fun z H=>h.row z (H.same D)⟩
theorem zS.mono{w:World}{G B:Nat->Prop}{t A:Nat}{s:Ps}(h:zS w G t A s)(hm:∀k,k<w.heap.size->G k->B k):zS w B t A s:=by obtain⟨v,hp⟩:=h.x.has;exact⟨h.x,hm t h.x.lt h.gt,hm A hp.lt h.gp,fun z D=>hm z (hp.own.lt z (hp.rowIs D)).2 (h.row z D)⟩
structure zX(w:World)(G:Nat->Prop)(p:Nat)(s:Pi.Ps):Prop where
 x:Pi.zrJ w 0 p 64 s
 gp:G p
 row:∀z,Pi.zpB w p z->G z
theorem zX.lt{w:World}{G:Nat->Prop}{p:Nat}{s:Pi.Ps}(h:zX w G p s):p<w.heap.size:=by obtain⟨v,hp⟩:=h.x;exact hp.lt
theorem zX.kept{w w':World}{G:Nat->Prop}{p:Nat}{s:Pi.Ps}(h:zX w G p s)(A:zY G w w'):zX w' G p s:=by obtain⟨v,hp⟩:=h.x;have B:=A p hp.lt h.gp;exact⟨⟨v,hp.kept B fun g D=>A g (hp.own.lt g D).2 (h.row g ⟨v,hp.cell.2.2.1,D⟩)⟩,h.gp,fun z E=>h.row z (E.same B)⟩
theorem zX.mono{w:World}{G A:Nat->Prop}{p:Nat}{s:Pi.Ps}(h:zX w G p s)(hm:∀k,k<w.heap.size->G k->A k):zX w A p s:=by obtain⟨v,hp⟩:=h.x;exact⟨h.x,hm p hp.lt h.gp,fun z B=>hm z (hp.own.lt z (hp.rowIs B)).2 (h.row z B)⟩
abbrev Own(F:Nat->Prop)(A:Nat->Nat)(c:Nat)(k:Nat):Prop:=F k/\A k=c
structure SS(w:World)(F:Nat->Prop)(s:Nat)(S:Sc)(L:Lay)(tg:Nat->Nat):Prop where
 sx:Sx w (Own F tg 0) s S L
 ts:zrc w (Own F tg 1) L.tb L.gb L.vt S.ts
 gs:zqX w (Own F tg 2) L.gb L.bb L.lb L.vg S.gs
 bs:zqY w (Own F tg 3) L.bb S.gs
 ls:zqZ w (Own F tg 4) L.lb S.gs
 cs:zq0 w (Own F tg 5) L.cb L.vc S.ps S.cs
 tr:zS w (Own F tg 6) L.t L.tp S.tree
 po:zX w (Own F tg 7) L.pp S.pool
 bk:zM w (Own F tg 8) L.bk S.book
 vh:xJ w (Own F tg 0) 99 L.vh (yo L.hb S.ps)
 hs:∀p,p<S.ps->zB w (Own F tg (p+9)) (L.hb p) (S.hs p)
def zq(w:World)(F:Nat->Prop)(s:Nat)(S:Sc)(L:Lay):Prop:=∃tg,SS w F s S L tg
def zD(A:Nat->Nat)(w:World)(c:Nat)(k:Nat):Nat:=if k<w.heap.size then A k else c
theorem yJ{X:World->(Nat->Prop)->Prop}(M:∀{w w':World} {G:Nat->Prop},X w G->zY G w w'->X w' G)(hm:∀{w:World} {G H:Nat->Prop},X w G->(∀k,k<w.heap.size->G k->H k)->X w H)
 {w w':World} {F:Nat->Prop} {B:Nat->Nat} {c d:Nat} (h:X w (Own F B d)) (J:zo8 (Own F B c) w w') (E:d≠c):X w' (Own (Ext F w w') (zD B w c) d):=by
 have N:X w (fun k=>Own F B d k/\k<w.heap.size):=hm h fun k D A=>⟨A,D⟩
 have I:X w' (fun k=>Own F B d k/\k<w.heap.size):=M N fun k D A=>J.block k D fun e=>E (A.1.2.symm.trans e.2);exact hm I fun k D A=>⟨.inl A.1.1,by show(if k<w.heap.size then B k else c)=d;rw[if_pos A.2];exact A.1.2⟩
theorem xV{X:World->(Nat->Prop)->Prop}(hm:∀{w:World} {G D:Nat->Prop},X w G->(∀k,k<w.heap.size->G k->D k)->X w D)
 {w w':World} {F:Nat->Prop} {B:Nat->Nat} {c:Nat} (h:X w' (Ext (Own F B c) w w')):X w' (Own (Ext F w w') (zD B w c) c):=
 hm h fun k hl A=>by
  rcases A with A | A
  ·exact⟨.inl A.1,by unfold zD;split;exact A.2;rfl⟩
  ·exact⟨.inr A,by unfold zD;rw[if_neg (by omega)]⟩
theorem zq.kept{w w':World}{F:Nat->Prop}{s:Nat}{S:Sc}{L:Lay}(h:zq w F s S L)(E:zY F w w'):zq w' F s S L:=by obtain⟨B,h⟩:=h;have A:∀c,zY (Own F B c) w w':=fun c k G D=>E k G D.1;exact⟨B,h.sx.kept (A _),h.ts.kept (A _),h.gs.kept (A _),h.bs.kept (A _),h.ls.kept (A _),h.cs.kept (A _),h.tr.kept (A _),h.po.kept (A _),h.bk.kept (A _),h.vh.kept (A _),fun p hp=>(h.hs p hp).kept (A _)⟩
theorem zq.mono{w:World}{F D:Nat->Prop}{s:Nat}{S:Sc}{L:Lay}(h:zq w F s S L)(hm:∀k,k<w.heap.size->F k->D k):zq w D s S L:=by
 obtain⟨B,h⟩:=h;have A:∀c k,k<w.heap.size->Own F B c k->Own D B c k:=fun c k G E=>⟨hm k G E.1,E.2⟩
 exact⟨B,h.sx.mono (A _),h.ts.mono (A _),h.gs.mono (A _),h.bs.mono (A _),h.ls.mono (A _),h.cs.mono (A _),h.tr.mono (A _),h.po.mono (A _),h.bk.mono (A _),h.vh.mono (A _),fun p hp=>(h.hs p hp).mono (A _)⟩
def zn(w:World)(F:Nat->Prop)(s:Nat)(S':Sc)(L:Lay)(w':World):Prop:=zq w' (Ext F w w') s S' L/\zo8 F w w'
theorem zn.refl{w:World}{F:Nat->Prop}{s:Nat}{S:Sc}{L:Lay}(h:zq w F s S L):zn w F s S L w:=⟨h.mono fun k _ A=>.inl A,.refl F w⟩
theorem zn.then{w w1 D:World}{F:Nat->Prop}{s:Nat}{H A:Sc}{L B:Lay}(a:zn w F s H L w1)(b:zn w1 (Ext F w w1) s A B D):zn w F s A B D:=
 ⟨b.1.mono fun k hk E=>Ext.trans a.2.size b.2.size k E,zo8.exts (G:=F) a.2 b.2⟩
theorem zn.below{w w1 B:World}{F:Nat->Prop}{s:Nat}{E:Sc}{L:Lay}(a:zn w F s E L w1)(b:Below w1.heap.size w1 B):zn w F s E L B:=
 ⟨(
  a.1.kept (.zo7 b)).mono fun k D A=>by
  rcases A with A | ⟨G,h2⟩
  ·exact .inl A
  ·exact .inr ⟨G,by have:=b.size;omega⟩,a.2.trans (zo8.zo7 b:zo8 F w1 B) fun k D=>.inl D⟩
theorem zn.zo7{w w1 G:World}{F:Nat->Prop}{s:Nat}{B:Sc}{E:Lay}(a:Below w.heap.size w w1)(b:zn w1 F s B E G):zn w F s B E G:=
 ⟨b.1.mono fun k D A=>by
  rcases A with A | ⟨h1,H⟩
  ·exact .inl A
  ·exact .inr ⟨by have:=a.size;omega,H⟩,(zo8.zo7 a:zo8 F w w1).trans b.2 fun k D=>.inl D⟩
theorem Sx.part{w w':World}{F:Nat->Prop}{A:Nat->Nat}{c d:Nat}{s:Nat}{S:Sc}{L:Lay}(h:Sx w (Own F A d) s S L)(D:zo8 (Own F A c) w w')(B:d≠c):Sx w' (Own (Ext F w w') (zD A w c) d) s S L:=yJ (X:=fun w G=>Sx w G s S L) Sx.kept Sx.mono h D B
theorem zrc.part{w w':World}{F:Nat->Prop}{A:Nat->Nat}{c d:Nat}{tb gb:Nat->Nat}{vt:Value}{l:List Tk}(h:zrc w (Own F A d) tb gb vt l)(D:zo8 (Own F A c) w w')(B:d≠c):zrc w' (Own (Ext F w w') (zD A w c) d) tb gb vt l:=yJ (X:=fun w G=>zrc w G tb gb vt l) zrc.kept zrc.mono h D B
theorem zrc.zqh{w w':World}{F:Nat->Prop}{A:Nat->Nat}{c:Nat}{tb gb:Nat->Nat}{vt:Value}{l:List Tk}(h:zrc w' (Ext (Own F A c) w w') tb gb vt l):zrc w' (Own (Ext F w w') (zD A w c) c) tb gb vt l:=xV (X:=fun w G=>zrc w G tb gb vt l) zrc.mono h
theorem zqX.part{w w':World}{F:Nat->Prop}{A:Nat->Nat}{c d:Nat}{gb bb lb:Nat->Nat}{vg:Value}{l:List Gp}(h:zqX w (Own F A d) gb bb lb vg l)(D:zo8 (Own F A c) w w')(B:d≠c):zqX w' (Own (Ext F w w') (zD A w c) d) gb bb lb vg l:=yJ (X:=fun w G=>zqX w G gb bb lb vg l) zqX.kept zqX.mono h D B
theorem zqX.zqh{w w':World}{F:Nat->Prop}{A:Nat->Nat}{c:Nat}{gb bb lb:Nat->Nat}{vg:Value}{l:List Gp}(h:zqX w' (Ext (Own F A c) w w') gb bb lb vg l):zqX w' (Own (Ext F w w') (zD A w c) c) gb bb lb vg l:=xV (X:=fun w G=>zqX w G gb bb lb vg l) zqX.mono h
theorem zqY.part{w w':World}{F:Nat->Prop}{A:Nat->Nat}{c d:Nat}{bb:Nat->Nat}{l:List Gp}(h:zqY w (Own F A d) bb l)(D:zo8 (Own F A c) w w')(B:d≠c):zqY w' (Own (Ext F w w') (zD A w c) d) bb l:=yJ (X:=fun w G=>zqY w G bb l) zqY.kept zqY.mono h D B
theorem zqY.zqh{w w':World}{F:Nat->Prop}{A:Nat->Nat}{c:Nat}{bb:Nat->Nat}{l:List Gp}(h:zqY w' (Ext (Own F A c) w w') bb l):zqY w' (Own (Ext F w w') (zD A w c) c) bb l:=xV (X:=fun w G=>zqY w G bb l) zqY.mono h
theorem zqZ.part{w w':World}{F:Nat->Prop}{A:Nat->Nat}{c d:Nat}{lb:Nat->Nat}{l:List Gp}(h:zqZ w (Own F A d) lb l)(D:zo8 (Own F A c) w w')(B:d≠c):zqZ w' (Own (Ext F w w') (zD A w c) d) lb l:=yJ (X:=fun w G=>zqZ w G lb l) zqZ.kept zqZ.mono h D B
theorem zqZ.zqh{w w':World}{F:Nat->Prop}{A:Nat->Nat}{c:Nat}{lb:Nat->Nat}{l:List Gp}(h:zqZ w' (Ext (Own F A c) w w') lb l):zqZ w' (Own (Ext F w w') (zD A w c) c) lb l:=xV (X:=fun w G=>zqZ w G lb l) zqZ.mono h
theorem zq0.part{w w':World}{F:Nat->Prop}{A:Nat->Nat}{c d:Nat}{cb:Nat->Nat}{vc:Value}{ps:Nat}{cs:Nat->Ck}(h:zq0 w (Own F A d) cb vc ps cs)(D:zo8 (Own F A c) w w')(B:d≠c):zq0 w' (Own (Ext F w w') (zD A w c) d) cb vc ps cs:=yJ (X:=fun w G=>zq0 w G cb vc ps cs) zq0.kept zq0.mono h D B
theorem zq0.zqh{w w':World}{F:Nat->Prop}{A:Nat->Nat}{c:Nat}{cb:Nat->Nat}{vc:Value}{ps:Nat}{cs:Nat->Ck}(h:zq0 w' (Ext (Own F A c) w w') cb vc ps cs):zq0 w' (Own (Ext F w w') (zD A w c) c) cb vc ps cs:=xV (X:=fun w G=>zq0 w G cb vc ps cs) zq0.mono h
theorem zS.part{w w':World}{F:Nat->Prop}{A:Nat->Nat}{c d:Nat}{t D:Nat}{x:Ps}(h:zS w (Own F A d) t D x)(E:zo8 (Own F A c) w w')(B:d≠c):zS w' (Own (Ext F w w') (zD A w c) d) t D x:=yJ (X:=fun w G=>zS w G t D x) zS.kept zS.mono h E B
theorem zS.zqh{w w':World}{F:Nat->Prop}{B:Nat->Nat}{c:Nat}{t A:Nat}{x:Ps}(h:zS w' (Ext (Own F B c) w w') t A x):zS w' (Own (Ext F w w') (zD B w c) c) t A x:=xV (X:=fun w G=>zS w G t A x) zS.mono h
theorem zX.part{w w':World}{F:Nat->Prop}{A:Nat->Nat}{c d:Nat}{p:Nat}{x:Pi.Ps}(h:zX w (Own F A d) p x)(D:zo8 (Own F A c) w w')(B:d≠c):zX w' (Own (Ext F w w') (zD A w c) d) p x:=yJ (X:=fun w G=>zX w G p x) zX.kept zX.mono h D B
theorem zX.zqh{w w':World}{F:Nat->Prop}{A:Nat->Nat}{c:Nat}{p:Nat}{x:Pi.Ps}(h:zX w' (Ext (Own F A c) w w') p x):zX w' (Own (Ext F w w') (zD A w c) c) p x:=xV (X:=fun w G=>zX w G p x) zX.mono h
theorem zM.part{w w':World}{F:Nat->Prop}{A:Nat->Nat}{c d:Nat}{p:Nat}{x:Bk}(h:zM w (Own F A d) p x)(D:zo8 (Own F A c) w w')(B:d≠c):zM w' (Own (Ext F w w') (zD A w c) d) p x:=yJ (X:=fun w G=>zM w G p x) zM.kept zM.mono h D B
theorem zM.zqh{w w':World}{F:Nat->Prop}{A:Nat->Nat}{c:Nat}{p:Nat}{x:Bk}(h:zM w' (Ext (Own F A c) w w') p x):zM w' (Own (Ext F w w') (zD A w c) c) p x:=xV (X:=fun w G=>zM w G p x) zM.mono h
theorem xJ.part{w w':World}{F:Nat->Prop}{A:Nat->Nat}{c d:Nat}{e:TypeId}{v:Value}{l:List (Option Nat)}(h:xJ w (Own F A d) e v l)(D:zo8 (Own F A c) w w')(B:d≠c):xJ w' (Own (Ext F w w') (zD A w c) d) e v l:=yJ (X:=fun w G=>xJ w G e v l) xJ.kept xJ.mono h D B
theorem zB.part{w w':World}{F:Nat->Prop}{A:Nat->Nat}{c d:Nat}{p:Nat}{x:Hm}(h:zB w (Own F A d) p x)(D:zo8 (Own F A c) w w')(B:d≠c):zB w' (Own (Ext F w w') (zD A w c) d) p x:=yJ (X:=fun w G=>zB w G p x) zB.kept zB.mono h D B
theorem zB.zqh{w w':World}{F:Nat->Prop}{A:Nat->Nat}{c:Nat}{p:Nat}{x:Hm}(h:zB w' (Ext (Own F A c) w w') p x):zB w' (Own (Ext F w w') (zD A w c) c) p x:=xV (X:=fun w G=>zB w G p x) zB.mono h
theorem Sx.of{w:World}{G:Nat->Prop}{s:Nat}{S S':Sc}{L:Lay}(h:Sx w G s S L)(e:S'.ps=S.ps/\S'.tick=S.tick/\S'.gran=S.gran/\S'.credit=S.credit/\S'.lat=S.lat/\S'.pl=S.pl/\S'.at_=S.at_):Sx w G s S' L:=by obtain⟨B,J,D,H,A,E,I⟩:=e;exact⟨h.ty,h.own,by rw[B];exact h.c0,by rw[J];exact h.c1,by rw[D];exact h.c2,by rw[H];exact h.c3,by rw[A];exact h.c4,h.c5,h.c6,h.c7,h.c8,by rw[E];exact h.pl,by rw[I];exact h.at_,h.vh,h.vc,h.bk⟩
theorem zbN{F:Nat->Prop}{A:Nat->Nat}{c b:Nat}{w w':World}(h:Own F A c b)(D:zo8 (fun k=>k=b) w w'):zo8 (Own F A c) w w':=D.mono fun k B=>by rw[B];exact h
theorem zmL{α:Type}(l:List α)(n m:Nat)(x d:α)(h:n<l.length):(l.set n x).getD m d=if m=n then x else l.getD m d:=by
 simp only[List.getD_eq_getElem?_getD];by_cases e:m=n
 ·subst e;simp[h]
 ·rw[List.getElem?_set_ne (Ne.symm e),if_neg e]
theorem zT{α:Type}{l:List α}{n m:Nat}{x y:α}(h:(l.set n x)[m]?=some y):(m=n/\y=x)∨(m≠n/\l[m]?=some y):=by
 by_cases e:m=n
 ·subst e;have A:=(ze h).1;rw[List.getElem?_set_self (by simpa using A)]at h;exact .inl ⟨rfl,(Option.some.inj h).symm⟩
 ·rw[List.getElem?_set_ne (Ne.symm e)]at h;exact .inr ⟨e,h⟩
theorem ziC(tb:Nat->Nat)(l:List Tk)(n:Nat)(t:Tk):yT tb (l.set n t)=yT tb l:=by simp[yT]
theorem zbf(gb:Nat->Nat)(l:List Gp){n:Nat}{g g':Gp}(A:l[n]?=some g)(h:g'.there=g.there):yx gb (l.set n g')=yx gb l:=by
 have B:=(ze A).1;unfold yx;rw[List.length_set];refine List.map_congr_left fun m _=>?_;rw[zmL _ _ _ _ _ B];split
 ·rename_i e;subst e;rw[List.getD_eq_getElem?_getD,A,h];rfl
 ·rfl
theorem SS.zri{w w':World}{F:Nat->Prop}{s:Nat}{S:Sc}{L:Lay}{I:Nat->Nat}(h:SS w F s S L I){n:Nat}{t t':Tk}(G:S.ts[n]?=some t)(D:zo8 (fun k=>k=L.tb n) w w')(U:zp7 w' (L.tb n) L.gb t'):zn w F s (S.zps n t') L w':=by
 obtain⟨J,B⟩:=h.ts.tk n t G;have A:=zbN J D;have N:zrc w' (Ext (Own F I 1) w w') L.tb L.gb L.vt (S.ts.set n t'):=by
  refine⟨?_,?_,fun a b X hb=>h.ts.inj a b (by simpa using X) (by simpa using hb)⟩
  ·rw[ziC];refine⟨⟨h.ts.row.row.1,?_⟩,fun k B=>.inl (h.ts.row.own k B)⟩;rcases h.ts.row.row.2 with G | ⟨g,cap,cur,V,hb,M,T⟩
   ·exact .inl G
   ·refine .inr ⟨g,cap,cur,V,hb,?_,T⟩;rw[D.block g (zd M).1 ?_];exact M;rintro rfl;unfold zp7 at B;rw[M]at B;simp only[Option.some.injEq,Obj.cells.injEq]at B;exact absurd B.2.1 (by decide)
  ·intro m y E;rcases zT E with⟨rfl,rfl⟩ | ⟨H,E⟩
   ·exact⟨.inl J,U⟩
   ·obtain⟨R,O⟩:=h.ts.tk m y E;exact⟨.inl R,O.of (D.block _ O.lt fun e=>H (h.ts.inj m n (ze E).1 (ze G).1 e))⟩
 exact⟨⟨zD I w 1,(h.sx.part A (by decide)).of ⟨rfl,rfl,rfl,rfl,rfl,rfl,rfl⟩,N.zqh,h.gs.part A (by decide),h.bs.part A (by decide),h.ls.part A (by decide),h.cs.part A (by decide),h.tr.part A (by decide),h.po.part A (by decide),h.bk.part A (by decide),h.vh.part A (by decide),fun p hp=>(h.hs p hp).part A (by omega)⟩,D.mono fun k B=>by rw[B];exact J.1⟩
theorem SS.zrz{w w':World}{F:Nat->Prop}{s:Nat}{S:Sc}{L:Lay}{R:Nat->Nat}(h:SS w F s S L R){n:Nat}{g g':Gp}(I:S.gs[n]?=some g)(hb:g'.band=g.band)(c:g'.line=g.line)(O:g'.there=g.there)(N:zo8 (fun k=>k=L.gb n) w w')(f:zrA w' (L.gb n) n (L.bb n) (L.lb n) g'):zn w F s (S.zpd n g') L w':=by
 obtain⟨T,E⟩:=h.gs.gp n g I;have U:=(ze I).1;have D:=zbN T N;have X:zqX w' (Ext (Own F R 2) w w') L.gb L.bb L.lb L.vg (S.gs.set n g'):=by
  refine⟨?_,?_,fun a b M hb=>h.gs.inj a b (by simpa using M) (by simpa using hb)⟩
  ·rw[zbf _ _ I O];refine⟨⟨h.gs.row.row.1,?_⟩,fun k E=>.inl (h.gs.row.own k E)⟩;rcases h.gs.row.row.2 with I | ⟨r,cap,cur,j,hb,V,d⟩
   ·exact .inl I
   ·refine .inr ⟨r,cap,cur,j,hb,?_,d⟩;rw[N.block r (zd V).1 ?_];exact V;rintro rfl;unfold zrA at E;rw[V]at E;simp only[Option.some.injEq,Obj.cells.injEq]at E;exact absurd E.2.1 (by decide)
  ·intro m y A;rcases zT A with⟨rfl,rfl⟩ | ⟨H,A⟩
   ·exact⟨.inl T,f⟩
   ·obtain⟨Z,Y⟩:=h.gs.gp m y A;exact⟨.inl Z,Y.of (N.block _ Y.lt fun e=>H (h.gs.inj m n (ze A).1 U e))⟩
 have G:=h.bs.part D (by decide);have J:=h.ls.part D (by decide);refine⟨⟨zD R w 2,(h.sx.part D (by decide)).of ⟨rfl,rfl,rfl,rfl,rfl,rfl,rfl⟩,h.ts.part D (by decide),X.zqh,⟨?_,fun a b M hb=>G.inj a b (by simpa[Sc.zpd]using M) (by simpa[Sc.zpd]using hb)⟩,⟨?_,fun a b M hb=>J.inj a b (by simpa[Sc.zpd]using M) (by simpa[Sc.zpd]using hb)⟩,h.cs.part D (by decide),h.tr.part D (by decide),h.po.part D (by decide),h.bk.part D (by decide),h.vh.part D (by decide),fun p hp=>(h.hs p hp).part D (by omega)⟩,N.mono fun k E=>by rw[E];exact T.1⟩
 ·intro m y b A B;rcases zT A with⟨rfl,rfl⟩ | ⟨H,A⟩
  ·exact G.bd m g b I (hb▸B)
  ·exact G.bd m y b A B
 ·intro m y A B;rcases zT A with⟨rfl,rfl⟩ | ⟨H,A⟩
  ·rw[c];exact J.ln m g I (hb▸B)
  ·exact J.ln m y A B
theorem zfE{n bb lb:Nat}{g:Gp}{b A:zqL}(hb:g.band=some b):vS n bb lb (g.zpl A)=vS n bb lb g:=by simp[Gp.zpl,hb]
theorem SS.zrF{w w':World}{F:Nat->Prop}{s:Nat}{S:Sc}{L:Lay}{U:Nat->Nat}(h:SS w F s S L U){n:Nat}{g:Gp}{b I:zqL}(J:S.gs[n]?=some g)(hb:g.band=some b)(R:zo8 (fun k=>k=L.bb n) w w')(Z:Qt.zo9 w' (L.bb n) I):zn w F s (S.zpd n (g.zpl I)) L w':=by
 obtain⟨V,Y⟩:=h.bs.bd n g b J hb;have X:=(ze J).1;have B:=zbN V R;have E:=h.gs.part B (by decide);have H:=h.ls.part B (by decide);have O:zqY w' (Ext (Own F U 3) w w') L.bb (S.gs.set n (g.zpl I)):=by
  refine⟨?_,fun a b N hb=>h.bs.inj a b (by simpa using N) (by simpa using hb)⟩;intro m y c A D;rcases zT A with⟨rfl,rfl⟩ | ⟨G,A⟩
  ·obtain rfl:I=c:=Option.some.inj D;exact⟨.inl V,Z⟩
  ·obtain⟨T,M⟩:=h.bs.bd m y c A D;exact⟨.inl T,M.kept (R.block _ M.lt fun e=>G (h.bs.inj m n (ze A).1 X e))⟩
 refine⟨⟨zD U w 3,(h.sx.part B (by decide)).of ⟨rfl,rfl,rfl,rfl,rfl,rfl,rfl⟩,h.ts.part B (by decide),⟨?_,?_,fun a b N hb=>E.inj a b (by simpa[Sc.zpd]using N) (by simpa[Sc.zpd]using hb)⟩,O.zqh,⟨?_,fun a b N hb=>H.inj a b (by simpa[Sc.zpd]using N) (by simpa[Sc.zpd]using hb)⟩,h.cs.part B (by decide),h.tr.part B (by decide),h.po.part B (by decide),h.bk.part B (by decide),h.vh.part B (by decide),fun p hp=>(h.hs p hp).part B (by omega)⟩,R.mono fun k Y=>by rw[Y];exact V.1⟩
 ·show xJ _ _ _ _ (yx L.gb (S.gs.set n (g.zpl I)));rw[zbf (g:=g) (g':=g.zpl I) _ _ J rfl];exact E.row
 ·intro m y A;rcases zT A with⟨rfl,rfl⟩ | ⟨G,A⟩
  ·obtain⟨T,M⟩:=E.gp m g J;refine⟨T,?_⟩;unfold zrA at M ⊢;rw[zfE hb];exact M
  ·exact E.gp m y A
 ·intro m y A D;rcases zT A with⟨rfl,rfl⟩ | ⟨G,A⟩
  ·exact H.ln m g J (by rw[hb];rfl)
  ·exact H.ln m y A D
theorem SS.zse{w w':World}{F:Nat->Prop}{s:Nat}{S:Sc}{L:Lay}{O:Nat->Nat}(h:SS w F s S L O){n:Nat}{g:Gp}{M:List Nat}(I:S.gs[n]?=some g)(hb:g.band.isSome=true)(N:zo8 (fun k=>k=L.lb n) w w')(Z:zG w' (L.lb n) M):zn w F s (S.zpd n (g.zpm M)) L w':=by
 obtain⟨R,V⟩:=h.ls.ln n g I hb;have T:=(ze I).1;have B:=zbN R N;have E:=h.gs.part B (by decide);have G:=h.bs.part B (by decide);have U:zqZ w' (Ext (Own F O 4) w w') L.lb (S.gs.set n (g.zpm M)):=by
  refine⟨?_,fun a b J hb=>h.ls.inj a b (by simpa using J) (by simpa using hb)⟩;intro m y A D;rcases zT A with⟨rfl,rfl⟩ | ⟨H,A⟩
  ·exact⟨.inl R,Z⟩
  ·obtain⟨Y,X⟩:=h.ls.ln m y A D;exact⟨.inl Y,X.of (N.block _ X.lt fun e=>H (h.ls.inj m n (ze A).1 T e))⟩
 refine⟨⟨zD O w 4,(h.sx.part B (by decide)).of ⟨rfl,rfl,rfl,rfl,rfl,rfl,rfl⟩,h.ts.part B (by decide),⟨?_,?_,fun a b J hb=>E.inj a b (by simpa[Sc.zpd]using J) (by simpa[Sc.zpd]using hb)⟩,⟨?_,fun a b J hb=>G.inj a b (by simpa[Sc.zpd]using J) (by simpa[Sc.zpd]using hb)⟩,U.zqh,h.cs.part B (by decide),h.tr.part B (by decide),h.po.part B (by decide),h.bk.part B (by decide),h.vh.part B (by decide),fun p hp=>(h.hs p hp).part B (by omega)⟩,N.mono fun k V=>by rw[V];exact R.1⟩
 ·show xJ _ _ _ _ (yx L.gb (S.gs.set n (g.zpm M)));rw[zbf (g:=g) (g':=g.zpm M) _ _ I rfl];exact E.row
 ·intro m y A;rcases zT A with⟨rfl,rfl⟩ | ⟨H,A⟩
  ·exact E.gp m g I
  ·exact E.gp m y A
 ·intro m y b A D;rcases zT A with⟨rfl,rfl⟩ | ⟨H,A⟩
  ·exact G.bd m g b I D
  ·exact G.bd m y b A D
theorem SS.zsp{w w':World}{F:Nat->Prop}{s:Nat}{S:Sc}{L:Lay}{G:Nat->Nat}(h:SS w F s S L G){p:Nat}{E:Ck}(hp:p<S.ps)(D:zo8 (fun k=>k=L.cb p) w w')(U:yj w' (L.cb p) E):zn w F s (S.zpG p E) L w':=by
 obtain⟨H,B⟩:=h.cs.ck p hp;have A:=zbN H D;have J:zq0 w' (Ext (Own F G 5) w w') L.cb L.vc S.ps (zpt S.cs p E):=by
  refine⟨?_,?_,h.cs.inj⟩
  ·refine⟨⟨h.cs.row.row.1,?_⟩,fun k B=>.inl (h.cs.row.own k B)⟩;rcases h.cs.row.row.2 with V | ⟨r,cap,cur,X,hb,I,T⟩
   ·exact .inl V
   ·refine .inr ⟨r,cap,cur,X,hb,?_,T⟩;rw[D.block r (zd I).1 ?_];exact I;rintro rfl;unfold yj at B;rw[I]at B;simp only[Option.some.injEq,Obj.cells.injEq]at B;exact absurd B.2.1 (by decide)
  ·intro q M;by_cases e:q=p
   ·subst e;rw[zy];exact⟨.inl H,U⟩
   ·rw[zA _ _ e];obtain⟨R,N⟩:=h.cs.ck q M;exact⟨.inl R,N.of (D.block _ N.lt fun O=>e (h.cs.inj q p M hp O))⟩
 exact⟨⟨zD G w 5,(h.sx.part A (by decide)).of ⟨rfl,rfl,rfl,rfl,rfl,rfl,rfl⟩,h.ts.part A (by decide),h.gs.part A (by decide),h.bs.part A (by decide),h.ls.part A (by decide),J.zqh,h.tr.part A (by decide),h.po.part A (by decide),h.bk.part A (by decide),h.vh.part A (by decide),fun p hp=>(h.hs p hp).part A (by omega)⟩,D.mono fun k B=>by rw[B];exact H.1⟩
theorem SS.updH{w w':World}{F:Nat->Prop}{s:Nat}{S:Sc}{L:Lay}{B:Nat->Nat}(h:SS w F s S L B){p:Nat}{x:Hm}(hp:p<S.ps)(D:yW w (Own F B (p+9)) (L.hb p) x w'):zn w F s (S.zpf p x) L w':=by
 have A:=D.2;refine⟨⟨zD B w (p+9),(h.sx.part A (by omega)).of ⟨rfl,rfl,rfl,rfl,rfl,rfl,rfl⟩,h.ts.part A (by omega),h.gs.part A (by omega),h.bs.part A (by omega),h.ls.part A (by omega),h.cs.part A (by omega),h.tr.part A (by omega),h.po.part A (by omega),h.bk.part A (by omega),h.vh.part A (by omega),fun q G=>?_⟩,A.mono fun k E=>E.1⟩;show zB w' _ (L.hb q) (zpt S.hs p x q);by_cases e:q=p
 ·subst e;rw[zy];exact D.1.zqh
 ·rw[zA _ _ e];exact(h.hs q G).part A (by omega)
theorem SS.updK{w w':World}{F:Nat->Prop}{s:Nat}{S:Sc}{L:Lay}{B:Nat->Nat}(h:SS w F s S L B){x:Bk}(G:zM w' (Ext (Own F B 8) w w') L.bk x)(A:zo8 (Own F B 8) w w'):zn w F s { S with book:=x } L w':=
 ⟨⟨zD B w 8,(h.sx.part A (by omega)).of ⟨rfl,rfl,rfl,rfl,rfl,rfl,rfl⟩,h.ts.part A (by omega),h.gs.part A (by omega),h.bs.part A (by omega),h.ls.part A (by omega),h.cs.part A (by omega),h.tr.part A (by omega),h.po.part A (by omega),G.zqh,h.vh.part A (by omega),fun q E=>(h.hs q E).part A (by omega)⟩,A.mono fun k D=>D.1⟩
theorem zmM{w w':World}{G:Nat->Prop}{p:Nat}{x x':Pi.Ps}(h:zX w G p x)(hs:Pi.zpa 0 p w w')(E:Pi.zrJ w' 0 p 64 x'):zo8 G w w'/\zX w' (Ext G w w') p x':=by
 refine⟨hs.zpW.mono fun k H=>?_,E,.inl h.gp,fun z D=>?_⟩
 ·rcases H with rfl | ⟨_,I⟩
  ·exact h.gp
  ·exact h.row k I
 ·obtain⟨v,hp⟩:=E;have B:=(hp.own.lt z (hp.rowIs D)).2;by_cases A:z<w.heap.size
  ·exact .inl (h.row z (hs.row h.lt z A D))
  ·exact .inr ⟨by omega,B⟩
theorem zmN{w w':World}{G:Nat->Prop}{t p:Nat}{x x':Ps}(h:zS w G t p x)(hs:zpa 0 p w w')(E:zqn w' 0 t p x'):zo8 G w w'/\zS w' (Ext G w w') t p x':=by
 refine⟨hs.zpW.mono fun k H=>?_,E,.inl h.gt,.inl h.gp,fun z D=>?_⟩
 ·rcases H with rfl | ⟨_,I⟩
  ·exact h.gp
  ·exact h.row k I
 ·obtain⟨v,hp⟩:=E.has;have B:=(hp.own.lt z (hp.rowIs D)).2;by_cases A:z<w.heap.size
  ·exact .inl (h.row z (hs.row h.x.has.lt z A D))
  ·exact .inr ⟨by omega,B⟩
theorem SS.zrp{w w':World}{F:Nat->Prop}{s:Nat}{S:Sc}{L:Lay}{D:Nat->Nat}(h:SS w F s S L D){x:Pi.Ps}(hs:Pi.zpa 0 L.pp w w')(B:Pi.zrJ w' 0 L.pp 64 x):zn w F s { S with pool:=x } L w':=by obtain⟨A,B⟩:=zmM h.po hs B;exact⟨⟨zD D w 7,(h.sx.part A (by omega)).of ⟨rfl,rfl,rfl,rfl,rfl,rfl,rfl⟩,h.ts.part A (by omega),h.gs.part A (by omega),h.bs.part A (by omega),h.ls.part A (by omega),h.cs.part A (by omega),h.tr.part A (by omega),B.zqh,h.bk.part A (by omega),h.vh.part A (by omega),fun q G=>(h.hs q G).part A (by omega)⟩,A.mono fun k E=>E.1⟩
theorem SS.updR{w w':World}{F:Nat->Prop}{s:Nat}{S:Sc}{L:Lay}{D:Nat->Nat}(h:SS w F s S L D){x:Ps}(hs:zpa 0 L.tp w w')(B:zqn w' 0 L.t L.tp x):zn w F s { S with tree:=x } L w':=by obtain⟨A,B⟩:=zmN h.tr hs B;exact⟨⟨zD D w 6,(h.sx.part A (by omega)).of ⟨rfl,rfl,rfl,rfl,rfl,rfl,rfl⟩,h.ts.part A (by omega),h.gs.part A (by omega),h.bs.part A (by omega),h.ls.part A (by omega),h.cs.part A (by omega),B.zqh,h.po.part A (by omega),h.bk.part A (by omega),h.vh.part A (by omega),fun q G=>(h.hs q G).part A (by omega)⟩,A.mono fun k E=>E.1⟩
section
attribute [local go_sem ↓] Go.wp_at_zero Go.wp_at_succ
abbrev ptr(b:Nat):Value:=.pointer (some ⟨b,0,none⟩)
abbrev zaV(f:Nat->Nat)(x:Option Nat):Value:=.pointer (x.map fun n=>⟨f n,0,none⟩)
theorem yN(a:Int)(w:World)(F:Nat->Prop)(s:Nat)(S:Sc)(L:Lay)(h:zq w F s S L)(hn:S.gs.length<=100000):
 Calls prog 27 #[ptr s,.int .i64 a] w fun z w'=>z=.returned (zaV L.gb (S.grp? a))/\w'=w:=by
 obtain⟨tg,h⟩:=h;have G:=h.sx.c8;have hl:=h.sx.lt;obtain⟨va,vc,B⟩:=h.gs.row.len;rw[yZ]at B;by_cases h0:a<0
 ·have e:S.grp? a=none:=by unfold Sc.grp?;rw[if_neg (by omega)]
  rw[e];rw[B]at G;clear h B e;go_enter func27,ntmps27;go_wp2;go_ret;exact⟨rfl,rfl⟩
 ·by_cases h1:(S.gs.length:Int)<=a
  ·have e:S.grp? a=none:=by unfold Sc.grp?;rw[if_neg (by omega)]
   rw[e];rw[B]at G;clear h B e;go_enter func27,ntmps27;go_wp2;go_ret;exact⟨rfl,rfl⟩
  ·obtain⟨k,rfl⟩:∃k:Nat,a=k:=⟨a.toNat,by omega⟩
   have M:k<S.gs.length:=by omega
   obtain⟨r,cap,A,J,h2⟩:=h.gs.row.at_ (zdJ M);rw[yZ]at A;rw[A]at G;have E:(k:Int) <(S.gs.length:Int):=by omega
   have e:S.grp? (k:Int)=if(S.gs.getD k ztc).there=true then some k else none:=by
    unfold Sc.grp?;by_cases D:(S.gs.getD k ztc).there=true
    ·rw[if_pos D,if_pos ⟨by omega,E,D⟩];simp
    ·rw[if_neg D,if_neg];rintro⟨_,_,N⟩;exact D N
   rw[e];have H:(Option.map (fun b=>(⟨b,0,none⟩:Addr)) (if(S.gs.getD k ztc).there=true then some (L.gb k)else none))=Option.map (fun n=>(⟨L.gb n,0,none⟩:Addr)) (if(S.gs.getD k ztc).there=true then some k else none):=by split <;> rfl
   rw[H]at J;obtain⟨x,I⟩:=zh (Option.map (fun n=>(⟨L.gb n,0,none⟩:Addr)) (if(S.gs.getD k ztc).there=true then some k else none))
   unfold zaV;rw[<-I]at J ⊢;clear h B A e H I;go_enter func27,ntmps27;go_wp2;go_ret;exact⟨rfl,rfl⟩
theorem qm(p:Int)(w:World)(F:Nat->Prop)(s:Nat)(S:Sc)(L:Lay)(h:zq w F s S L):
 Calls prog 58 #[ptr s,.int .i64 p] w fun z w'=>z=.returned (.bool (decide (S.zqM p)))/\w'=w:=by
 obtain⟨tg,h⟩:=h;have c0:=h.sx.c0;have hl:=h.sx.lt;clear h;by_cases h0:p<0
 ·have e:decide (S.zqM p)=false:=decide_eq_false (fun h=>by unfold Sc.zqM at h;omega);rw[e];go_enter func58,ntmps58;go_wp2;go_ret;exact⟨rfl,rfl⟩
 ·by_cases h1:p<S.ps
  ·have e:decide (S.zqM p)=true:=decide_eq_true (by unfold Sc.zqM;omega);rw[e];go_enter func58,ntmps58;go_wp2;go_ret;exact⟨rfl,rfl⟩
  ·have e:decide (S.zqM p)=false:=decide_eq_false (fun h=>by unfold Sc.zqM at h;omega);rw[e];go_enter func58,ntmps58;go_wp2;go_ret;exact⟨rfl,rfl⟩
theorem zbO{h:Hm}(D:h.Ok)(A:h.running≠ -1):∃(i:Nat) (j:Nat),h.running=i/\i<64/\h.even j i:=by
 unfold Hm.running vP at A ⊢;rcases zb5 .id .id 9 D 0 with B | ⟨j,i,⟨h1,E,h3,G⟩ | B⟩
 ·rw[if_pos B]at A;exact absurd rfl A
 ·rw[if_neg (by omega)];exact⟨i.toNat,j,by omega,by omega,by rw[Int.toNat_of_nonneg E];exact G⟩
 ·rw[if_pos B]at A;exact absurd rfl A
theorem vv{w:World}{G:Nat->Prop}{e:TypeId}{v:Value}{f:Nat->Nat}{n k:Nat}(h:xJ w G e v (yo f n))(B:k<n):∃r cap,v=.slice (some ⟨r,0,none⟩) n cap/\w.cell? ⟨r,k,none⟩=some (ptr (f k))/\r<w.heap.size:=by obtain⟨r,cap,A,D,E⟩:=h.at_ (zkI B);rw[xU]at A;exact⟨r,cap,A,D,E⟩
theorem yp(p:Int)(w:World)(F:Nat->Prop)(s:Nat)(S:Sc)(L:Lay)(h:zq w F s S L):
 Calls prog 22 #[ptr s,.int .i64 p] w fun z w'=>z=.returned (.int .i64 (if S.zqM p then S.running p.toNat else -1))/\Below w.heap.size w w':=by
 have G:=zc (qm p w F s S L h);by_cases hp:S.zqM p
 ·have e:decide (S.zqM p)=true:=by simp[hp]
  rw[e]at G;rw[if_pos hp];obtain⟨k,rfl⟩:∃k:Nat,p=k:=⟨p.toNat,by have:=hp.1;omega⟩
  have M:k<S.ps:=by have:=hp.2;omega
  rw[Int.toNat_natCast];obtain⟨tg,h⟩:=h;have O:=h.sx.vh;have I:=h.sx.lt;obtain⟨r,cap,U,Y,E⟩:=vv h.vh M;rw[U]at O;have h0:(k:Int) <(S.ps:Int):=by omega
  have H:=zc (xT w _ _ _ (h.hs k M));have A:=h.sx.at_;have h1:=zc A;by_cases R:(S.hs k).running= -1
  ·have D:S.running k= -1:=by unfold Sc.running;rw[if_pos (by omega)]
   rw[D];rw[R]at H;clear h U A hp e D;go_enter func22,ntmps22;go_wp2_with fail;refine G.out.mono ?_;rintro z V ⟨rfl,hw⟩;obtain rfl:=hw.symm;go_wp2_with fail;refine H.out.mono ?_;rintro z V ⟨rfl,hb⟩;have N:=zc hb;clear hb O I Y E;go_wp2;go_ret;exact⟨rfl,N.out⟩
  ·obtain⟨i,j,T,B,J⟩:=zbO (h.hs k M).2 R;have D:S.running k=S.at_ i:=by unfold Sc.running;rw[if_neg (by omega),T];rfl
   rw[D];rw[T]at H;have X:=A i B;have h2:(i:Int) <64:=by omega
   clear h U A hp e D R T J;go_enter func22,ntmps22;go_wp2_with fail;refine G.out.mono ?_;rintro z V ⟨rfl,hw⟩;obtain rfl:=hw.symm;go_wp2_with fail;refine H.out.mono ?_;rintro z Z ⟨rfl,hb⟩;have N:=zc hb;have h3:=((zf0 hb).1 s (41+i) I).trans X;have h4:s<Z.heap.size:=zf I hb.size;clear hb O I Y E X;go_wp2;go_ret;exact⟨rfl,N.out⟩
 ·have e:decide (S.zqM p)=false:=by simp[hp]
  rw[e]at G;rw[if_neg hp];clear h e hp;go_enter func22,ntmps22;go_wp2_with fail;refine G.out.mono ?_;rintro z V ⟨rfl,hw⟩;obtain rfl:=hw.symm;go_wp2;go_ret;exact⟨rfl,Below.refl _ _⟩
end
structure zdN(s:Sc)(n:Nat)(t:Tk):Prop where
 zpc:∃g,s.gs[t.zpc]?=some g/\g.there=true
 pool:∃q,s.pool.l[t.hi]?=some q/\q.used=true/\q.gen=t.hg
 hi:t.hi<64
 at_:s.at_ t.hi=n
 zqN:t.p<s.ps
 wt:2<=t.w/\t.w<=262144
 mask:0<=t.mask/\t.mask<=18446744073709551615
 e:t.e.Ok/\t.e.id=t.hi
 nice: -20<=t.nice/\t.nice<=19
 min: -9223372036854775808<=t.min/\t.min<=9223372036854775807
structure zoO(s:Sc)(k:Nat)(g:Gp):Prop where
 shares:2<=g.shares/\g.shares<=262144
 band:∃b,g.band=some b/\b.l.length=s.ps/\xt k b
 line:(∀p∈g.line,p<s.ps)/\g.line.Nodup
structure zmS(k:Bk)(b:Nat):Prop where
 bt:∀n,0<=k.bt n/\k.bt n<=k.total
 bg:∀n,0<=k.bg n/\k.bg n<=k.total
 total:0<=k.total/\k.total<=1000000000*(b:Int)
 many:k.n<=13*b
structure Sc.Ok(s:Sc)(b:Nat):Prop where
 zqg:b<=900
 ps:1<=s.ps/\s.ps<=64
 tick:1<=s.tick/\s.tick<=1000000000
 credit:0<=s.credit/\s.credit<=1000000000
 lat:1<=s.lat/\s.lat<=1000000000
 tr:Tr s.tree.l
 tok:s.tree.Ok 32 (b+2)
 zsf:s.pool.Ok 64 (b+2)
 tl:s.ts.length<=b
 gl:1<=s.gs.length/\s.gs.length<=b+1
 g0:∃g,s.gs[0]?=some g/\g.hi=0/\g.hg=0/\g.there=true/\g.band=none
 gk:∀(n:Nat) (g:Gp),s.gs[n]?=some g->g.there=true->(∃q,s.tree.l[g.hi]?=some q/\q.used=true/\q.gen=g.hg)/\s.pl g.hi=some n
 pl:∀(i n:Nat),s.pl i=some n->∃g:Gp,s.gs[n]?=some g/\g.there=true/\g.hi=i
 gu:∀i q,s.tree.l[i]?=some q->q.used=true->∃n,s.pl i=some n
 gx:∀(n:Nat) (g:Gp),s.gs[n]?=some g->g.there=true->n≠0->zoO s b g
 tk:∀(n:Nat) (t:Tk),s.ts[n]?=some t->t.dead=false->zdN s n t
 dead:∀(n:Nat) (t:Tk),s.ts[n]?=some t->t.on=true->t.dead=false
 hk:∀p,p<s.ps->∀i,((s.hs p).gs i).isSome=(s.pl i).isSome
 hu:∀p,p<s.ps->∀i x,(s.hs p).gs i=some x->i≠0->x.up=zrk s.tree.l i/\x.deep=dep s.tree.l i
 hc:∀p,p<s.ps->(s.hs p).credit=s.credit
 hf:∀p,p<s.ps->(s.hs p).zpC
 ev:∀p,p<s.ps->∀i k:Nat,(s.hs p).even i k↔∃(n:Nat) (t:Tk) (g:Gp),s.ts[n]?=some t/\t.on=true/\t.p=p/\s.gs[t.zpc]?=some g/\g.hi=i/\t.hi=k
 ck:∀p,p<s.ps->ud b (s.cs p)/\(s.cs p).lat=s.lat
 bk:zmS s.book b
theorem Sc.zp0{s:Sc}{n:Nat}{t:Tk}(h:s.ts[n]?=some t):s.t n=t:=by simp[Sc.t,List.getD_eq_getElem?_getD,h]
theorem Sc.zpj{s:Sc}{n:Nat}{g:Gp}(h:s.gs[n]?=some g):s.g n=g:=by simp[Sc.g,List.getD_eq_getElem?_getD,h]
theorem Sc.Ok.hi{s:Sc}{b:Nat}(h:s.Ok b){n:Nat}{g:Gp}(B:s.gs[n]?=some g)(D:g.there=true):g.hi<32:=by obtain⟨⟨q,A,_⟩,_⟩:=h.gk n g B D;have:=(ze A).1;have:=h.tok.room;omega
theorem Sc.Ok.find{s:Sc}{b:Nat}(h:s.Ok b){n:Nat}{g:Gp}(D:s.gs[n]?=some g)(E:g.there=true):s.tree.find g.hi g.hg=some g.hi:=by obtain⟨⟨q,B,hu,A⟩,_⟩:=h.gk n g D E;unfold Ps.find;rw[Int.toNat_natCast,B];simp[hu,A]
theorem Sc.Ok.on{s:Sc}{b:Nat}(h:s.Ok b){n:Nat}{t:Tk}(A:s.ts[n]?=some t)(B:t.on=true):zdN s n t:=h.tk n t A (h.dead n t A B)
theorem Sc.Ok.runs{s:Sc}{b:Nat}(h:s.Ok b){p:Nat}(hp:p<s.ps)(I:(s.hs p).Ok)(A:s.running p≠ -1):∃(n:Nat) (t:Tk),s.running p=(n:Nat)/\s.ts[n]?=some t/\t.on=true/\t.p=p/\(s.hs p).running≠ -1:=by
 unfold Sc.running at A ⊢;by_cases G:(s.hs p).running<0
 ·rw[if_pos G]at A;exact absurd rfl A
 ·rw[if_neg G];obtain⟨i,j,J,h2,M⟩:=zbO I (by omega);obtain⟨n,t,g,E,H,D,hg,h4,B⟩:=(h.ev p hp j i).1 M;refine⟨n,t,?_,E,H,D,by omega⟩;have:=(h.on E H).at_;rw[B]at this;rw[J,Int.toNat_natCast,this]
theorem zdO{s:Sc}{g p:Nat}:∀(l:List Tk),(∀t∈l,t.on=true->2<=t.w/\t.w<=262144)->0<=s.zpT g p l/\s.zpT g p l<=262144*(l.length:Int)
 | [],_=>⟨by simp[Sc.zpT],by simp[Sc.zpT]⟩
 | t::r,h=>by
  have ih:=zdO (s:=s) (g:=g) (p:=p) r fun t A=>h t (List.mem_cons_of_mem _ A);have hw:=h t List.mem_cons_self;unfold Sc.zpT;rw[List.length_cons];split
  ·rename_i B;have:=hw B.1;omega
  ·omega
theorem Sc.Ok.load{s:Sc}{b:Nat}(h:s.Ok b)(g p:Nat):0<=s.load g p/\s.load g p<=4294967296:=by
 have:=zdO (s:=s) (g:=g) (p:=p) s.ts fun t B A=>by obtain⟨n,D⟩:=List.getElem?_of_mem B;exact(h.on D A).wt
 have:=h.tl;have:=h.zqg;unfold Sc.load;omega
theorem Sc.Ok.zqm{s:Sc}{b:Nat}(h:s.Ok b):zaP s.zqm/\s.zqm.length=s.ps:=by refine⟨fun x A=>?_,by simp[Sc.zqm]⟩;obtain⟨p,_,rfl⟩:=List.mem_map.1 A;exact h.load 0 p
section
attribute [local go_sem ↓] Go.wp_at_zero Go.wp_at_succ
theorem zq.behind{w w':World}{F:Nat->Prop}{s:Nat}{S:Sc}{L:Lay}(h:zq w F s S L)(hb:Below w.heap.size w w'):zq w' F s S L:=h.kept (.zo7 hb)
theorem zq.tk{w:World}{F:Nat->Prop}{s:Nat}{S:Sc}{L:Lay}(h:zq w F s S L){n:Nat}{t:Tk}(A:S.ts[n]?=some t):zp7 w (L.tb n) L.gb t:=by obtain⟨tg,h⟩:=h;exact(h.ts.tk n t A).2
theorem zq.gp{w:World}{F:Nat->Prop}{s:Nat}{S:Sc}{L:Lay}(h:zq w F s S L){n:Nat}{g:Gp}(A:S.gs[n]?=some g):zrA w (L.gb n) n (L.bb n) (L.lb n) g:=by obtain⟨tg,h⟩:=h;exact(h.gs.gp n g A).2
theorem zq.zsL{w:World}{F:Nat->Prop}{s:Nat}{S:Sc}{L:Lay}(h:zq w F s S L):zqn w 0 L.t L.tp S.tree/\w.cell? ⟨s,5,none⟩=some (ptr L.t)/\s<w.heap.size:=by obtain⟨tg,h⟩:=h;exact⟨h.tr.x,h.sx.c5,h.sx.lt⟩
theorem zq.zqi{w:World}{F:Nat->Prop}{s:Nat}{S:Sc}{L:Lay}(h:zq w F s S L):(∃a c,L.vt=.slice a S.ts.length c)/\w.cell? ⟨s,7,none⟩=some L.vt/\∀n,n<S.ts.length->∃r cap,L.vt=.slice (some ⟨r,0,none⟩) S.ts.length cap/\w.cell? ⟨r,n,none⟩=some (ptr (L.tb n))/\r<w.heap.size:=by
 obtain⟨tg,h⟩:=h;refine⟨?_,h.sx.c7,fun n G=>?_⟩
 ·obtain⟨a,c,A⟩:=h.ts.row.len;rw[qv]at A;exact⟨a,c,A⟩
 ·obtain⟨r,cap,B,D,E⟩:=h.ts.row.at_ (ziB G);rw[qv]at B;exact⟨r,cap,B,D,E⟩
theorem zdP(s:Sc)(g p:Nat)(t:Tk):∀l,s.zpT g p (l++ [t])=s.zpT g p l+(if t.on=true/\t.p=p/\s.sub t.zpc g=true then t.w else 0)
 | []=>by simp[Sc.zpT]
 | x::r=>by show(if x.on=true/\x.p=p/\s.sub x.zpc g=true then x.w else 0)+s.zpT g p (r++ [t])=_;rw[zdP s g p t r];simp only[Sc.zpT];omega
theorem ziH(s:Sc)(g p k:Nat)(t:Tk)(h:s.ts[k]?=some t):s.zpT g p (s.ts.take (k+1))=s.zpT g p (s.ts.take k)+(if t.on=true/\t.p=p/\s.sub t.zpc g=true then t.w else 0):=by rw[List.take_add_one,h];exact zdP s g p t _
theorem Sc.Ok.under{S:Sc}{b:Nat}(ok:S.Ok b){n m:Nat}{g x:Gp}(B:S.gs[n]?=some g)(E:g.there=true)(D:S.gs[m]?=some x)(A:x.there=true):znN S.tree g.hi g.hg x.hi x.hg=S.sub n m:=by unfold znN Sc.sub;rw[ok.find B E,ok.find D A,Sc.zpj B,Sc.zpj D]
theorem uJ(g p:Nat)(x:Gp)(b:Nat)(w:World)(F:Nat->Prop)(s:Nat)(S:Sc)(L:Lay)(h:zq w F s S L)(ok:S.Ok b)(hg:S.gs[g]?=some x)(C:x.there=true)(hp:p<=64):
 Calls prog 17 #[ptr s,ptr (L.gb g),.int .i64 p] w fun z w'=>z=.returned (.int .u64 (S.load g p))/\Below w.heap.size w w':=by
 have HH:=zc h;have Q:=zc ok;have HG:=zc hg;have HT:=zc C;obtain⟨⟨va,vc,O⟩,c7,_⟩:=h.zqi;have hl:=h.zsL.2.2;rw[O]at c7;obtain⟨n,hN⟩:=zh S.ts.length
 have d:=zc hN;have hn:n<=1000:=by have:=ok.tl;have:=ok.zqg;omega
 rw[<-hN]at c7 O;have h3:=zc O;clear h ok hg C O hN;go_enter func17,ntmps17;go_wp2_with fail;clear c7 hl;go_loopw [7,9,15] (fun v _ i wr=>∃k:Nat,k<=n/\i=.int .i64 k/\v=.int .u64 (S.zpT g p (S.ts.take k))/\Below w.heap.size w wr) (fun _ _ i _=>n-(intOf i).toNat)
 case atStart=>exact⟨0,Nat.zero_le _,rfl,rfl,Below.refl _ _⟩
 case round=>
  obtain⟨k,hk,rfl,rfl,hb⟩:=hrel;have o:=zc hb;have u:=HH.out.behind hb;have HS:=zc u;clear hb;by_cases Y:k<n
  ·obtain⟨t,H⟩:∃t,S.ts[k]?=some t:=⟨_,List.getElem?_eq_getElem (by rw[<-d.out];exact Y)⟩
   have f:=zc H;obtain⟨r,cap,P,hc,h6⟩:=u.zqi.2.2 k (by rw[<-d.out];exact Y);rw[h3.out,<-d.out]at P;have h2:va=some ⟨r,0,none⟩:=by simp only[Value.slice.injEq]at P;exact P.1
   subst h2;clear P;obtain⟨t0,t1,t2,t3,t4,t5,t6,t7,t8,t9,t10,t11,t12,t13⟩:=(u.tk H).zq7;have E:=(u.tk H).lt;have h5:(k:Int) <(n:Int):=by omega
   obtain⟨acc,I⟩:=zh (S.zpT g p (S.ts.take k))
   have D:=zc I;rw[<-I];have X:=zc (ziH S g p k t H);clear t0 t1 t2 t6 t8 t9 t10 t11 t12 t13 I u H;by_cases B:t.on=true
   ·by_cases R:t.p=p
    ·have ok:=Q.out;obtain⟨y,K,a⟩:=(ok.on f.out B).zpc;have h8:=(ok.on f.out B).wt;obtain⟨g0,g1,g2,g3,g4,g5,g6⟩:=(HS.out.gp K).c7;obtain⟨x0,x1,x2,x3,x4,x5,x6⟩:=(HS.out.gp HG.out).c7;have M:=(HS.out.gp K).lt;have N:=(HS.out.gp HG.out).lt;obtain⟨-,s5,U⟩:=HS.out.zsL;have HU:=zc (fun W (hW:Below wr.heap.size wr W)=>zkw y.hi y.hg x.hi x.hg (b+2) W 0 L.t L.tp S.tree (HS.out.behind hW).zsL.1 ok.tok (by have:=ok.zqg;omega) ok.tr);rw[ok.under K a HG.out HT.out]at HU;have h0:0<=acc/\acc<=262144*1000:=by
      have h1:=zdO (s:=S) (g:=g) (p:=p) (S.ts.take k) fun t C ho=>by obtain⟨m,hm⟩:=List.getElem?_of_mem (List.mem_of_mem_take C);exact(ok.on hm ho).wt
      rw[<-D.out,List.length_take]at h1;have:=d.out;omega
     have l:(t.p:Int)=(p:Int):=by omega
     have G:=zc (show S.zpT g p (S.ts.take (k+1))=acc+(if S.sub t.zpc g=true then t.w else 0)by
      rw[X.out,D.out];by_cases e:S.sub t.zpc g=true
      ·rw[if_pos ⟨B,R,e⟩,if_pos e]
      ·rw[if_neg (fun h=>e h.2.2),if_neg e])
     rw[B]at t3;rw[l]at t4;obtain⟨sb,c⟩:=zh (S.sub t.zpc g)
     rw[<-c]at HU G;clear x0 x3 x4 x5 x6 g0 g3 g4 g5 g6 B R a K ok l c;go_wp2_with fail;go_region_held3 (fun w'=>w'.cell? ⟨L.tb k,3,none⟩=some (.bool true)/\w'.cell? ⟨L.tb k,4,none⟩=some (.int .i64 p)/\w'.cell? ⟨L.tb k,5,none⟩=some (.pointer (some ⟨L.gb t.zpc,0,none⟩))/\w'.cell? ⟨s,5,none⟩=some (ptr L.t)/\w'.cell? ⟨L.gb t.zpc,1,none⟩=some (.int .i64 y.hi)/\w'.cell? ⟨L.gb t.zpc,2,none⟩=some (.int .i64 y.hg)/\w'.cell? ⟨L.gb g,1,none⟩=some (.int .i64 x.hi)/\w'.cell? ⟨L.gb g,2,none⟩=some (.int .i64 x.hg)) (go_keep)
      (first
       | (
        go_at_call 38;refine(HU.out wr.drew ⟨rfl,rfl,rfl,zg _,fun _ _=>rfl⟩).mono ?_;rintro z w4 ⟨rfl,A⟩;have J:=zc A;replace t3:=(A.cell (p:=⟨L.tb k,3,none⟩) E).trans t3;replace t7:=(A.cell (p:=⟨L.tb k,7,none⟩) E).trans t7;replace t4:=(A.cell (p:=⟨L.tb k,4,none⟩) E).trans t4;replace t5:=(A.cell (p:=⟨L.tb k,5,none⟩) E).trans t5;replace s5:=(A.cell (p:=⟨s,5,none⟩) U).trans s5;replace g1:=(A.cell (p:=⟨L.gb t.zpc,1,none⟩) M).trans g1;replace g2:=(A.cell (p:=⟨L.gb t.zpc,2,none⟩) M).trans g2;replace x1:=(A.cell (p:=⟨L.gb g,1,none⟩) N).trans x1;replace x2:=(A.cell (p:=⟨L.gb g,2,none⟩) N).trans x2;replace E:=zf E A.size
        replace U:=zf U A.size;replace M:=zf M A.size;replace N:=zf N A.size;clear A))
     have Z:Below w.heap.size w w4:=o.out.trans ((show Below wr.heap.size wr w4 from⟨J.out.os,J.out.tape,J.out.output,J.out.size,J.out.block⟩).mono o.out.size);have q:=zc Z;have h7:IntKind.u64.wrap (acc+t.w)=acc+t.w:=by simp only[IntKind.wrap,IntKind.signed,IntKind.bits];simp;omega
     clear Z;cases sb with
     | true=>
      have V:=zc (show S.zpT g p (S.ts.take (k+1))=acc+t.w by rw[G.out,if_pos rfl]);go_wp2;exact⟨⟨k+1,by omega,by go_num,by rw[V.out],q.out⟩,by simp[intOf];omega⟩
     | false=>
      have V:=zc (show S.zpT g p (S.ts.take (k+1))=acc by rw[G.out,if_neg (by decide)];omega);go_wp2;exact⟨⟨k+1,by omega,by go_num,by rw[V.out],q.out⟩,by simp[intOf];omega⟩
    ·have hd:decide ((t.p:Int)=(p:Int))=false:=by simp;omega
     have V:=zc (show S.zpT g p (S.ts.take (k+1))=acc by rw[X.out,D.out,if_neg (by rintro⟨_,h,_⟩;exact R h)];omega);have h4:¬(t.p:Int)=(p:Int):=by omega
     rw[B]at t3;clear t5 B R;go_wp2_with fail;go_quiet (fail);go_wp2;exact⟨⟨k+1,by omega,by go_num,by rw[V.out],zp o.out nq⟩,by simp[intOf];omega⟩
   ·have j:t.on=false:=by simpa using B
    have V:=zc (show S.zpT g p (S.ts.take (k+1))=acc by rw[X.out,D.out,if_neg (by rintro⟨h,_⟩;exact B h)];omega);rw[j]at t3;clear t4 t5 j B;go_wp2_with fail;go_quiet (fail);go_wp2;exact⟨⟨k+1,by omega,by go_num,by rw[V.out],zp o.out nq⟩,by simp[intOf];omega⟩
  ·have e:k=n:=by omega
   subst e;have T:S.zpT g p (S.ts.take k)=S.load g p:=by unfold Sc.load;rw[d.out,List.take_length]
   rw[T];clear T;go_wp2;go_ret;exact⟨rfl,o.out⟩
theorem zq.zrB{w:World}{F:Nat->Prop}{s:Nat}{S:Sc}{L:Lay}(h:zq w F s S L):(∃a c,L.vg=.slice a S.gs.length c)/\w.cell? ⟨s,8,none⟩=some L.vg/\∀n g,S.gs[n]?=some g->g.there=true->∃r cap,L.vg=.slice (some ⟨r,0,none⟩) S.gs.length cap/\w.cell? ⟨r,n,none⟩=some (ptr (L.gb n))/\r<w.heap.size:=by
 obtain⟨tg,h⟩:=h;refine⟨?_,h.sx.c8,fun n g D G=>?_⟩
 ·obtain⟨a,c,E⟩:=h.gs.row.len;rw[yZ]at E;exact⟨a,c,E⟩
 ·have H:=(ze D).1;obtain⟨r,cap,B,A,I⟩:=h.gs.row.at_ (zdJ H);rw[yZ]at B;have e:(S.gs.getD n ztc).there=true:=by rw[List.getD_eq_getElem?_getD,D];exact G
  rw[if_pos e]at A;exact⟨r,cap,B,A,I⟩
theorem zq.zqq{w:World}{F:Nat->Prop}{s:Nat}{S:Sc}{L:Lay}(h:zq w F s S L):w.cell? ⟨s,0,none⟩=some (.int .i64 S.ps)/\s<w.heap.size:=by obtain⟨tg,h⟩:=h;exact⟨h.sx.c0,h.sx.lt⟩
theorem zdQ(f:Nat->Int)(k:Nat):uv ((List.range (k+1)).map f)=uv ((List.range k).map f)++ [.int .u64 (f k)]:=by rw[List.range_succ];simp[uv]
theorem zcu(b:Nat)(w:World)(F:Nat->Prop)(s:Nat)(S:Sc)(L:Lay)(h:zq w F s S L)(ok:S.Ok b):
 Calls prog 6 #[ptr s] w fun z w'=>∃a c,z=.returned (.slice a S.ps c)/\w'.ownsRow w.heap.size 33 1 (.slice a S.ps c) S.ps (uv S.zqm)/\Below w.heap.size w w':=by
 obtain⟨i0,hi,X,p,m⟩:=info_parts zdI;have HH:=zc h;have I:=zc ok;obtain⟨x,hx,_,_,O,_⟩:=ok.g0;have HX:=zc hx;have M:=zc O;obtain⟨s0,D⟩:=h.zqq;have l:=ok.ps.2;obtain⟨n,W⟩:=zh S.ps
 have HN:=zc W;unfold Sc.zqm;rw[<-W]at s0 l ⊢;clear h ok W hx O;go_enter func6,ntmps6;go_wp2_with fail;clear s0 D;go_loopw [3,4,12] (fun v _ i wr=>∃(k:Nat) (o:Option Addr) (Y:Nat),k<=n/\i=.int .i64 k/\v=.slice o k Y/\wr.ownsRow w.heap.size 33 1 (.slice o k Y) k (uv ((List.range k).map (S.load 0)))/\Below w.heap.size w wr) (fun _ _ i _=>n-(intOf i).toNat)
 case atStart=>exact⟨0,none,0,by omega,rfl,rfl,by simpa[uv]using World.ownsRow_nil _ _ _ _,Below.refl _ _⟩
 case round=>
  obtain⟨k,o,Y,hk,rfl,rfl,B,hb⟩:=hrel;have d:=zc B;have q:=zc hb;have HS:=zc (HH.out.behind hb);clear B hb;by_cases h1:k<n
  ·have s8:=HS.out.zrB.2.1;obtain⟨r,cap,U,hc,f⟩:=HS.out.zrB.2.2 0 x HX.out M.out;have D:=HS.out.zqq.2;rw[U]at s8;have h2:0<S.gs.length:=by have:=I.out.gl;omega
   have K:=zc (uJ 0 k x b wr F s S L HS.out I.out HX.out M.out (by omega));have E:=zc (zdQ (S.load 0) k);obtain⟨y,hy⟩:=zh (S.load 0 k)
   obtain⟨Q,J⟩:=zh (uv ((List.range k).map (S.load 0)))
   rw[<-hy]at K E;rw[<-J]at d E;have h3:(k:Int) <(n:Int):=by omega
   clear U hy J;go_wp2_with fail;refine K.out.mono ?_;rintro z w4 ⟨rfl,G⟩;have H:=zc (yY d.out G);have N:=zc (zj q.out G q.out.size);clear G hc f K s8 D;have P:=N.out.size;go_wp2_with (at_builtin;go_loud (refine wpList_append_own _ rfl _ _ 27 rfl w.heap.size 33 i0 (.int .u64 0) 1 8 underlying27 hi X p m rfl (by decide) _ k Q rfl (H.out.alloc _) ⟨w4.heap.size,0,none⟩ 1 1 [.int .u64 y] rfl rfl ?c1 ?c2 ?c3 ?c4 ?c5 ?_))
   case c1=>exact World.news_of_block (cs:=#[.int .u64 y]) (t:=33) (fr:=(0,0)) (heap_alloc_new w4 _)
   case c2=>intro u hu;simp at hu;subst hu;rfl
   case c3=>unfold maxLen;omega
   case c4=>omega
   case c5=>simp;omega
   intro v' w5 A T _;have R:Below w.heap.size w w5:=(N.out.alloc P _).grown T (by simp;omega) fun j hj=>(H.out.lt j hj).1;have C:=zc R;have V:=zc A;rcases A.2 with⟨_,h0⟩ | ⟨g,cap,cur,U,_⟩
   ·omega
   subst U;clear R A T;go_wp2_with fail;go_roundw
   case rel=>exact⟨k+1,_,_,by omega,by go_num,rfl,by rw[E.out];exact V.out,C.out⟩
   case measure=>simp[intOf];omega
  ·have Z:k=n:=by omega
   subst Z;go_wp2;go_ret;exact⟨_,_,rfl,d.out,q.out⟩
theorem zjK:(prog.info? 59).map (fun i=>(i.zero,i.size,i.bytes))=some (some (.pointer none),1,8):=by kernel_rfl
def zrY(f:Nat->Nat)(l:List Nat):List Value:=l.map fun n=>ptr (f n)
theorem zcT{f:Nat->Nat}{l:List Nat}{k n:Nat}(h:l[k]?=some n):(zrY f l)[k]?=some (ptr (f n)):=by simp[zrY,h]
theorem zg9(f:Nat->Nat)(l:List Nat)(n:Nat):zrY f (l++ [n])=zrY f l++ [ptr (f n)]:=by simp[zrY]
theorem zq.pl_{w:World}{F:Nat->Prop}{s:Nat}{S:Sc}{L:Lay}(h:zq w F s S L){i:Nat}(A:i<32):w.cell? ⟨s,9+i,none⟩=some (.pointer ((S.pl i).map fun n=>⟨L.gb n,0,none⟩)):=by obtain⟨tg,h⟩:=h;exact h.sx.pl i A
theorem zjL{l:List Pl}(h:Tr l):∀(n k:Nat),dep l k<=n->zr1 l k->∀i∈zqT l k,zr1 l i
 | n,k,hn,hu,i,A=>by
  by_cases B:k=0
  ·subst B;rw[uq]at A;cases A
  ·rw[ur h hu B]at A;obtain⟨D,h2⟩:=h.up hu B;rcases List.mem_append.1 A with A | A
   ·cases n with
    | zero=>omega
    | succ n=>exact zjL h n _ (by omega) D i A
   ·simp at A;subst A;exact hu
theorem Sc.Ok.path{S:Sc}{b:Nat}(ok:S.Ok b){n:Nat}{g:Gp}(H:S.gs[n]?=some g)(G:g.there=true){i:Nat}(N:i∈zqT S.tree.l g.hi):i<32/\∃m y,S.pl i=some m/\S.gs[m]?=some y/\y.there=true/\y.hi=i:=by obtain⟨⟨q,I,hu,_⟩,_⟩:=ok.gk n g H G;obtain⟨J,A,E⟩:=zjL ok.tr _ _ (zg _) ⟨q,I,hu⟩ i N;obtain⟨m,hm⟩:=ok.gu i J A E;obtain⟨y,M,D,B⟩:=ok.pl i m hm;refine⟨?_,m,y,hm,M,D,B⟩;have:=(ze A).1;have:=ok.tok.room;omega
theorem zha{w w':World}{I:Value}{A:Nat}{H:TypeId}{B T:Nat}{G:List Value}(J:w.grownBy w' I.ownBlock)(N:w.ownsRow A H B I T G){base:Nat}{e:TypeId}{size n:Nat}{v:Value}{xs:List Value}(h:w.ownsRow base e size v n xs)(E:e≠H):w'.ownsRow base e size v n xs:=by
 refine⟨h.1,?_⟩;rcases h.2 with O | ⟨g,cap,cur,R,hb,M,D⟩
 ·exact .inl O
 ·exact .inr ⟨g,cap,cur,R,hb,vq J N M E,D⟩
theorem ym.zqB{w:World}{base:Nat}{e:TypeId}{a:Option Addr}{n c:Nat}{A:List Value}(B:w.ownsRow base e 1 (.slice a n c) n A):ym w a A:=by obtain⟨a',c',e,h⟩:=ym.zqA B;simp only[Value.slice.injEq]at e;rw[e.1];exact h
theorem zmT(S:Sc)(l:List Nat)(k i:Nat)(h:l[k]?=some i):(l.take (k+1)).map (fun i=>(S.pl i).getD 0)=(l.take k).map (fun i=>(S.pl i).getD 0)++ [(S.pl i).getD 0]:=by rw[List.take_add_one,h];simp
theorem zeG(g:Nat)(x:Gp)(b:Nat)(w:World)(F:Nat->Prop)(s:Nat)(S:Sc)(L:Lay)(h:zq w F s S L)(ok:S.Ok b)(I:S.gs[g]?=some x)(R:x.there=true):
 Calls prog 97 #[ptr s,ptr (L.gb g)] w fun z w'=>∃a c,z=.returned (.slice a (S.zqd g).length c)/\w'.ownsRow w.heap.size 59 1 (.slice a (S.zqd g).length c) (S.zqd g).length (zrY L.gb (S.zqd g))/\Below w.heap.size w w':=by
 obtain⟨i0,J,h4,h8,h7⟩:=info_parts zjK;have HH:=zc h;have ho:=zc ok;have HG:=zc I;have HT:=zc R;obtain⟨-,s5,E⟩:=h.zsL;obtain⟨x0,x1,x2,x3,x4,x5,x6⟩:=(h.gp I).c7;have H:=(h.gp I).lt;have N:=ok.find I R;have Q:=zc (fun W (hW:Below w.heap.size w W)=>zmv x.hi x.hg (b+2) W 0 L.t L.tp S.tree (h.behind hW).zsL.1 ok.tok (by have:=ok.zqg;omega) ok.tr);have Y:zdt S.tree x.hi x.hg=zqT S.tree.l x.hi:=by unfold zdt;rw[N]
 have T:S.tree.zqO x.hi x.hg=0:=by unfold Ps.zqO;rw[N]
 rw[Y,T]at Q;have U:S.zqd g=(zqT S.tree.l x.hi).map fun i=>(S.pl i).getD 0:=by unfold Sc.zqd;rw[Sc.zpj I]
 have hlen:(zqT S.tree.l x.hi).length<=64:=by obtain⟨⟨q,hq,hu,_⟩,_⟩:=ok.gk g x I R;rw[zds ok.tr _ ⟨q,hq,hu⟩];have:=ok.tr.dp hq hu;omega
 have K:=zc (fun i (J:i∈zqT S.tree.l x.hi)=>ok.path I R J);rw[U];clear h ok I R x0 x3 x4 x5 x6 Y T U N;obtain⟨P,hP⟩:=zh (zqT S.tree.l x.hi)
 rw[<-hP]at Q K hlen ⊢;obtain⟨n,hN⟩:=zh P.length
 have HN:=zc hN;rw[List.length_map];rw[<-hN]at Q hlen ⊢;clear hP hN;go_enter func97,ntmps97;go_wp2_with fail;go_region_held3 (fun w'=>w'.cell? ⟨s,5,none⟩=some (ptr L.t)/\w'.cell? ⟨L.gb g,1,none⟩=some (.int .i64 x.hi)/\w'.cell? ⟨L.gb g,2,none⟩=some (.int .i64 x.hg)) (go_keep)
  (first
   | (
    go_at_call 149;refine(Q.out w.drew ⟨rfl,rfl,rfl,zg _,fun _ _=>rfl⟩).mono ?_;rintro z w4 ⟨pa,pc,rfl,A,D⟩;have G:=zc D;have Z:=zc A;replace s5:=(D.cell (p:=⟨s,5,none⟩) E).trans s5;replace x1:=(D.cell (p:=⟨L.gb g,1,none⟩) H).trans x1;replace x2:=(D.cell (p:=⟨L.gb g,2,none⟩) H).trans x2;replace E:=zf E D.size;replace H:=zf H D.size;clear D A))
 go_wp2_with fail;have V:Below w.heap.size w w4:=⟨G.out.os,G.out.tape,G.out.output,G.out.size,G.out.block⟩
 have hf:=zc V;clear V s5 x1 x2 E H G;go_loopw [7,9,24] (fun v _ i wr=>∃(k:Nat) (ar:Option Addr) (cr:Nat),k<=n/\i=.int .i64 k/\v=.slice ar k cr/\wr.ownsRow w.heap.size 59 1 (.slice ar k cr) k (zrY L.gb ((P.take k).map fun i=>(S.pl i).getD 0))/\Below w.heap.size w wr/\wr.ownsRow w.heap.size 3 1 (.slice pa n pc) n (iv (zs P))) (fun _ _ i _=>n-(intOf i).toNat)
 case atStart=>exact⟨0,none,0,by omega,rfl,rfl,by simpa[zrY]using World.ownsRow_nil _ _ _ _,hf.out,Z.out⟩
 case round=>
  obtain⟨k,ar,cr,hk,rfl,rfl,M,hb,A⟩:=hrel;have X:=zc M;have HB:=zc hb;have HR:=zc A;have HS:=zc (HH.out.behind hb);clear M hb A;by_cases h1:k<n
  ·obtain⟨i,J⟩:∃i,P[k]?=some i:=⟨_,List.getElem?_eq_getElem (by rw[<-HN.out];exact h1)⟩
   obtain⟨r,h2,hc,h6⟩:=(ym.zqB HR.out) k (.int .i64 i) (by simp[iv,zs,J]);subst h2;obtain⟨f,m,y,hm,_⟩:=K.out i (List.mem_of_getElem? J);have s9:=HS.out.pl_ f;rw[hm]at s9;have E:=HS.out.zqq.2;have o:Hid (zrY L.gb ((P.take (k+1)).map fun i=>(S.pl i).getD 0)=zrY L.gb ((P.take k).map fun i=>(S.pl i).getD 0)++ [ptr (L.gb m)]):=zc (by rw[zmT S P k i J,zg9,hm];rfl);obtain⟨ys,d⟩:=zh (zrY L.gb ((P.take k).map fun i=>(S.pl i).getD 0))
   rw[<-d]at X o;have hl:(k:Int) <(n:Int):=by omega
   have hn:(i:Int) <32:=by omega
   have hh:=HB.out.size;clear d J hm;go_wp2_with (at_builtin;go_loud (refine wpList_append_own _ rfl _ _ 58 rfl w.heap.size 59 i0 (.pointer none) 1 8 underlying58 J h4 h8 h7 rfl (by decide) _ k ys rfl (X.out.alloc _) ⟨wr.heap.size,0,none⟩ 1 1 [ptr (L.gb m)] rfl rfl ?c1 ?c2 ?c3 ?c4 ?c5 ?_))
   case c1=>exact World.news_of_block (cs:=#[ptr (L.gb m)]) (t:=59) (fr:=(0,0)) (heap_alloc_new wr _)
   case c2=>intro u hu;simp at hu;subst hu;rfl
   case c3=>unfold maxLen;omega
   case c4=>omega
   case c5=>simp;omega
   intro v' w5 B O _;have C:Below w.heap.size w w5:=(HB.out.alloc hh _).grown O (by simp;omega) fun j hj=>(X.out.lt j hj).1;have ha:=zc (zha O (X.out.alloc _) (HR.out.alloc _) (by decide));have h9:=zc C;have h3:=zc B;rcases B.2 with⟨_,h0⟩ | ⟨g,cap,cur,hv,_⟩
   ·omega
   subst hv;clear C B O hc h6 s9 E;go_wp2_with fail;go_roundw
   case rel=>exact⟨k+1,_,_,by omega,by go_num,rfl,by rw[o.out];exact h3.out,h9.out,ha.out⟩
   case measure=>simp[intOf];omega
  ·have h5:k=n:=by omega
   subst h5;have HX:Hid ((P.take k).map (fun i=>(S.pl i).getD 0)=P.map fun i=>(S.pl i).getD 0):=zc (by rw[HN.out,List.take_length]);go_wp2;go_ret;exact⟨_,_,rfl,by rw[<-HX.out];exact X.out,HB.out⟩
def zfH(w:World)(a:Option Addr)(A:List Value):Prop:=∀k u,A[k]?=some u->∃r o,a=some ⟨r,o,none⟩/\w.cell? ⟨r,o+k,none⟩=some u/\r<w.heap.size
theorem zfH.behind{w w':World}{a:Option Addr}{A:List Value}(h:zfH w a A)(hb:Below w.heap.size w w'):zfH w' a A:=fun k u hu=>by obtain⟨r,o,E,D,B⟩:=h k u hu;exact⟨r,o,E,(hb.cell (p:=⟨r,o+k,none⟩) B).trans D,zf B hb.size⟩
theorem zfH.of_v{w:World}{a:Option Addr}{A:List Value}(h:ym w a A):zfH w a A:=fun k u hu=>by obtain⟨r,D,B,E⟩:=h k u hu;exact⟨r,0,D,by rw[Nat.zero_add];exact B,E⟩
def Sc.zp6(S:Sc)(l:List (Option Nat)):List Nat:=S.limited (l.filterMap id)
theorem zkO(S:Sc)(l:List (Option Nat))(k:Nat)(h:l[k]?=some none):S.zp6 (l.take (k+1))=S.zp6 (l.take k):=by unfold Sc.zp6;rw[List.take_add_one,h];simp
theorem zkP(S:Sc)(l:List (Option Nat))(k n:Nat)(h:l[k]?=some (some n)):S.zp6 (l.take (k+1))=if(S.g n).limited=true then S.zp6 (l.take k)++ [n]else S.zp6 (l.take k):=by
 unfold Sc.zp6 Sc.limited;rw[List.take_add_one,h];simp only[Option.toList_some,List.filterMap_append,List.filter_append];by_cases e:(S.g n).limited=true
 ·rw[if_pos e];simp[e]
 ·rw[if_neg e];simp[e]
theorem zcU(S:Sc)(l:List (Option Nat)):(S.zp6 l).length<=l.length:=Nat.le_trans (List.length_filter_le _ _) (List.length_filterMap_le _ _)
theorem zq.band{w:World}{F:Nat->Prop}{s:Nat}{S:Sc}{L:Lay}(h:zq w F s S L){n:Nat}{g:Gp}{b:zqL}(A:S.gs[n]?=some g)(hb:g.band=some b):Qt.zo9 w (L.bb n) b:=by obtain⟨tg,h⟩:=h;exact(h.bs.bd n g b A hb).2
theorem zdR(w:World)(F:Nat->Prop)(s:Nat)(S:Sc)(L:Lay)(h:zq w F s S L)(n:Nat)(g:Gp)(B:S.gs[n]?=some g):
 Calls prog 83 #[.pointer (if g.band.isSome=true then some ⟨L.bb n,0,none⟩else none)] w fun z w'=>z=.returned (.bool g.limited)/\w'=w:=by
 unfold Gp.limited;cases hb:g.band with
 | none=>exact(Qt.zr6 w).mono fun z w' A=>⟨A.1,A.2.symm⟩
 | some b=>exact(Qt.zr7 w _ b (h.band B hb)).mono fun z w' A=>⟨A.1,A.2.symm⟩
theorem ue(l:List (Option Nat))(a:Option Addr)(n c:Nat)(w:World)(F:Nat->Prop)(s:Nat)(S:Sc)(L:Lay)(h:zq w F s S L)(hn:n=l.length)(h4:n<=64)(hR:zfH w a (yq (l.map (Option.map L.gb))))(I:∀m,some m∈l->∃g,S.gs[m]?=some g/\g.there=true):
 Calls prog 55 #[.slice a n c] w fun z w'=>∃a' c',z=.returned (.slice a' (S.zp6 l).length c')/\w'.ownsRow w.heap.size 59 1 (.slice a' (S.zp6 l).length c') (S.zp6 l).length (zrY L.gb (S.zp6 l))/\Below w.heap.size w w':=by
 obtain⟨i0,hi,C,h1,Q⟩:=info_parts zjK;have HH:=zc h;have HN:=zc hn;have HR:=zc hR;have HG:=zc I;clear h hn hR I;go_enter func55,ntmps55;go_wp2_with fail;go_loopw [3,5,8] (fun v _ i wr=>∃(k m:Nat) (W:Option Addr) (K:Nat),k<=n/\i=.int .i64 k/\v=.slice W m K/\m=(S.zp6 (l.take k)).length/\wr.ownsRow w.heap.size 59 1 (.slice W m K) m (zrY L.gb (S.zp6 (l.take k)))/\Below w.heap.size w wr) (fun _ _ i _=>n-(intOf i).toNat)
 case atStart=>exact⟨0,0,none,0,by omega,rfl,rfl,by simp[Sc.zp6,Sc.limited],by simpa[zrY,Sc.zp6,Sc.limited]using World.ownsRow_nil _ _ _ _,Below.refl _ _⟩
 case round=>
  obtain⟨k,m,W,K,hk,rfl,rfl,hm,H,hb⟩:=hrel;have G:=zc H;have O:=zc hb;have M:=zc hm;have HS:=zc (HH.out.behind hb);have h6:m<=k:=by rw[hm];exact Nat.le_trans (zcU _ _) (by simp;omega)
  clear H hb hm;by_cases b:k<n
  ·obtain⟨x,N⟩:∃x,l[k]?=some x:=⟨_,List.getElem?_eq_getElem (by rw[<-HN.out];exact b)⟩
   obtain⟨r,o,d,y,P⟩:=(HR.out.behind O.out) k _ (zg6 (l:=l.map (Option.map L.gb)) (by rw[List.getElem?_map,N];rfl));subst d;have h5:(k:Int) <(n:Int):=by omega
   cases x with
   | none=>
    have E:=zc (zkO S l k N);simp only[Option.map_none]at y;clear N;go_wp2_with fail;go_roundw
    case rel=>exact⟨k+1,m,_,_,by omega,by go_num,rfl,by rw[E.out];exact M.out,by rw[E.out];exact G.out,O.out⟩
    case measure=>simp[intOf];omega
   | some q=>
    have E:=zc (zkP S l k q N);obtain⟨g,I,h7⟩:=HG.out q (List.mem_of_getElem? N);have X:=zc (zdR wr F s S L HS.out q g I);obtain⟨x0,x1,x2,x3,x4,x5,x6⟩:=(HS.out.gp I).c7;have p:=(HS.out.gp I).lt;simp only[Option.map_some]at y;rw[Sc.zpj I]at E;obtain⟨bp,U⟩:=zh ((if g.band.isSome=true then some (⟨L.bb q,0,none⟩:Addr)else none))
    rw[<-U]at X x5;clear N x0 x1 x2 x3 x4 x6 U;by_cases A:g.limited=true
    ·rw[A]at X;have B:Hid (S.zp6 (l.take (k+1))=S.zp6 (l.take k)++ [q]):=zc (by rw[E.out,if_pos A]);clear A;have h3:=O.out.size;obtain⟨Z,J⟩:=zh (zrY L.gb (S.zp6 (l.take k)))
     have HY:Hid (zrY L.gb (S.zp6 (l.take (k+1)))=Z++ [ptr (L.gb q)]):=zc (by rw[B.out,zg9,J]);rw[<-J]at G;clear J;go_wp2_with fail;refine X.out.mono ?_;rintro z w4 ⟨rfl,hw⟩;obtain rfl:=hw.symm;go_wp2_with (at_builtin;go_loud (refine wpList_append_own _ rfl _ _ 58 rfl w.heap.size 59 i0 (.pointer none) 1 8 underlying58 hi C h1 Q rfl (by decide) _ m Z rfl (G.out.alloc _) ⟨wr.heap.size,0,none⟩ 1 1 [ptr (L.gb q)] rfl rfl ?c1 ?c2 ?c3 ?c4 ?c5 ?_))
     case c1=>exact World.news_of_block (cs:=#[ptr (L.gb q)]) (t:=59) (fr:=(0,0)) (heap_alloc_new wr _)
     case c2=>intro u hu;simp at hu;subst hu;rfl
     case c3=>unfold maxLen;omega
     case c4=>omega
     case c5=>simp;omega
     intro v' w5 D Y _;have V:Below w.heap.size w w5:=(O.out.alloc h3 _).grown Y (by simp;omega) fun j hj=>(G.out.lt j hj).1;have h2:=zc V;have f:=zc D;rcases D.2 with⟨_,h0⟩ | ⟨g',cap,cur,hv,_⟩
     ·omega
     subst hv;clear V D Y y P x5 p;go_wp2_with fail;go_roundw
     case rel=>exact⟨k+1,m+1,_,_,by omega,by go_num,rfl,by rw[B.out,List.length_append,<-M.out];rfl,by rw[HY.out];exact f.out,h2.out⟩
     case measure=>simp[intOf];omega
    ·have R:g.limited=false:=by simpa using A
     rw[R]at X;have B:Hid (S.zp6 (l.take (k+1))=S.zp6 (l.take k)):=zc (by rw[E.out,if_neg A]);clear A R;go_wp2_with fail;refine X.out.mono ?_;rintro z w4 ⟨rfl,hw⟩;obtain rfl:=hw.symm;go_wp2_with fail;go_roundw
     case rel=>exact⟨k+1,m,_,_,by omega,by go_num,rfl,by rw[B.out];exact M.out,by rw[B.out];exact G.out,O.out⟩
     case measure=>simp[intOf];omega
  ·have T:k=n:=by omega
   have HX:Hid (l.take k=l):=zc (by rw[T,HN.out,List.take_length]);rw[HX.out]at M G;subst T;go_wp2;go_ret;rw[M.out]at G;exact⟨_,_,by rw[M.out];rfl,G.out,O.out⟩
theorem ziI(w:World)(F:Nat->Prop)(p k:Nat)(h:Hm)(A:zB w F p h)(B:k<32):Calls prog 136 #[.pointer (some ⟨p,0,none⟩),.int .i64 k] w fun z w'=>z=.returned (.int .i64 (h.minOf k))/\w'=w:=by
 unfold Hm.minOf;cases hx:h.gs k with
 | none=>exact zeg w F p k h A B hx
 | some x=>exact zl3 w F p k h x A hx
theorem zq.ztk{w:World}{F:Nat->Prop}{s:Nat}{S:Sc}{L:Lay}(h:zq w F s S L){p:Nat}(hp:p<S.ps):∃r cap,w.cell? ⟨s,105,none⟩=some (.slice (some ⟨r,0,none⟩) S.ps cap)/\w.cell? ⟨r,p,none⟩=some (ptr (L.hb p))/\r<w.heap.size/\(∃G,zB w G (L.hb p) (S.hs p)):=by obtain⟨tg,h⟩:=h;obtain⟨r,cap,B,A,D⟩:=vv h.vh hp;exact⟨r,cap,by rw[<-B];exact h.sx.vh,A,D,_,h.hs p hp⟩
theorem zav(tb zpc p:Nat)(g:Gp)(w:World)(F:Nat->Prop)(s:Nat)(S:Sc)(L:Lay)(h:zq w F s S L)(A:S.gs[zpc]?=some g)(B:g.hi<32)(hp:p<S.ps)(c5:w.cell? ⟨tb,5,none⟩=some (ptr (L.gb zpc))):
 Calls prog 88 #[ptr s,ptr tb,.int .i64 p] w fun z w'=>z=.returned (.int .i64 ((S.hs p).minOf g.hi))/\Below w.heap.size w w':=by
 obtain⟨r,cap,hv,hc,h3,G,D⟩:=h.ztk hp;obtain⟨E,x1,M,I,H,N,O⟩:=(h.gp A).c7;have h4:=(h.gp A).lt;have h1:=h.zqq.2;have h0:=World.block_lt_of_cell? w _ c5;have J:=zc (fun n=>ziI (w.drewN n) G (L.hb p) g.hi (S.hs p) (D.kept fun k _ _=>rfl) B);have h2:(p:Int) <(S.ps:Int):=by omega
 clear h A D E M I H N O;go_enter func88,ntmps88;go_wp2_with fail;go_quiet ((go_at_call 136;exact Calls.quiet_of_same (J.out _)));go_wp2;go_ret;exact⟨rfl,zp (Below.refl _ _) nq⟩
end
theorem zq.zri{w w':World}{F:Nat->Prop}{s:Nat}{S:Sc}{L:Lay}(h:zq w F s S L){n:Nat}{t t':Tk}(D:S.ts[n]?=some t)(A:zo8 (fun k=>k=L.tb n) w w')(B:zp7 w' (L.tb n) L.gb t'):zn w F s (S.zps n t') L w':=by obtain⟨tg,h⟩:=h;exact h.zri D A B
theorem zq.zrz{w w':World}{F:Nat->Prop}{s:Nat}{S:Sc}{L:Lay}(h:zq w F s S L){n:Nat}{g g':Gp}(G:S.gs[n]?=some g)(hb:g'.band=g.band)(B:g'.line=g.line)(A:g'.there=g.there)(D:zo8 (fun k=>k=L.gb n) w w')(E:zrA w' (L.gb n) n (L.bb n) (L.lb n) g'):zn w F s (S.zpd n g') L w':=by obtain⟨tg,h⟩:=h;exact h.zrz G hb B A D E
theorem zq.zrF{w w':World}{F:Nat->Prop}{s:Nat}{S:Sc}{L:Lay}(h:zq w F s S L){n:Nat}{g:Gp}{b A:zqL}(E:S.gs[n]?=some g)(hb:g.band=some b)(B:zo8 (fun k=>k=L.bb n) w w')(D:Qt.zo9 w' (L.bb n) A):zn w F s (S.zpd n (g.zpl A)) L w':=by obtain⟨tg,h⟩:=h;exact h.zrF E hb B D
theorem zq.zse{w w':World}{F:Nat->Prop}{s:Nat}{S:Sc}{L:Lay}(h:zq w F s S L){n:Nat}{g:Gp}{A:List Nat}(E:S.gs[n]?=some g)(hb:g.band.isSome=true)(B:zo8 (fun k=>k=L.lb n) w w')(D:zG w' (L.lb n) A):zn w F s (S.zpd n (g.zpm A)) L w':=by obtain⟨tg,h⟩:=h;exact h.zse E hb B D
theorem zq.zsp{w w':World}{F:Nat->Prop}{s:Nat}{S:Sc}{L:Lay}(h:zq w F s S L){p:Nat}{A:Ck}(hp:p<S.ps)(B:zo8 (fun k=>k=L.cb p) w w')(D:yj w' (L.cb p) A):zn w F s (S.zpG p A) L w':=by obtain⟨tg,h⟩:=h;exact h.zsp hp B D
theorem zq.zq5{w:World}{F:Nat->Prop}{s:Nat}{S:Sc}{L:Lay}(h:zq w F s S L){p:Nat}(hp:p<S.ps):∃G,zB w G (L.hb p) (S.hs p)/\∀x w',yW w G (L.hb p) x w'->zn w F s (S.zpf p x) L w':=by obtain⟨tg,h⟩:=h;exact⟨_,h.hs p hp,fun x w' A=>h.updH hp A⟩
theorem zq.line{w:World}{F:Nat->Prop}{s:Nat}{S:Sc}{L:Lay}(h:zq w F s S L){n:Nat}{g:Gp}(A:S.gs[n]?=some g)(hb:g.band.isSome=true):zG w (L.lb n) g.line:=by obtain⟨tg,h⟩:=h;exact(h.ls.ln n g A hb).2
theorem zq.clock{w:World}{F:Nat->Prop}{s:Nat}{S:Sc}{L:Lay}(h:zq w F s S L){p:Nat}(hp:p<S.ps):yj w (L.cb p) (S.cs p)/\∃r cap,w.cell? ⟨s,106,none⟩=some (.slice (some ⟨r,0,none⟩) S.ps cap)/\w.cell? ⟨r,p,none⟩=some (ptr (L.cb p))/\r<w.heap.size:=by obtain⟨tg,h⟩:=h;obtain⟨r,cap,B,A,D⟩:=vv h.cs.row hp;exact⟨(h.cs.ck p hp).2,r,cap,by rw[<-B];exact h.sx.vc,A,D⟩
theorem zq.zsH{w:World}{F:Nat->Prop}{s:Nat}{S:Sc}{L:Lay}(h:zq w F s S L){p:Nat}(hp:p<S.ps):∃r cap,L.vh=.slice (some ⟨r,0,none⟩) S.ps cap:=by obtain⟨tg,h⟩:=h;obtain⟨r,cap,A,h2,h3⟩:=vv h.vh hp;exact⟨r,cap,A⟩
theorem zq.zqF{w:World}{F:Nat->Prop}{s:Nat}{S:Sc}{L:Lay}(h:zq w F s S L){p r n cap:Nat}(hp:p<S.ps)(B:L.vh=.slice (some ⟨r,0,none⟩) n cap):w.cell? ⟨s,105,none⟩=some (.slice (some ⟨r,0,none⟩) n cap)/\w.cell? ⟨r,p,none⟩=some (ptr (L.hb p))/\r<w.heap.size:=by obtain⟨tg,h⟩:=h;obtain⟨r',h0,A,D,E⟩:=vv h.vh hp;rw[B]at A;simp only[Value.slice.injEq,Option.some.injEq,Addr.mk.injEq,and_true]at A;obtain⟨e,_⟩:=A;subst e;exact⟨by rw[<-B];exact h.sx.vh,D,E⟩
theorem xu{S:Sc}{n:Nat}{t t':Tk}(h:S.ts[n]?=some t):(S.zps n t').ts[n]?=some t':=by have A:=(ze h).1;show(S.ts.set n t')[n]?=some t';rw[List.getElem?_set_self A]
section
attribute [local go_sem ↓] Go.wp_at_zero Go.wp_at_succ
theorem Sc.Ok.stands{S:Sc}{b:Nat}(ok:S.Ok b){n:Nat}{t:Tk}{g:Gp}(D:S.ts[n]?=some t)(A:t.on=true)(G:S.gs[t.zpc]?=some g):∃x e,(S.hs t.p).gs g.hi=some x/\x.q.get (2*(t.hi:Int))=some e/\(S.hs t.p).gone g.hi t.hi=e.half t.hi:=by
 have hp:=(ok.on D A).zqN;obtain⟨x,B,E⟩:=(ok.ev t.p hp g.hi t.hi).2 ⟨n,t,g,D,A,rfl,G,rfl,rfl⟩;cases he:x.q.get (2*(t.hi:Int))with
 | none=>exact absurd he (zbz.1 E)
 | some e=>exact⟨x,e,B,he,by unfold Hm.gone;rw[B];simp only[he]⟩
theorem zq.ne_t{w:World}{F:Nat->Prop}{s:Nat}{S:Sc}{L:Lay}(h:zq w F s S L){n:Nat}{t:Tk}(G:S.ts[n]?=some t):s≠L.tb n/\(∀m g,S.gs[m]?=some g->L.gb m≠L.tb n)/\(∀r k c,L.vh=.slice (some ⟨r,0,none⟩) k c->r≠L.tb n):=by
 have A:=h.tk G;refine⟨?_,fun m g D e=>?_,fun r k c H e=>?_⟩
 ·obtain⟨E,h⟩:=h;obtain⟨cs,I⟩:=h.sx.ty;intro e;unfold zp7 at A;rw[<-e,I]at A;simp only[Option.some.injEq,Obj.cells.injEq]at A;exact absurd A.2.1 (by decide)
 ·have B:=h.gp D;unfold zp7 at A;unfold zrA at B;rw[<-e,B]at A;simp only[Option.some.injEq,Obj.cells.injEq]at A;exact absurd A.2.1 (by decide)
 ·obtain⟨E,h⟩:=h;unfold zp7 at A;have:=zz h.vh.row A (by decide);rw[H]at this;exact this (by rw[e];rfl)
theorem zaw(n:Nat)(t:Tk)(b:Nat)(w:World)(F:Nat->Prop)(s:Nat)(S:Sc)(L:Lay)(h:zq w F s S L)(ok:S.Ok b)(T:S.ts[n]?=some t)(ho:t.on=true):
 Calls prog 92 #[ptr s,ptr (L.tb n)] w fun z w'=>(∃v,z=.returned v)/\zn w F s (S.leave n) L w':=by
 have hT:=ok.on T ho;have hp:=hT.zqN;obtain⟨g,Y,V⟩:=hT.zpc;obtain⟨x,e,hx,he,E⟩:=ok.stands T ho Y;have HX:=zc hx;have HE:=zc he;have j:=Sc.zp0 T;have y:=Sc.zpj Y;have h6:=hT.hi;have ha:=ok.hc t.p hp;have hj:=ok.credit;obtain⟨m,hm⟩:=zh ((S.hs t.p).minOf g.hi)
 have h2:S.leave n=(((S.zps n { t with min:=m }).zpf t.p ((S.hs t.p).drop g.hi t.hi)).zps n { t with min:=m,e:=e.half t.hi,on:=false }):=by unfold Sc.leave Sc.least;rw[j,y,E,<-hm];simp[Sc.zps,Sc.zpf]
 have hf:=zc h2;obtain⟨t0,t1,t2,t3,t4,t5,t6,t7,t8,t9,t10,t11,t12,t13⟩:=(h.tk T).zq7;have H:=(h.tk T).lt;have A:=(h.tk T).zpe;have HC:=zc (zav (L.tb n) t.zpc t.p g w F s S L h Y (ok.hi Y V) hp t5);rw[<-hm]at HC;have HH:=zc h;have HN:=zc T;have P:=zc Y;have hk:=ok.hi Y V;have hl:(t.p:Int) <(S.ps:Int):=by omega
 clear h ok T ho hT V hx he E j y hm h2;go_enter func92,ntmps92;go_wp2_with fail;refine HC.out.mono ?_;rintro z w1 ⟨rfl,X⟩;have h8:=zc X;have J:=zc (HH.out.behind X);have N:zp7 w1 (L.tb n) L.gb t:=J.out.tk HN.out;have U:zp7 (w1.setCell ⟨L.tb n,13,none⟩ (.int .i64 m)) (L.tb n) L.gb { t with min:=m }:=zi N;have D:=zc (J.out.zri HN.out (zo8.refl _ _).one U);have M:=zc U;have H:=N.lt;have A:=N.zpe;clear X t0 t1 t2 t3 t4 t5 t6 t7 t8 t9 t10 t11 t12 t13 HC N U;obtain⟨t0,t1,t2,t3,t4,t5,t6,t7,t8,t9,t10,t11,t12,t13⟩:=(J.out.tk HN.out).zq7;go_wp2_with fail
 obtain⟨Z,a⟩:=zh (w1.setCell ⟨L.tb n,13,none⟩ (.int .i64 m))
 rw[<-a]at D M ⊢;clear a t0 t1 t2 t3 t4 t5 t6 t7 t8 t9 t10 t11 t12 t13 H A;have f:=zc (xu (t':={ t with min:=m }) HN.out);obtain⟨r,cap,hv⟩:=HH.out.zsH (p:=t.p) hp;have HV:=zc hv;obtain⟨R,rp,C⟩:=D.out.1.zqF (p:=t.p) hp hv;obtain⟨h1,h0,Q⟩:=HH.out.ne_t HN.out;replace h1:=h1.symm;replace h0:=(h0 _ g P.out).symm;replace Q:=(Q r _ _ hv).symm;obtain⟨t0,t1,t2,t3,t4,t5,t6,t7,t8,t9,t10,t11,t12,t13⟩:=M.out.zq7;have H:=M.out.lt;have A:=M.out.zpe;obtain⟨g0,g1,g2,g3,g4,g5,g6⟩:=(D.out.1.gp P.out).c7;have d:=(D.out.1.gp P.out).lt;have l:=D.out.1.zqq.2;obtain⟨G,hH,hU⟩:=D.out.1.zq5 (p:=t.p) hp;have HU:=zc hU
 have HD:=zc (zkm g.hi t.hi e Z.drew G (L.hb t.p) (S.hs t.p) x (hH.kept fun k _ _=>rfl) HX.out h6 HE.out (by rw[ha];omega));clear t1 t2 t3 t6 t7 t8 t9 t10 t11 t12 t13 g0 g2 g3 g4 g5 g6 hv hU hH J;go_region_held3 (fun w'=>w'.cell? ⟨s,105,none⟩=some (.slice (some ⟨r,0,none⟩) S.ps cap)/\w'.cell? ⟨r,t.p,none⟩=some (ptr (L.hb t.p))/\w'.cell? ⟨L.tb n,0,none⟩=some (.int .i64 t.hi)/\w'.cell? ⟨L.tb n,4,none⟩=some (.int .i64 t.p)/\w'.cell? ⟨L.tb n,5,none⟩=some (ptr (L.gb t.zpc))/\w'.cell? ⟨L.gb t.zpc,1,none⟩=some (.int .i64 g.hi)) (simp[*,World.cell?_setCell_far,World.cell?_setCell_other])
  (first
   | (
    go_at_call 143;refine HD.out.mono ?_;rintro z w3 ⟨rfl,K⟩;have B:=HU.out _ _ (yW.zo7 (F:=G) (⟨rfl,rfl,rfl,zg _,fun _ _=>rfl⟩:Below Z.heap.size Z Z.drew) K);have h9:=zc B;have I:=B.1.tk f.out;clear K t0 t4 t5 g1 R rp C H A d l;obtain⟨R,rp,C⟩:=B.1.zqF (p:=t.p) hp HV.out;obtain⟨t0,-,-,t3,t4,t5,-,-,-,t9,t10,t11,t12,-⟩:=I.zq7;have h7:=zc I;have H:=I.lt;have A:=I.zpe;have hh:=A 9;have h5:=A 10;have h3:=A 11;have h4:=A 12;obtain⟨-,g1,-⟩:=(B.1.gp P.out).c7;have d:=(B.1.gp P.out).lt;have l:=B.1.zqq.2;clear B I))
 have y1:zp7 (w3.setCell ⟨L.tb n,9,none⟩ (.int .i64 (e.half t.hi).id)) (L.tb n) L.gb { t with min:=m,e:={ t.e with id:=(e.half t.hi).id } }:=zi h7.out;have y2:zp7 _ (L.tb n) L.gb { t with min:=m,e:={ t.e with id:=(e.half t.hi).id,w:=(e.half t.hi).w } }:=zi (u:=.int .u64 (e.half t.hi).w) (i:=10) y1;have y3:zp7 _ (L.tb n) L.gb { t with min:=m,e:={ t.e with id:=(e.half t.hi).id,w:=(e.half t.hi).w,v:=(e.half t.hi).v } }:=zi (u:=.int .i64 (e.half t.hi).v) (i:=11) y2;have y4:zp7 _ (L.tb n) L.gb { t with min:=m,e:=e.half t.hi }:=zi (u:=.int .u64 (e.half t.hi).rem) (i:=12) y3
 have y5:zp7 _ (L.tb n) L.gb { t with min:=m,e:=e.half t.hi,on:=false }:=zi (u:=.bool false) (i:=3) y4;have c:zo8 (fun k=>k=L.tb n) w3 _:=(((((zo8.refl (fun k=>k=L.tb n) w3).one (o:=9) (u:=.int .i64 (e.half t.hi).id)).one (o:=10) (u:=.int .u64 (e.half t.hi).w)).one (o:=11) (u:=.int .i64 (e.half t.hi).v)).one (o:=12) (u:=.int .u64 (e.half t.hi).rem)).one (o:=3) (u:=.bool false);have q:(((S.zps n { t with min:=m }).zpf t.p ((S.hs t.p).drop g.hi t.hi)):Sc).ts[n]?=some { t with min:=m }:=f.out;have O:=zc (D.out.then h9.out);have W:=zc (O.out.1.zri q c y5);clear y1 y2 y3 y4 y5 c q;go_wp2;go_end0;refine⟨⟨_,rfl⟩,?_⟩;rw[hf.out]
 exact zn.zo7 h8.out (O.out.then W.out)
end
theorem zdN.of{S S':Sc}{n:Nat}{t:Tk}(h:zdN S n t)(A:S'.gs=S.gs)(E:S'.pool=S.pool)(B:S'.at_=S.at_)(D:S'.ps=S.ps):zdN S' n t:=
 ⟨by rw[A];exact h.zpc,by rw[E];exact h.pool,h.hi,by rw[B];exact h.at_,by rw[D];exact h.zqN,h.wt,h.mask,h.e,h.nice,h.min⟩
theorem zce{h D:Hm}(E:yV h D)(g:Nat):(D.gs g).isSome=(h.gs g).isSome:=by
 rcases E.gs g with⟨B,A⟩ | ⟨x,y,B,A,_⟩
 ·rw[B,A]
 ·rw[B,A];rfl
theorem Sc.Ok.one{S:Sc}{b:Nat}(ok:S.Ok b){n m:Nat}{t u:Tk}(E:S.ts[n]?=some t)(hd:t.dead=false)(hm:S.ts[m]?=some u)(A:u.dead=false)(e:t.hi=u.hi):n=m:=by have B:=(ok.tk n t E hd).at_;have D:=(ok.tk m u hm A).at_;rw[e,D]at B;exact B.symm
theorem Sc.Ok.leave{S:Sc}{b:Nat}(ok:S.Ok b)(Y:∀p,p<S.ps->(S.hs p).Ok){n:Nat}{t:Tk}(T:S.ts[n]?=some t)(s:t.on=true):(S.leave n).Ok b:=by
 have E:=ok.on T s;have hd:=ok.dead n t T s;have hp:=E.zqN;obtain⟨g,d,ha⟩:=E.zpc;obtain⟨x,e,Z,he,V⟩:=ok.stands T s d;obtain⟨a1,a2,a3⟩:=zdi (Y t.p hp) Z t.hi;have j:=Sc.zp0 T;have F:=Sc.zpj d;obtain⟨m,hm⟩:=zh ((S.hs t.p).minOf g.hi)
 have r: -9223372036854775808<=m/\m<=9223372036854775807:=by rw[hm];unfold Hm.minOf;rw[Z];exact((Y t.p hp).q _ _ Z).1.min
 have f:(e.half t.hi).Ok/\(e.half t.hi).id=t.hi:=by have C:=(yh he).1;have N:=((Y t.p hp).q _ _ Z).1.zpR e C;have:=E.hi;exact⟨⟨by show 0<=(t.hi:Int)/\(t.hi:Int)<=1000000;omega,N.w,N.v,N.rem⟩,rfl⟩
 have h7:S.leave n=((S.zps n { t with min:=m,e:=e.half t.hi,on:=false }).zpf t.p ((S.hs t.p).drop g.hi t.hi)):=by unfold Sc.leave Sc.least;rw[j,F,V,<-hm];rfl
 rw[h7];obtain⟨t1,O⟩:∃t1:Tk,t1={ t with min:=m,e:=e.half t.hi,on:=false }:=⟨_,rfl⟩
 rw[<-O];have l:zdN S n t1:=by rw[O];exact⟨E.zpc,E.pool,E.hi,E.at_,E.zqN,E.wt,E.mask,f,E.nice,r⟩
 have G:t1.on=false:=by rw[O]
 have K:∀p,p<S.ps->yV (S.hs p) (zpt S.hs t.p ((S.hs t.p).drop g.hi t.hi) p):=fun p _=>by
  by_cases e:p=t.p
  ·subst e;rw[zy];exact a2
  ·rw[zA _ _ e];exact .refl _
 refine⟨ok.zqg,ok.ps,ok.tick,ok.credit,ok.lat,ok.tr,ok.tok,ok.zsf,?_,ok.gl,ok.g0,ok.gk,ok.pl,ok.gu,?_,?_,?_,?_,?_,?_,?_,?_,ok.ck,ok.bk⟩
 ·show(S.ts.set n t1).length<=b;rw[List.length_set];exact ok.tl
 ·intro k y R P c;obtain⟨N,X,Q⟩:=ok.gx k y R P c;exact⟨N,X,Q⟩
 ·intro k u hu W;rcases zT hu with⟨rfl,rfl⟩ | ⟨H,hu⟩
  ·exact l.of rfl rfl rfl rfl
  ·exact(ok.tk k u hu W).of rfl rfl rfl rfl
 ·intro k u hu M;rcases zT hu with⟨rfl,rfl⟩ | ⟨H,hu⟩
  ·rw[G]at M;cases M
  ·exact ok.dead k u hu M
 ·intro p A i;show(((zpt S.hs t.p ((S.hs t.p).drop g.hi t.hi)) p).gs i).isSome=(S.pl i).isSome;rw[zce (K p A) i];exact ok.hk p A i
 ·intro p A i z o c;rcases(K p A).gs i with⟨_,X⟩ | ⟨z0,z1,N,X,Q,h4⟩
  ·rw[show(((S.zps n t1).zpf t.p ((S.hs t.p).drop g.hi t.hi)).hs p).gs i=_ from rfl]at o;exact absurd (X.symm.trans o) (by simp)
  ·have h8:some z1=some z:=X.symm.trans o;obtain rfl:=Option.some.inj h8;obtain⟨h5,h6⟩:=ok.hu p A i z0 N c;exact⟨Q.trans h5,h4.trans h6⟩
 ·intro p A;exact(K p A).cr.trans (ok.hc p A)
 ·intro p A;show((zpt S.hs t.p ((S.hs t.p).drop g.hi t.hi)) p).zpC;by_cases e:p=t.p
  ·subst e;rw[zy];exact zkK (Y _ A) (ok.hf _ A) _ _
  ·rw[zA _ _ e];exact ok.hf p A
 ·intro p A i k;show((zpt S.hs t.p ((S.hs t.p).drop g.hi t.hi)) p).even i k↔∃(n':Nat) (t':Tk) (g':Gp),(S.ts.set n t1)[n']?=some t'/\t'.on=true/\t'.p=p/\S.gs[t'.zpc]?=some g'/\g'.hi=i/\t'.hi=k;by_cases e:p=t.p
  ·subst e;rw[zy,a3];constructor
   ·rintro⟨a,h⟩;obtain⟨n',u,y,hu,B,D,R,I,J⟩:=(ok.ev t.p hp i k).1 h;have U:n'≠n:=by rintro rfl;rw[T]at hu;obtain rfl:=Option.some.inj hu;rw[d]at R;obtain rfl:=Option.some.inj R;exact a ⟨I.symm,by rw[<-J]⟩
    exact⟨n',u,y,by rw[List.getElem?_set_ne (Ne.symm U)];exact hu,B,D,R,I,J⟩
   ·rintro⟨n',u,y,hu,B,D,R,I,J⟩;rcases zT hu with⟨rfl,rfl⟩ | ⟨H,hu⟩
    ·rw[G]at B;cases B
    ·refine⟨?_,(ok.ev t.p hp i k).2 ⟨n',u,y,hu,B,D,R,I,J⟩⟩;rintro⟨_,h9⟩;exact H (ok.one hu (ok.dead n' u hu B) T hd (by omega))
  ·rw[zA _ _ e,ok.ev p A i k];constructor
   ·rintro⟨n',u,y,hu,B,D,L⟩;have U:n'≠n:=by rintro rfl;rw[T]at hu;obtain rfl:=Option.some.inj hu;exact e D.symm
    exact⟨n',u,y,by rw[List.getElem?_set_ne (Ne.symm U)];exact hu,B,D,L⟩
   ·rintro⟨n',u,y,hu,B,D,L⟩;rcases zT hu with⟨rfl,rfl⟩ | ⟨H,hu⟩
    ·rw[G]at B;cases B
    ·exact⟨n',u,y,hu,B,D,L⟩
section
attribute [local go_sem ↓] Go.wp_at_zero Go.wp_at_succ
theorem zeH(v f t:Int): -9223372036854775808<=zco v f t/\zco v f t<=9223372036854775807:=znH _ _
theorem zeI{S:Sc}{n:Nat}{t:Tk}(h:S.ts[n]?=some t):S.zps n t=S:=by
 obtain⟨A,he⟩:=ze h;have:S.ts.set n t=S.ts:=by rw[<-he];exact List.set_getElem_self A
 unfold Sc.zps;rw[this]
theorem zhb(S:Sc)(n:Nat)(t t':Tk):(S.zps n t).zps n t'=S.zps n t':=by simp[Sc.zps]
theorem Sc.Ok.ztC{S:Sc}{b:Nat}(ok:S.Ok b){n:Nat}{t:Tk}{g:Gp}(H:S.ts[n]?=some t)(hd:t.dead=false)(N:t.on=false)(M:S.gs[t.zpc]?=some g)(J:g.there=true){p:Nat}(hp:p<S.ps):∃x,(S.hs p).gs g.hi=some x/\x.q.get (2*(t.hi:Int))=none:=by
 obtain⟨_,A⟩:=ok.gk _ g M J;have D:=ok.hk p hp g.hi;rw[A]at D;obtain⟨x,G⟩:=Option.isSome_iff_exists.1 D;refine⟨x,G,?_⟩;cases he:x.q.get (2*(t.hi:Int))with
 | none=>rfl
 | some e=>
  have O:x.q.has (2*(t.hi:Int)):=zbz.2 (by rw[he];simp);obtain⟨m,u,y,hm,hu,_,_,_,B⟩:=(ok.ev p hp g.hi t.hi).1 ⟨x,G,O⟩;have E:=(ok.on hm hu).at_;have I:=(ok.tk n t H hd).at_;rw[B,I]at E;subst E;rw[H]at hm;obtain rfl:=Option.some.inj hm;rw[N]at hu;cases hu
theorem zp7.zsF{w:World}{b:Nat}{gb:Nat->Nat}{t:Tk}(h:zp7 w b gb t)(v:Int):zp7 (w.setCell ⟨b,11,none⟩ (.int .i64 v)) b gb { t with e:={ t.e with v:=v } }:=zi h
theorem zaR(n p:Nat)(woke:Bool)(t:Tk)(b:Nat)(w:World)(F:Nat->Prop)(s:Nat)(S:Sc)(L:Lay)(h:zq w F s S L)(ok:S.Ok b)(j:S.ts[n]?=some t)(hd:t.dead=false)(ho:t.on=false)(hp:p<S.ps):
 Calls prog 89 #[ptr s,ptr (L.tb n),.int .i64 p,.bool woke] w fun z w'=>(∃v,z=.returned v)/\zn w F s (S.put n p woke) L w':=by
 have W:=ok.tk n t j hd;have H7:=W.zqN;obtain⟨g,hg,K⟩:=W.zpc;obtain⟨x,hx,h4⟩:=ok.ztC j hd ho hg K hp;have HX:=zc hx;have H2:=zc h4;have o:=Sc.zp0 j;have u:=Sc.zpj hg;have hq:=W.hi;have H3:=ok.hc p hp;have H4:=ok.credit;have Z:=W.e;have h2:=W.min;obtain⟨m,hm⟩:=zh ((S.hs p).minOf g.hi)
 have h9: -9223372036854775808<=m/\m<=9223372036854775807:=by obtain⟨G,hH,_⟩:=h.zq5 hp;rw[hm];unfold Hm.minOf;rw[hx];exact(hH.2.q _ _ hx).1.min
 obtain⟨I,a⟩:=zh ((if p=t.p then t.e.v else zco t.e.v t.min m))
 obtain⟨V,hV⟩:=zh ((if woke=true then zah I m S.credit else I))
 have f: -9223372036854775808<=I/\I<=9223372036854775807:=by
  rw[a];split
  ·exact Z.1.v
  ·exact zeH _ _ _
 have hj: -9223372036854775808<=V/\V<=9223372036854775807:=by
  rw[hV];split
  ·exact zde f
  ·exact f
 have h7:S.put n p woke=((S.zps n (t.zqj p V)).zpf p ((S.hs p).put g.hi { t.e with v:=V })):=by
  have hy:S.zqP n p woke=V:=by unfold Sc.zqP Sc.least;rw[o,u,<-hm,hV,a]
  unfold Sc.put;rw[hy,o,u];rfl
 have ht:=zc h7;have HC:Hid (∀(w':World) (F':Nat->Prop) (y:Tk),zq w' F' s (S.zps n y) L->w'.cell? ⟨L.tb n,5,none⟩=some (ptr (L.gb t.zpc))->Calls prog 88 #[ptr s,ptr (L.tb n),.int .i64 p] w' fun z hz=>z=.returned (.int .i64 m)/\Below w'.heap.size w' hz):=zc (fun w' F' y hb c5=>by rw[hm];exact zav (L.tb n) t.zpc p g w' F' s (S.zps n y) L hb hg (ok.hi hg K) hp c5);have HH:=zc h;have d:=zc j;have HG:=zc hg;have H6:(p:Int) <(S.ps:Int):=by omega
 have hf:=zc a;have HV:=zc hV;have Y:=zc Z;have h0:=zc (show t.e.id=t.hi from Z.2);obtain⟨t0,t1,t2,t3,t4,t5,t6,t7,t8,t9,t10,t11,t12,t13⟩:=(h.tk j).zq7;have B:=(h.tk j).lt;have J:=(h.tk j).zpe;clear h ok j hd ho W K hx h4 o u hm h7 a hV Z;go_enter func89,ntmps89;go_upto_if 13 with(fail)
 go_cut []from 13 to 34 (fun wc=>zn w F s (S.zps n { t with e:={ t.e with v:=I } }) L wc)
 case first=>
  by_cases X:p=t.p
  ·have hb:((p:Int) != (t.p:Int))=false:=by rw[X];simp
   have he:I=t.e.v:=by rw[hf.out,if_pos X]
   have Q:Hid (zn w F s (S.zps n { t with e:={ t.e with v:=I } }) L w):=zc (by rw[he];rw[show S.zps n { t with e:={ t.e with v:=t.e.v } }=S from zeI d.out];exact zn.refl HH.out);clear he X;go_wp2_with fail;go_meet
   case rel=>exact Q.out
  ·have hb:((p:Int) != (t.p:Int))=true:=by simp;omega
   have he:I=zco t.e.v t.min m:=by rw[hf.out,if_neg X]
   have P:=zc he;have l:=h2;have H0:=Y.out.1.v;clear he X t0 t1 t2 t3 t4 t6 t7 t8 t9 t10 t12;go_wp2_with fail;go_region_with
    (first
     | (
      go_at_call 88;refine(HC.out w.drew F t ((by rw[zeI d.out];exact HH.out:zq w F s (S.zps n t) L).kept fun k _ _=>rfl) t5).mono ?_;rintro z w4 ⟨rfl,A⟩;have U:=zc (show Below w.heap.size w w4 from⟨A.os,A.tape,A.output,A.size,A.block⟩);replace t11:=(A.cell (p:=⟨L.tb n,11,none⟩) B).trans t11;replace t13:=(A.cell (p:=⟨L.tb n,13,none⟩) B).trans t13;replace B:=zf B A.size;clear A J t5)
     | (
      go_at_call 130;refine(zkd t.e.v t.min m w4 H0 l h9).mono ?_;rintro z w5 ⟨rfl,D⟩;rw[<-P.out];have O:=zc (zj U.out D U.out.size);replace t11:=(D.cell (p:=⟨L.tb n,11,none⟩) B).trans t11;replace B:=zf B D.size;have J:=(HH.out.behind O.out |>.tk d.out).zpe;clear D t13))
   all_goals
    go_wp2_with fail;go_meet
    case rel=>
     have h5:=HH.out.behind O.out;exact zn.zo7 O.out (h5.zri d.out (zo8.refl _ _).one ((h5.tk d.out).zsF I))
 case rest=>
  have E:=zc hcut;clear hcut t0 t1 t2 t3 t4 t5 t6 t7 t8 t9 t10 t11 t12 t13 B J;have M:=zc (xu (t':={ t with e:={ t.e with v:=I } }) d.out);go_upto_if 35 with(fail)
  go_cut []from 35 to 54 (fun wd=>zn w F s (S.zps n { t with e:={ t.e with v:=V } }) L wd)
  case first=>
   cases woke with
   | false=>
    have he:V=I:=by rw[HV.out,if_neg (by decide)]
    have Q:Hid (zn w F s (S.zps n { t with e:={ t.e with v:=V } }) L wc):=zc (by rw[he];exact E.out);clear he;go_wp2_with fail;go_meet
    case rel=>exact Q.out
   | true=>
    have he:V=zah I m S.credit:=by rw[HV.out,if_pos rfl]
    have P:=zc he;obtain⟨-,-,-,-,-,t5,-,-,-,-,-,t11,-,-⟩:=(E.out.1.tk M.out).zq7;have B:=(E.out.1.tk M.out).lt;obtain⟨s3,T⟩:wc.cell? ⟨s,3,none⟩=some (.int .i64 S.credit)/\s<wc.heap.size:=by obtain⟨tg,hh⟩:=E.out.1;exact⟨hh.sx.c3,hh.sx.lt⟩
    clear he;go_wp2_with fail;go_region_with
     (first
      | (
       go_at_call 88;refine(HC.out wc.drew _ _ (E.out.1.kept fun k _ _=>rfl) t5).mono ?_;rintro z w4 ⟨rfl,A⟩;have U:=zc (show Below wc.heap.size wc w4 from⟨A.os,A.tape,A.output,A.size,A.block⟩);replace t11:=(A.cell (p:=⟨L.tb n,11,none⟩) B).trans t11;replace s3:=(A.cell (p:=⟨s,3,none⟩) T).trans s3;replace B:=zf B A.size;replace T:=zf T A.size;clear A t5)
      | (
       go_at_call 137;refine(zgg I m S.credit w4 h9 (by omega)).mono ?_;rintro z w5 ⟨rfl,D⟩;rw[<-P.out];have O:=zc (zj U.out D U.out.size);replace t11:=(D.cell (p:=⟨L.tb n,11,none⟩) B).trans t11;replace B:=zf B D.size;have J:=(E.out.1.behind O.out |>.tk M.out).zpe;clear D s3))
    all_goals
     go_wp2_with fail;go_meet
     case rel=>
      have C:=E.out.below O.out;have h:=C.then (C.1.zri M.out (zo8.refl _ _).one ((C.1.tk M.out).zsF V));rw[zhb]at h;exact h
  case rest=>
   have N:=zc hcut;clear hcut;have R:=zc (xu (t':={ t with e:={ t.e with v:=V } }) d.out);obtain⟨-,-,-,t3,t4,-,-,-,-,-,-,-,-,-⟩:=(N.out.1.tk R.out).zq7;have B:=(N.out.1.tk R.out).lt;have J:=(N.out.1.tk R.out).zpe;go_wp2_with fail;have y1:zp7 (wc.setCell ⟨L.tb n,4,none⟩ (.int .i64 p)) (L.tb n) L.gb { t with p:=p,e:={ t.e with v:=V } }:=zi (N.out.1.tk R.out);have y2:zp7 ((wc.setCell ⟨L.tb n,4,none⟩ (.int .i64 p)).setCell ⟨L.tb n,3,none⟩ (.bool true)) (L.tb n) L.gb (t.zqj p V):=zi y1
   have zpZ:zo8 (fun k=>k=L.tb n) wc ((wc.setCell ⟨L.tb n,4,none⟩ (.int .i64 p)).setCell ⟨L.tb n,3,none⟩ (.bool true)):=(zo8.refl (fun k=>k=L.tb n) wc).one.one;have h3:=N.out.then (N.out.1.zri R.out zpZ y2);rw[zhb]at h3;obtain⟨c,h8⟩:=zh ((wc.setCell ⟨L.tb n,4,none⟩ (.int .i64 p)).setCell ⟨L.tb n,3,none⟩ (.bool true))
   rw[<-h8]at h3 ⊢;have H:=zc h3;clear h8 y1 y2 zpZ h3 t3 t4 B J E M HC;have h6:=zc (xu (t':=t.zqj p V) d.out);obtain⟨r,cap,hv⟩:=HH.out.zsH hp;have H5:=zc hv;obtain⟨h1,rp,hr⟩:=H.out.1.zqF (p:=p) hp hv;obtain⟨t0,t1,t2,t3,t4,t5,t6,t7,t8,t9,t10,t11,t12,t13⟩:=(H.out.1.tk h6.out).zq7;have B:=(H.out.1.tk h6.out).lt;obtain⟨g0,g1,g2,g3,g4,g5,g6⟩:=(H.out.1.gp HG.out).c7;have hl:=(H.out.1.gp HG.out).lt;have T:=H.out.1.zqq.2;obtain⟨G,hH,hU⟩:=H.out.1.zq5 (p:=p) hp;have HU:=zc hU
   have HP:Hid (Calls prog 138 #[ptr (L.hb p),.int .i64 g.hi,.agg #[.int .i64 t.e.id,.int .u64 t.e.w,.int .i64 V,.int .u64 t.e.rem]] c.drew fun z w'=>z=.returned (.int .i64 0)/\yW c.drew G (L.hb p) ((S.hs p).put g.hi { t.e with v:=V }) w'):=zc (zme g.hi t.hi { t.e with v:=V } c.drew G (L.hb p) (S.hs p) x (hH.kept fun k _ _=>rfl) HX.out ⟨Y.out.1.id,Y.out.1.w,hj,Y.out.1.rem⟩ hq h0.out H2.out (by rw[H3];omega));clear t0 t1 t2 t3 t4 t6 t7 t8 t13 g0 g2 g3 g4 g5 g6 hv hU hH;simp only[Tk.zqj]at t9 t10 t11 t12 t5;go_region_with
    (
     go_at_call 138;refine HP.out.mono ?_;rintro z w4 ⟨rfl,ha⟩;have hk:=zc (HU.out _ _ (yW.zo7 (F:=G) (⟨rfl,rfl,rfl,zg _,fun _ _=>rfl⟩:Below c.heap.size c c.drew) ha));clear ha t5 t9 t10 t11 t12 g1 h1 rp hr B hl T)
   all_goals
    go_end0;refine⟨⟨_,rfl⟩,?_⟩;rw[ht.out];exact H.out.then hk.out
end
theorem zhc{S:Sc}{n p:Nat}{woke:Bool}(B: -9223372036854775808<=(S.t n).e.v/\(S.t n).e.v<=9223372036854775807): -9223372036854775808<=S.zqP n p woke/\S.zqP n p woke<=9223372036854775807:=by
 unfold Sc.zqP;simp only;have A: -9223372036854775808<=(if p=(S.t n).p then(S.t n).e.v else zco (S.t n).e.v (S.t n).min (S.least n p))/\(if p=(S.t n).p then(S.t n).e.v else zco (S.t n).e.v (S.t n).min (S.least n p))<=9223372036854775807:=by
  split
  ·exact B
  ·exact zeH _ _ _
 split
 ·exact zde A
 ·exact A
theorem Sc.Ok.put{S:Sc}{b:Nat}(ok:S.Ok b)(hq:∀p,p<S.ps->(S.hs p).Ok){n:Nat}{t:Tk}(d:S.ts[n]?=some t)(hd:t.dead=false)(ho:t.on=false){p:Nat}(hp:p<S.ps)(woke:Bool):(S.put n p woke).Ok b:=by
 have D:=ok.tk n t d hd;obtain⟨g,h,P⟩:=D.zpc;obtain⟨x,hx,Z⟩:=ok.ztC d hd ho h P hp;have Y:=Sc.zp0 d;have s:=Sc.zpj h;obtain⟨V,hV⟩:=zh (S.zqP n p woke)
 have q: -9223372036854775808<=V/\V<=9223372036854775807:=by rw[hV];exact zhc (by rw[Y];exact D.e.1.v)
 have J:({ t.e with v:=V }:En).Ok:=⟨D.e.1.id,D.e.1.w,q,D.e.1.rem⟩
 obtain⟨a1,a2,a3⟩:=zez (hq p hp) hx J D.hi D.e.2 Z;have h8:S.put n p woke=((S.zps n (t.zqj p V)).zpf p ((S.hs p).put g.hi { t.e with v:=V })):=by unfold Sc.put;rw[<-hV,Y,s];rfl
 have hF:=zmP (hq p hp) (ok.hf p hp) hx J D.hi D.e.2 Z;rw[h8];obtain⟨t1,E⟩:∃t1:Tk,t1=t.zqj p V:=⟨_,rfl⟩
 have W:zdN S n t1:=by rw[E];exact⟨D.zpc,D.pool,D.hi,D.at_,hp,D.wt,D.mask,⟨J,D.e.2⟩,D.nice,D.min⟩
 have j:t1.on=true:=by rw[E];rfl
 have T:t1.p=p:=by rw[E];rfl
 have X:t1.zpc=t.zpc:=by rw[E];rfl
 have f:t1.hi=t.hi:=by rw[E];rfl
 have l:t1.dead=false:=by rw[E];exact hd
 rw[<-E];obtain⟨O,F⟩:∃O,O=(S.hs p).put g.hi { t.e with v:=V }:=⟨_,rfl⟩
 rw[<-F]at a1 a2 a3 hF ⊢;have C:∀k,k<S.ps->yV (S.hs k) (zpt S.hs p O k):=fun k _=>by
  by_cases e:k=p
  ·subst e;rw[zy];exact a2
  ·rw[zA _ _ e];exact .refl _
 refine⟨ok.zqg,ok.ps,ok.tick,ok.credit,ok.lat,ok.tr,ok.tok,ok.zsf,?_,ok.gl,ok.g0,ok.gk,ok.pl,ok.gu,?_,?_,?_,?_,?_,?_,?_,?_,ok.ck,ok.bk⟩
 ·show(S.ts.set n t1).length<=b;rw[List.length_set];exact ok.tl
 ·intro k y a m Q;obtain⟨c,N,o⟩:=ok.gx k y a m Q;exact⟨c,N,o⟩
 ·intro k u hu h7;rcases zT hu with⟨rfl,rfl⟩ | ⟨B,hu⟩
  ·exact W.of rfl rfl rfl rfl
  ·exact(ok.tk k u hu h7).of rfl rfl rfl rfl
 ·intro k u hu L;rcases zT hu with⟨rfl,rfl⟩ | ⟨B,hu⟩
  ·exact l
  ·exact ok.dead k u hu L
 ·intro k A i;show(((zpt S.hs p O) k).gs i).isSome=(S.pl i).isSome;rw[zce (C k A) i];exact ok.hk k A i
 ·intro k A i z hz Q;rcases(C k A).gs i with⟨_,N⟩ | ⟨z0,z1,c,N,o,h4⟩
  ·exact absurd (N.symm.trans hz) (by simp)
  ·have K:some z1=some z:=N.symm.trans hz;obtain rfl:=Option.some.inj K;obtain⟨h5,h6⟩:=ok.hu k A i z0 c Q;exact⟨o.trans h5,h4.trans h6⟩
 ·intro k A;exact(C k A).cr.trans (ok.hc k A)
 ·intro k A;show((zpt S.hs p O) k).zpC;by_cases e:k=p
  ·subst e;rw[zy];exact hF
  ·rw[zA _ _ e];exact ok.hf k A
 ·intro r A i k;show((zpt S.hs p O) r).even i k↔∃(n':Nat) (t':Tk) (g':Gp),(S.ts.set n t1)[n']?=some t'/\t'.on=true/\t'.p=r/\S.gs[t'.zpc]?=some g'/\g'.hi=i/\t'.hi=k;have M:=(ze d).1;have zsK:(∃(n':Nat) (t':Tk) (g':Gp),(S.ts.set n t1)[n']?=some t'/\n'≠n/\t'.on=true/\t'.p=r/\S.gs[t'.zpc]?=some g'/\g'.hi=i/\t'.hi=k)↔(S.hs r).even i k:=by
   rw[ok.ev r A i k];constructor
   ·rintro⟨n',u,y,hu,B,I⟩;rw[List.getElem?_set_ne (Ne.symm B)]at hu;exact⟨n',u,y,hu,I⟩
   ·rintro⟨n',u,y,hu,G,I⟩;have B:n'≠n:=by rintro rfl;rw[d]at hu;obtain rfl:=Option.some.inj hu;rw[ho]at G;cases G
    exact⟨n',u,y,by rw[List.getElem?_set_ne (Ne.symm B)];exact hu,B,G,I⟩
  by_cases e:r=p
  ·subst e;rw[zy,a3,<-zsK];constructor
   ·rintro(⟨c,N⟩ | ⟨n',u,y,hu,_,I⟩)
    ·exact⟨n,t1,g,by rw[List.getElem?_set_self M],j,T,by rw[X];exact h,c.symm,by rw[f];omega⟩
    ·exact⟨n',u,y,hu,I⟩
   ·rintro⟨n',u,y,hu,G,H,a,R,U⟩;by_cases B:n'=n
    ·subst B;rw[List.getElem?_set_self M]at hu;obtain rfl:=Option.some.inj hu;rw[X,h]at a;obtain rfl:=Option.some.inj a;exact .inl ⟨R.symm,by rw[<-U,f]⟩
    ·exact .inr ⟨n',u,y,hu,B,G,H,a,R,U⟩
  ·rw[zA _ _ e,<-zsK];constructor
   ·rintro⟨n',u,y,hu,_,I⟩;exact⟨n',u,y,hu,I⟩
   ·rintro⟨n',u,y,hu,G,H,I⟩;have B:n'≠n:=by rintro rfl;rw[List.getElem?_set_self M]at hu;obtain rfl:=Option.some.inj hu;exact e (H.symm.trans T)
    exact⟨n',u,y,hu,B,G,H,I⟩
theorem Sc.Ok.zpf{S:Sc}{b:Nat}(ok:S.Ok b){p:Nat}(hp:p<S.ps){B:Hm}(X:yV (S.hs p) B)(he:∀k i,B.even k i↔(S.hs p).even k i)(V:B.zpC):(S.zpf p B).Ok b:=by
 have H:∀k,k<S.ps->yV (S.hs k) (zpt S.hs p B k):=fun k _=>by
  by_cases e:k=p
  ·subst e;rw[zy];exact X
  ·rw[zA _ _ e];exact .refl _
 refine⟨ok.zqg,ok.ps,ok.tick,ok.credit,ok.lat,ok.tr,ok.tok,ok.zsf,ok.tl,ok.gl,ok.g0,ok.gk,ok.pl,ok.gu,?_,?_,ok.dead,?_,?_,?_,?_,?_,ok.ck,ok.bk⟩
 ·intro k y Y I E;obtain⟨G,D,J⟩:=ok.gx k y Y I E;exact⟨G,D,J⟩
 ·intro k u hu M;exact(ok.tk k u hu M).of rfl rfl rfl rfl
 ·intro k A i;show(((zpt S.hs p B) k).gs i).isSome=(S.pl i).isSome;rw[zce (H k A) i];exact ok.hk k A i
 ·intro k A i z O E;rcases(H k A).gs i with⟨_,D⟩ | ⟨z0,T,G,D,J,R⟩
  ·exact absurd (D.symm.trans O) (by simp)
  ·have N:some T=some z:=D.symm.trans O;obtain rfl:=Option.some.inj N;obtain⟨U,Z⟩:=ok.hu k A i z0 G E;exact⟨J.trans U,R.trans Z⟩
 ·intro k A;exact(H k A).cr.trans (ok.hc k A)
 ·intro k A;show((zpt S.hs p B) k).zpC;by_cases e:k=p
  ·subst e;rw[zy];exact V
  ·rw[zA _ _ e];exact ok.hf k A
 ·intro r A i k;show((zpt S.hs p B) r).even i k↔_;by_cases e:r=p
  ·subst e;rw[zy,he];exact ok.ev r A i k
  ·rw[zA _ _ e];exact ok.ev r A i k
theorem Sc.Ok.alike{S:Sc}{b:Nat}(ok:S.Ok b){p:Nat}(hp:p<S.ps){A:Hm}(B:xP (S.hs p) A)(D:A.zpC):(S.zpf p A).Ok b:=ok.zpf hp B.zsd B.even D
theorem Sc.Ok.zpG{S:Sc}{b:Nat}(ok:S.Ok b)(p:Nat){c:Ck}(M:ud b c/\c.lat=S.lat):(S.zpG p c).Ok b:=by
 refine⟨ok.zqg,ok.ps,ok.tick,ok.credit,ok.lat,ok.tr,ok.tok,ok.zsf,ok.tl,ok.gl,ok.g0,ok.gk,ok.pl,ok.gu,?_,?_,ok.dead,ok.hk,ok.hu,ok.hc,ok.hf,ok.ev,?_,ok.bk⟩
 ·intro k y H A E;obtain⟨G,D,J⟩:=ok.gx k y H A E;exact⟨G,D,J⟩
 ·intro k u hu B;exact(ok.tk k u hu B).of rfl rfl rfl rfl
 ·intro r I;show ud b ((zpt S.cs p c) r)/\((zpt S.cs p c) r).lat=S.lat;by_cases e:r=p
  ·subst e;rw[zy];exact M
  ·rw[zA _ _ e];exact ok.ck r I
theorem Sc.Ok.zpd{S:Sc}{b:Nat}(ok:S.Ok b){n:Nat}{g g':Gp}(X:S.gs[n]?=some g)(f:n≠0)(d:g'.hi=g.hi)(c:g'.hg=g.hg)(Z:g'.there=g.there)(Y:g.there=true->zoO S b g'):(S.zpd n g').Ok b:=by
 have U:=(ze X).1;have fwd:∀(m:Nat) (y:Gp),(S.gs.set n g')[m]?=some y->∃z,S.gs[m]?=some z/\y.hi=z.hi/\y.hg=z.hg/\y.there=z.there/\(m≠n->y=z):=fun m y A=>by
  rcases zT A with⟨rfl,rfl⟩ | ⟨O,A⟩
  ·exact⟨g,X,d,c,Z,fun h=>absurd rfl h⟩
  ·exact⟨y,A,rfl,rfl,rfl,fun _=>rfl⟩
 have bwd:∀(m:Nat) (z:Gp),S.gs[m]?=some z->∃y,(S.gs.set n g')[m]?=some y/\y.hi=z.hi/\y.hg=z.hg/\y.there=z.there:=fun m z B=>by
  by_cases e:m=n
  ·subst e;rw[X]at B;obtain rfl:=Option.some.inj B;exact⟨g',by rw[List.getElem?_set_self U],d,c,Z⟩
  ·exact⟨z,by rw[List.getElem?_set_ne (Ne.symm e)];exact B,rfl,rfl,rfl⟩
 refine⟨ok.zqg,ok.ps,ok.tick,ok.credit,ok.lat,ok.tr,ok.tok,ok.zsf,ok.tl,?_,?_,?_,?_,ok.gu,?_,?_,ok.dead,ok.hk,ok.hu,ok.hc,ok.hf,?_,ok.ck,ok.bk⟩
 ·show 1<=(S.gs.set n g').length/\(S.gs.set n g').length<=b+1;rw[List.length_set];exact ok.gl
 ·obtain⟨x,l,j⟩:=ok.g0;exact⟨x,by show(S.gs.set n g')[0]?=_;rw[List.getElem?_set_ne f];exact l,j⟩
 ·intro m y A D;obtain⟨z,B,f1,f2,f3,_⟩:=fwd m y A;obtain⟨N,M⟩:=ok.gk m z B (by rw[<-f3];exact D);exact⟨by rw[f1,f2];exact N,by rw[f1];exact M⟩
 ·intro i m hm;obtain⟨z,B,H,G⟩:=ok.pl i m hm;obtain⟨y,A,f1,f2,f3⟩:=bwd m z B;exact⟨y,A,by rw[f3];exact H,by rw[f1];exact G⟩
 ·intro m y A D T;rcases zT A with⟨rfl,rfl⟩ | ⟨O,A⟩
  ·obtain⟨N,M,V⟩:=Y (by rw[<-Z];exact D);exact⟨N,M,V⟩
  ·obtain⟨N,M,V⟩:=ok.gx m y A D T;exact⟨N,M,V⟩
 ·intro k u hu a;have h:=ok.tk k u hu a;obtain⟨z,B,H⟩:=h.zpc;obtain⟨y,A,f1,f2,f3⟩:=bwd _ z B;exact⟨⟨y,A,by rw[f3];exact H⟩,h.pool,h.hi,h.at_,h.zqN,h.wt,h.mask,h.e,h.nice,h.min⟩
 ·intro p hp i k;rw[show((S.zpd n g').hs p).even i k↔(S.hs p).even i k from Iff.rfl,ok.ev p hp i k];constructor
  ·rintro⟨m,u,z,hu,I,E,B,G,J⟩;obtain⟨y,A,f1,_,_⟩:=bwd _ z B;exact⟨m,u,y,hu,I,E,A,by rw[f1];exact G,J⟩
  ·rintro⟨m,u,y,hu,I,E,A,R,J⟩;obtain⟨z,B,f1,_,_,_⟩:=fwd _ y A;exact⟨m,u,z,hu,I,E,B,by rw[<-f1];exact R,J⟩
def Sc.Fit(S:Sc)(b:Nat):Prop:=S.Ok b/\∀p,p<S.ps->(S.hs p).Ok
def Sc.zqw(S S':Sc):Prop:=∃hs,S'={ S with hs:=hs }
theorem Sc.zqw.refl(S:Sc):S.zqw S:=⟨S.hs,rfl⟩
theorem Sc.zqw.zpf{S S':Sc}(h:S.zqw S')(p:Nat)(x:Hm):S.zqw (S'.zpf p x):=by obtain⟨hs,rfl⟩:=h;exact⟨_,rfl⟩
theorem Sc.Fit.alike{S:Sc}{b:Nat}(h:S.Fit b){p:Nat}(hp:p<S.ps){A:Hm}(B:xP (S.hs p) A)(E:A.zpC):(S.zpf p A).Fit b:=by
 refine⟨h.1.alike hp B E,fun k D=>?_⟩;show((zpt S.hs p A) k).Ok;by_cases e:k=p
 ·subst e;rw[zy];exact B.ok
 ·rw[zA _ _ e];exact h.2 k D
theorem zbi{S:Sc}{b:Nat}(h:S.Fit b)(g:Nat)(here:List Int):∀k,k<=S.ps->(S.zpU g here k).Fit b/\S.zqw (S.zpU g here k)
 | 0,_=>⟨h,.refl S⟩
 | k+1,hk=>by
  obtain⟨A,D⟩:=zbi h g here k (by omega);unfold Sc.zpU;simp only;have B:(S.zpU g here k).ps=S.ps:=by obtain⟨hs,e⟩:=D;rw[e]
  have hp:k<(S.zpU g here k).ps:=by rw[B];omega
  split
  ·obtain⟨w1,E⟩:=zeB (S.g g).shares (here.getD k 0) here.sum;exact⟨A.alike hp (zap (A.2 k hp) _ w1 E) (ziD (A.1.hf k hp) _ _),D.zpf _ _⟩
  ·exact⟨A,D⟩
theorem zkQ{S:Sc}{b:Nat}(h:S.Fit b)(g:Nat):(S.zpo g).Fit b/\S.zqw (S.zpo g):=zbi h g _ _ (zg _)
theorem Sc.zqw.trans{a b c:Sc}(h:a.zqw b)(A:b.zqw c):a.zqw c:=by obtain⟨h1,rfl⟩:=h;obtain⟨B,rfl⟩:=A;exact⟨B,rfl⟩
theorem zbj{S:Sc}{b:Nat}(h:S.Fit b):∀k,(S.zpI k).Fit b/\S.zqw (S.zpI k)
 | 0=>⟨h,.refl S⟩
 | k+1=>by
  obtain⟨B,A⟩:=zbj h k;unfold Sc.zpI;simp only;split
  ·exact⟨B,A⟩
  ·split
   ·exact⟨B,A⟩
   ·obtain⟨E,D⟩:=zkQ B _;exact⟨E,A.trans D⟩
theorem zmU{S:Sc}{b:Nat}(h:S.Fit b){p:Nat}(hp:p<S.ps):(S.zpf p (S.hs p).pick.1).Fit b:=h.alike hp (zba (h.2 p hp)) (Hm.zpC.pick (h.2 p hp) (h.1.hf p hp))
theorem zeJ{S:Sc}{b:Nat}(h:S.Fit b){p:Nat}(hp:p<S.ps):(S.zpf p (S.hs p).yield.1).Fit b:=h.alike hp (zgx (h.2 p hp)) (ziE (h.2 p hp) (h.1.hf p hp))
theorem zdS{S:Sc}{b:Nat}(h:S.Fit b){p:Nat}(hp:p<S.ps)(ns:Int):(S.zpf p ((S.hs p).zpg ns)).Fit b:=h.alike hp (zeh (h.2 p hp) ns) (Hm.zpC.zpg (h.2 p hp) (h.1.hf p hp) ns)
theorem zax{S:Sc}{b:Nat}(h:S.Fit b){p:Nat}(hp:p<S.ps)(g:Nat)(v:Bool):(S.zpf p ((S.hs p).stop g v)).Fit b:=h.alike hp (zia (h.2 p hp) g v) (zkL (h.2 p hp) (h.1.hf p hp) g v)
theorem zmV{S:Sc}{b:Nat}(h:S.Fit b){p:Nat}(hp:p<S.ps)(g k:Nat)(w:Int):(S.zpf p ((S.hs p).nice g k w)).Fit b:=h.alike hp (zdj (h.2 p hp) g k w) (zkM (h.1.hf p hp) g k w)
theorem qY{S:Sc}{b:Nat}(h:S.Fit b){n:Nat}{t:Tk}(A:S.ts[n]?=some t)(B:t.on=true):(S.leave n).Fit b:=by
 refine⟨h.1.leave h.2 A B,fun p hp=>?_⟩;have D:=h.1.on A B;obtain⟨g,E,_⟩:=D.zpc;obtain⟨x,e,G,_⟩:=h.1.stands A B E;show((zpt S.hs (S.t n).p ((S.hs (S.t n).p).drop (S.g (S.t n).zpc).hi (S.t n).hi)) p).Ok;rw[Sc.zp0 A,Sc.zpj E];by_cases e:p=t.p
 ·subst e;rw[zy];exact(zdi (h.2 _ D.zqN) G t.hi).1
 ·rw[zA _ _ e];exact h.2 p hp
theorem zbP{S:Sc}{b:Nat}(h:S.Fit b){n:Nat}{t:Tk}(D:S.ts[n]?=some t)(hd:t.dead=false)(N:t.on=false){p:Nat}(hp:p<S.ps)(woke:Bool):(S.put n p woke).Fit b:=by
 refine⟨h.1.put h.2 D hd N hp woke,fun k O=>?_⟩;have A:=h.1.tk n t D hd;obtain⟨g,M,G⟩:=A.zpc;obtain⟨x,R,H⟩:=h.1.ztC D hd N M G hp;have B:=Sc.zp0 D;have I:=Sc.zpj M;have J:=zhc (S:=S) (n:=n) (p:=p) (woke:=woke) (by rw[B];exact A.e.1.v);have E:({ t.e with v:=S.zqP n p woke }:En).Ok:=⟨A.e.1.id,A.e.1.w,J,A.e.1.rem⟩
 obtain⟨T,_,_⟩:=zez (h.2 p hp) R E A.hi A.e.2 H;show((zpt S.hs p ((S.hs p).put (S.g (S.t n).zpc).hi ((S.t n).zqj p (S.zqP n p woke)).e)) k).Ok;rw[B,I];by_cases e:k=p
 ·subst e;rw[zy];exact T
 ·rw[zA _ _ e];exact h.2 k O
end Go.Proofs.YtmgekibncmnmiaaGreatDoor
