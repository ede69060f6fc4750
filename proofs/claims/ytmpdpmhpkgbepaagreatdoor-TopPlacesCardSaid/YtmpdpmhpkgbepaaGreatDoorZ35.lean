/- Parts for TopPlaces. Conditions: as stated. -/
import Derived.Test.YtmpdpmhpkgbepaaGreatDoorZ25
import Derived.Test.YtmpdpmhpkgbepaaGreatDoorZ34
set_option linter.unusedVariables false
set_option maxRecDepth 100000
set_option maxHeartbeats 4000000
open Go.Value renaming int->zd,slice->zf,agg->zg,bool->zh,tuple->zi
open Go.IntKind renaming i64->zj,u64->zk
open Go.Ending renaming returned->zm
open Go.Obj renaming cells->zn
open Option renaming some->zo,none->zp
open Go renaming World->zu,Calls->zw
open Option.some renaming inj->zx
open List renaming getElem?_eq_getElem->zy
open And renaming intro->zQ
open Go.Proofs.Tryz
namespace Go.Proofs.YtmpdpmhpkgbepaaGreatDoor
open Go Go.RowKit Go.ChangeShapes Go.WideShapes
variable {w:zu}
theorem Au(s body:ByteArray)(A:List ByteArray)(B:List Ev)(m:Nat)(w:zu)(hs:s.size<4294967281)(O:body.size<4294967281)(h8:s.toList.isEmpty=false)(hcut:Lib.hasSuffix s.data.toList [10]=true)(G:(⟨(Lib.trimSuffix s.data.toList [10]).toArray⟩:ByteArray)=body)
 (hc:Lib.countB body ⟨#[10]⟩+1=A.length) (hp:Lib.splitB ⟨#[10]⟩ 0 (Lib.countB body ⟨#[10]⟩) body=A) (hm:A.length=m) (h9:m<=100) (o:B.length=m)
 (hO:∀W (i:Nat) t e,Below w.heap.size w W->A[i]?=zo t->B[i]?=zo e->zw prog 63 #[.string t] W fun z w'=>z=zm (zi #[zg #[zd zj e.kind,zd zj e.a,zd zj e.b,zd zj e.n,zd zj e.m,zd zk e.mask],zd zj 0])/\Below W.heap.size W w'):
 zw prog 24 #[.string s] w fun z w'=>∃a c,z=zm (zi #[zf a m c,zd zj 0,zd zj 0])/\w'.ownsRow w.heap.size 35 6 (zf a m c) m (vT B)/\Below w.heap.size w w':=by
 obtain⟨i0,hi,L,h4,Q⟩:=info_parts XP;obtain⟨h3,F,HO,M⟩:=Qf (Tryz.strings_CutSuffix s ⟨#[10]⟩ w (by omega)) (Mo body 10 A w O hc hp) hO (zQ hcut (zQ G (zQ hm o)));clear hs O hc hp hO hcut G hm o;go_enter func24,ntmps24;go_wp2_with fail;refine h3.out.mono ?_;rintro z w2 ⟨hz,y⟩;obtain rfl:=y.symm;obtain rfl:z=zm (zi #[.string body,zh true]):=by rw[hz];have h1:=M.out.1;have h2:=M.out.2.1;show zm (zi #[.string ⟨(Lib.trimSuffix s.data.toList [10]).toArray⟩,zh (Lib.hasSuffix s.data.toList [10])])=_;rw[h1,h2]
 clear hz;go_wp2_with fail;refine F.out.mono ?_;rintro z N ⟨rfl,I⟩;obtain⟨R,x⟩:=yB w.heap.size
 have U:N.heap[R]?=zo (zn (A.map Value.string).toArray 9 (0,0)):=by rw[I,x];exact heap_alloc_new w _
 have Y:Below w.heap.size w N:=by rw[I];exact yE w _
 have Z:=yw (zQ U (zQ Y x));rw[<-x,M.out.2.2.1];clear I U Y x;go_wp2_with fail;go_loopw [8,9,10,11,12,27] (fun v8 _ _ _ _ i wr=>∃(k:Nat) (v:Option Addr) (q:Nat),k<=m/\i=zd zj k/\v8=zf v k q/\wr.ownsRow N.heap.size 35 6 (zf v k q) k (vT (B.take k))/\Below N.heap.size N wr) (fun _ _ _ _ _ i _=>m-(intOf i).toNat)
 case atStart=>exact⟨0,zp,0,by omega,rfl,rfl,by simpa[vT]using World.ownsRow_nil _ _ _ _,Below.refl _ _⟩
 case round=>
  obtain⟨k,v,q,hk,rfl,rfl,H,hb⟩:=hrel;obtain⟨f,HB,p⟩:=Qe H hb (yC Z.out.2.1 hb Z.out.2.1.size);clear H hb;by_cases V:k<m
  .have ha:(k:Int) <(m:Int):=by omega
   obtain⟨t,T⟩:∃t,A[k]?=zo t:=⟨_,zy (by rw[M.out.2.2.1];exact V)⟩
   obtain⟨e,he⟩:∃e,B[k]?=zo e:=⟨_,zy (by rw[M.out.2.2.2];exact V)⟩
   have j:wr.heap[R]?=zo (zn (A.map Value.string).toArray 9 (0,0)):=(HB.out.block R (yx Z.out.1).1).trans Z.out.1;have h6:wr.cell? ⟨R,k,zp⟩=zo (.string t):=by simp[World.cell?,j,T]
   have d:=yw (HO.out wr k t e p.out T he);have HE:=yw he;clear T he j;obtain⟨lb,hf⟩:∃lb,((k:Int) == (m:Int) -1)=lb:=⟨_,rfl⟩
   go_wp2_with fail;refine d.out.mono ?_;rintro z r ⟨rfl,J⟩;have l:=yw (yC HB.out J HB.out.size);have X:=yw (qQ f.out J);have h7:=l.out.size;clear J h6;cases lb
   all_goals
    go_wp2_with (at_builtin;go_loud (refine wpList_append_own _ rfl _ _ 24 rfl N.heap.size 35 i0 (zg #[zd zj 0,zd zj 0,zd zj 0,zd zj 0,zd zj 0,zd zk 0]) 6 48 underlying24 hi L h4 Q rfl (by decide) _ k (vT (B.take k)) rfl ((X.out.alloc _).alloc _) ⟨r.heap.size+1,0,zp⟩ 1 1 [zd zj e.kind,zd zj e.a,zd zj e.b,zd zj e.n,zd zj e.m,zd zk e.mask] rfl rfl ?c1 ?c2 ?c3 ?c4 ?c5 ?_))
    case c1=>
     have h:=heap_alloc_new (r.alloc (zn #[zd zj e.kind,zd zj e.a,zd zj e.b,zd zj e.n,zd zj e.m,zd zk e.mask] 35)) (zn #[zd zj e.kind,zd zj e.a,zd zj e.b,zd zj e.n,zd zj e.m,zd zk e.mask] 35);rw[show(r.alloc (zn #[zd zj e.kind,zd zj e.a,zd zj e.b,zd zj e.n,zd zj e.m,zd zk e.mask] 35)).heap.size=r.heap.size+1 by simp]at h;exact World.news_of_block (cs:=#[zd zj e.kind,zd zj e.a,zd zj e.b,zd zj e.n,zd zj e.m,zd zk e.mask]) (t:=35) (fr:=(0,0)) h
    case c2=>intro u hu;simp at hu;rcases hu with rfl|rfl|rfl|rfl|rfl|rfl<;>rfl
    case c3=>unfold maxLen;omega
    case c4=>omega
    case c5=>simp;omega
    intro v' w6 D E _;have K:=yw (Below.grown ((l.out.alloc h7 (zn #[zd zj e.kind,zd zj e.a,zd zj e.b,zd zj e.n,zd zj e.m,zd zk e.mask] 35)).alloc (by simp;omega) (zn #[zd zj e.kind,zd zj e.a,zd zj e.b,zd zj e.n,zd zj e.m,zd zk e.mask] 35)) E (by simp;omega) (fun kk C=>(X.out.lt kk C).1));have S:=yw D;rcases D.2 with⟨_,h0⟩|⟨g,h5,cur,hv,_⟩
    .omega
    subst hv;clear D E;go_wp2_with fail;go_roundw
    case rel=>exact⟨k+1,zo ⟨g,0,zp⟩,h5,by omega,by go_num,rfl,by rw[List.take_add_one,HE.out];show World.ownsRow _ _ _ _ _ _ (vT (B.take k++ [e]));rw[XQ];exact S.out,K.out⟩
    case measure=>simp[intOf];omega
  .have P:k=m:=by omega
   subst P;go_wp2;go_ret3;have T:B.take k=B:=by rw[<-M.out.2.2.2,List.take_length]
   exact⟨v,q,rfl,by have h:=f.out;rw[T]at h;exact vV h Z.out.2.1.size,p.out⟩
def Xu(w:zu):Prop:=Lib.TabIs prog w "internal/strconv.uint64pow10" zk Lib.pow10Tab
theorem Xu.stays{w':zu}(h:Xu w)(hb:Below w.heap.size w w'):Xu w':=Mp h hb
structure eE(t:ByteArray)(v:Int):Prop where
 size:t.size<=9223372036854775806
 parse:Lib.parseIntB 64 t.data.toList=.ok v
 lo: -9223372036854775808<=v
 hi:v<=9223372036854775807
 itoa:(⟨(Lib.itoa v).toArray⟩:ByteArray)=t
theorem eE.dV{t:ByteArray}{v:Int}(h:eE t v)(A:Xu w):∀W,Below w.heap.size w W->zw prog 176 #[.string t] W fun z w'=>z=zm (zi #[zd zj v,zh true])/\Below W.heap.size W w':=
 fun W hb=>XM t v W h.size h.parse h.lo h.hi h.itoa (A.stays hb)
theorem Xb{B:Nat}{cs:Array Value}{t:TypeId}(h:w.heap[B]?=zo (zn cs t (0,0))){j:Nat}{v:Value}(A:cs[j]?=zo v):w.cell? ⟨B,j,zp⟩=zo v/\B<w.heap.size/\w.frozen? ⟨B,j,zp⟩=false:=
 ⟨by simp[World.cell?,h,A],(yx h).1,by simp[World.frozen?,h]⟩
theorem Pf(s A H J:ByteArray)(k a n:Int)(w:zu)(O:Xu w)(N:k=1∨k=11)(hs:s.size<4294967281)(X:Lib.countB s ⟨#[32]⟩+1=3)(U:Lib.splitB ⟨#[32]⟩ 0 (Lib.countB s ⟨#[32]⟩) s= [A,H,J])(M:Lib.idxOfS (uN.take 15) A=k-1)(R:0<=a)(V:eE H a)(T:eE J n):
 zw prog 63 #[.string s] w fun z w'=>z=zm (zi #[zg #[zd zj k,zd zj a,zd zj 0,zd zj n,zd zj 0,zd zk 0],zd zj 0])/\Below w.heap.size w w':=by
 refine Ie s [A,H,J] A k (fun B=> [dE B 1,bF B 3]) [(1,zd zj a),(3,zd zj n)] 2 a 0 n 0 0 w hs X U rfl (by decide) rfl M (by omega) (fun _=>rfl) rfl rfl ?_ ?_
 .intro B W hb I;exact BG W B k 0 0 0 0 0 I N
 .intro B W i f t x hb I G D E
  match i,G,D,E with
  | 0,G,D,E=>
   obtain rfl:=zx G;obtain rfl:=zx D;obtain rfl:=zx E;obtain⟨c,l,z⟩:=Xb (v:=zd zj 0) I (j:=1) rfl;exact Ve H a 0 W B 1 R c l z (V.dV (O.stays hb))
  | 1,G,D,E=>
   obtain rfl:=zx G;obtain rfl:=zx D;obtain rfl:=zx E;obtain⟨c,l,z⟩:=Xb (v:=zd zj 0) I (j:=3) rfl;exact Xa J n 0 W B 3 c l z (T.dV (O.stays hb))
  | i+2,G,D,E=>simp at G
theorem LP(s E I J M:ByteArray)(k a n m:Int)(w:zu)(O:Xu w)(R:k=5)(hs:s.size<4294967281)(Z:Lib.countB s ⟨#[32]⟩+1=4)(X:Lib.splitB ⟨#[32]⟩ 0 (Lib.countB s ⟨#[32]⟩) s= [E,I,J,M])(N:Lib.idxOfS (uN.take 15) E=k-1)(U:0<=a)(Y:eE I a)(V:eE J n)(T:eE M m):
 zw prog 63 #[.string s] w fun z w'=>z=zm (zi #[zg #[zd zj k,zd zj a,zd zj 0,zd zj n,zd zj m,zd zk 0],zd zj 0])/\Below w.heap.size w w':=by
 refine Ie s [E,I,J,M] E k (fun B=> [dE B 1,bF B 3,bF B 4]) [(1,zd zj a),(3,zd zj n),(4,zd zj m)] 3 a 0 n m 0 w hs Z X rfl (by decide) rfl N (by omega) (fun _=>rfl) rfl rfl ?_ ?_
 .intro B W hb H;subst R;exact XN W B 0 0 0 0 0 H
 .intro B W i f t x hb H G A D
  match i,G,A,D with
  | 0,G,A,D=>
   obtain rfl:=zx G;obtain rfl:=zx A;obtain rfl:=zx D;obtain⟨c,l,z⟩:=Xb (v:=zd zj 0) H (j:=1) rfl;exact Ve I a 0 W B 1 U c l z (Y.dV (O.stays hb))
  | 1,G,A,D=>
   obtain rfl:=zx G;obtain rfl:=zx A;obtain rfl:=zx D;obtain⟨c,l,z⟩:=Xb (v:=zd zj 0) H (j:=3) rfl;exact Xa J n 0 W B 3 c l z (V.dV (O.stays hb))
  | 2,G,A,D=>
   obtain rfl:=zx G;obtain rfl:=zx A;obtain rfl:=zx D;obtain⟨c,l,z⟩:=Xb (v:=zd zj 0) H (j:=4) rfl;exact Xa M m 0 W B 4 c l z (T.dV (O.stays hb))
  | i+3,G,A,D=>simp at G
theorem JS(s E I J:ByteArray)(k a n:Int)(w:zu)(O:Xu w)(N:k=6)(hs:s.size<4294967281)(X:Lib.countB s ⟨#[32]⟩+1=4)(U:Lib.splitB ⟨#[32]⟩ 0 (Lib.countB s ⟨#[32]⟩) s= [E,I,J,⟨#[48]⟩])(M:Lib.idxOfS (uN.take 15) E=k-1)(R:0<=a)(V:eE I a)(T:eE J n):
 zw prog 63 #[.string s] w fun z w'=>z=zm (zi #[zg #[zd zj k,zd zj a,zd zj 0,zd zj n,zd zj 0,zd zk 1],zd zj 0])/\Below w.heap.size w w':=by
 refine Ie s [E,I,J,⟨#[48]⟩] E k (fun B=> [dE B 1,bF B 3,iI B 5]) [(1,zd zj a),(3,zd zj n),(5,zd zk 1)] 3 a 0 n 0 1 w hs X U rfl (by decide) rfl M (by omega) (fun _=>rfl) rfl rfl ?_ ?_
 .intro B W hb H;subst N;exact XO W B 0 0 0 0 0 H
 .intro B W i f t x hb H G A D
  match i,G,A,D with
  | 0,G,A,D=>
   obtain rfl:=zx G;obtain rfl:=zx A;obtain rfl:=zx D;obtain⟨c,l,z⟩:=Xb (v:=zd zj 0) H (j:=1) rfl;exact Ve I a 0 W B 1 R c l z (V.dV (O.stays hb))
  | 1,G,A,D=>
   obtain rfl:=zx G;obtain rfl:=zx A;obtain rfl:=zx D;obtain⟨c,l,z⟩:=Xb (v:=zd zj 0) H (j:=3) rfl;exact Xa J n 0 W B 3 c l z (T.dV (O.stays hb))
  | 2,G,A,D=>
   obtain rfl:=zx G;obtain rfl:=zx A;obtain rfl:=zx D;obtain⟨c,l,z⟩:=Xb (v:=zd zk 0) H (j:=5) rfl;exact GH 0 W B 5 c l z
  | i+3,G,A,D=>simp at G
theorem Mt:eE ⟨#[48]⟩ 0:=⟨by decide,by decide+kernel,by decide,by decide,by decide+kernel⟩
theorem Av:eE ⟨#[49,48,50,52]⟩ 1024:=⟨by decide,by decide+kernel,by decide,by decide,by decide+kernel⟩
theorem MJ:eE ⟨#[49]⟩ 1:=⟨by decide,by decide+kernel,by decide,by decide,by decide+kernel⟩
theorem NH:eE ⟨#[51,48]⟩ 30:=⟨by decide,by decide+kernel,by decide,by decide,by decide+kernel⟩
theorem XW:eE ⟨#[49,48]⟩ 10:=⟨by decide,by decide+kernel,by decide,by decide,by decide+kernel⟩
theorem NR:eE ⟨#[50]⟩ 2:=⟨by decide,by decide+kernel,by decide,by decide,by decide+kernel⟩
def GI:ByteArray:=⟨#[103,114,111,117,112,32,48,32,49,48,50,52,10,103,114,111,117,112,32,48,32,49,48,50,52,10,113,117,111,116,97,32,49,32,51,48,32,49,48,10,115,112,97,119,110,32,49,32,48,32,48,10,115,112,97,119,110,32,50,32,48,32,48,10,116,105,99,107,32,48,32,49,48,10,116,105,99,107,32,48,32,49,48,10]⟩
def NI:ByteArray:=⟨#[103,114,111,117,112,32,48,32,49,48,50,52,10,103,114,111,117,112,32,48,32,49,48,50,52,10,113,117,111,116,97,32,49,32,51,48,32,49,48,10,115,112,97,119,110,32,49,32,48,32,48,10,115,112,97,119,110,32,50,32,48,32,48,10,116,105,99,107,32,48,32,49,48,10,116,105,99,107,32,48,32,49,48]⟩
def NJ:List ByteArray:= [⟨#[103,114,111,117,112,32,48,32,49,48,50,52]⟩,⟨#[103,114,111,117,112,32,48,32,49,48,50,52]⟩,⟨#[113,117,111,116,97,32,49,32,51,48,32,49,48]⟩,⟨#[115,112,97,119,110,32,49,32,48,32,48]⟩,⟨#[115,112,97,119,110,32,50,32,48,32,48]⟩,⟨#[116,105,99,107,32,48,32,49,48]⟩,⟨#[116,105,99,107,32,48,32,49,48]⟩]
theorem Aw(w:zu)(D:Xu w):zw prog 24 #[.string GI] w fun z w'=>∃a c,z=zm (zi #[zf a 7 c,zd zj 0,zd zj 0])/\w'.ownsRow w.heap.size 35 6 (zf a 7 c) 7 (vT vz)/\Below w.heap.size w w':=by
 refine Au GI NI NJ vz 7 w (by decide) (by decide) (by decide+kernel) (by decide+kernel) (by decide+kernel) (by decide+kernel) (by decide+kernel) rfl (by decide) rfl ?_;intro W i t e hb B A
 match i,B,A with
 | 0,B,A=>
  obtain rfl:=zx B;obtain rfl:=zx A;exact Pf _ ⟨#[103,114,111,117,112]⟩ _ _ 1 0 1024 W (D.stays hb) (by omega) (by decide) (by decide+kernel) (by decide+kernel) (by decide+kernel) (by decide) Mt Av
 | 1,B,A=>
  obtain rfl:=zx B;obtain rfl:=zx A;exact Pf _ ⟨#[103,114,111,117,112]⟩ _ _ 1 0 1024 W (D.stays hb) (by omega) (by decide) (by decide+kernel) (by decide+kernel) (by decide+kernel) (by decide) Mt Av
 | 2,B,A=>
  obtain rfl:=zx B;obtain rfl:=zx A;exact LP _ ⟨#[113,117,111,116,97]⟩ _ _ _ 5 1 30 10 W (D.stays hb) rfl (by decide) (by decide+kernel) (by decide+kernel) (by decide+kernel) (by decide) MJ NH XW
 | 3,B,A=>
  obtain rfl:=zx B;obtain rfl:=zx A;exact JS _ ⟨#[115,112,97,119,110]⟩ _ _ 6 1 0 W (D.stays hb) rfl (by decide) (by decide+kernel) (by decide+kernel) (by decide+kernel) (by decide) MJ Mt
 | 4,B,A=>
  obtain rfl:=zx B;obtain rfl:=zx A;exact JS _ ⟨#[115,112,97,119,110]⟩ _ _ 6 2 0 W (D.stays hb) rfl (by decide) (by decide+kernel) (by decide+kernel) (by decide+kernel) (by decide) NR Mt
 | 5,B,A=>
  obtain rfl:=zx B;obtain rfl:=zx A;exact Pf _ ⟨#[116,105,99,107]⟩ _ _ 11 0 10 W (D.stays hb) (by omega) (by decide) (by decide+kernel) (by decide+kernel) (by decide+kernel) (by decide) Mt XW
 | 6,B,A=>
  obtain rfl:=zx B;obtain rfl:=zx A;exact Pf _ ⟨#[116,105,99,107]⟩ _ _ 11 0 10 W (D.stays hb) (by omega) (by decide) (by decide+kernel) (by decide+kernel) (by decide+kernel) (by decide) Mt XW
 | i+7,B,A=>simp[vz]at A
section
attribute [local go_sem ↓] Go.wp_at_zero Go.wp_at_succ
theorem NV(D:Bool)(E G I B J A H:Int)(w:zu):(Instr.field 49 (zg (qB D E G I B J A H)) 6).run prog w=.ok (zd zj A) w:=by kernel_rfl
theorem NW(D E G H B I A:Int)(w:zu):(Instr.field 37 (zg (vq D E G H B I A)) 6).run prog w=.ok (zd zj A) w:=by kernel_rfl
theorem ZM:∀e∈vz,e.Good:=by
 have h:∀e∈vz,(-9223372036854775808<=e.kind/\e.kind<=9223372036854775807)/\e.kind≠2/\e.kind≠3:=by decide
 intro e A;exact⟨(h e A).1,BK e A,(h e A).2.1,(h e A).2.2⟩
theorem BQ{A:Sc}{a:List (Int×Int)}(h:Sc.AN gC gC (Sc.new 1 100 0 0 100) vz A a):
 a= [(1,0),(2,0),(0,0),(0,0),(1,0),(0,0),(1,0)]/\A.book.bt 1=10/\1<A.ts.length/\∃x d,A.gs[1]?=zo x/\x.there=true/\x.band=zo d/\d.spent=10:=by
 have D:=BJ h Pe;have B:A=((Sc.new 1 100 0 0 100).bD vz).1:=by rw[<-D]
 have I:a=((Sc.new 1 100 0 0 100).bD vz).2:=by rw[<-D]
 obtain⟨H,G⟩:=XV;have hb:=XU;have hk:=zr;rw[<-B]at H G hb hk;obtain⟨x,E⟩:∃x,A.gs[1]?=zo x:=⟨_,zy (by omega)⟩
 rw[Sc.PE E]at hb hk;refine⟨I.trans XS,by rw[B];exact XT,by omega,x,?_⟩;cases hd:x.band with
 | none=>rw[hd]at hb;cases hb
 | some d=>
  rw[hd]at hb;exact⟨d,E,hk,rfl,zx hb⟩
theorem YN(w:zu)(F:Xu w):zw prog 11 #[] w fun z w'=>z=zm (zh true)/\Below w.heap.size w w':=by
 have HP:=yw (Aw w F);go_enter func11,ntmps11;go_wp2_with fail;refine HP.out.mono ?_;rintro z M ⟨a,c,rfl,E,U⟩;have A:=yw (zQ (Bw.SW E) (zQ (fun r (v:a=zo ⟨r,0,zp⟩)=>(E.lt r (by rw[v];rfl)).2) U));have HN:Hid (zw prog 16 #[zg #[zd zj 1,zd zj 100,zd zj 0,zd zj 0,zd zk 100]] M fun z w'=>∃s L,z=zm (zi #[ptr s,zd zj 0])/\yK w' (fun k=>M.heap.size<=k) s (Sc.new 1 100 0 0 100) L/\Below M.heap.size M w'):=yw (Ml 1 100 0 0 100 M (by omega) (by omega) (by omega) (by omega) (by omega));clear E U;go_wp2_with fail;refine HN.out.mono ?_;rintro z Q ⟨s,L,rfl,hs,H⟩
 have n:=yw (BP vz 7 a c 0 Q (fun k=>M.heap.size<=k) s (Sc.new 1 100 0 0 100) L hs rfl (by omega) (A.out.1.behind H) (fun r v hF=>by have:=A.out.2.1 r v;omega) ZM (JY 1 100 0 0 100) (JR 1 100 0 0 100 (by omega) (by omega) (by omega) (by omega)) (by omega));have Y:=yw (yC A.out.2.2 H A.out.2.2.size);clear hs H;go_wp2_with fail;refine n.out.mono ?_;rintro z J ⟨C,b,h2,g,c',G,D,rfl,B,p⟩;obtain⟨rfl,R,l,x,d,q,j,N,X⟩:=BQ G;obtain⟨r,rfl,h0,a3,-⟩:=B 3 (0,0) rfl;obtain⟨r',O,-,a4,-⟩:=B 4 (1,0) rfl;obtain⟨r5,V,-,a5,-⟩:=B 5 (0,0) rfl;obtain⟨K,T,-,a6,-⟩:=B 6 (1,0) rfl
 obtain rfl:r=r':=by injection O with h1;injection h1
 obtain rfl:r=r5:=by injection V with h1;injection h1
 obtain rfl:r=K:=by injection T with h1;injection h1
 have S:Hid (zw prog 15 #[ptr s,zd zj 1] J (FZ J b 1)):=yw (Ap 1 x (0+7) J _ s b C p.1 D.1 q j);have HT:Hid (∀W,Below J.heap.size J W->zw prog 8 #[ptr s,zd zj 1] W (An W b 1)):=yw fun W hb=>Ib 1 (0+7) W _ s b C (p.1.behind hb) D.1 l;have h:Hid (Below w.heap.size w J):=yw (Y.out.trans (p.2.below Y.out.size fun k hk=>Nat.le_trans A.out.2.2.size hk));have o:=yw (zQ q (zQ N (zQ X R)));have f1:=NV;have f2:=NW;clear G D B p R l q j N X O V T;go_wp2_with fail;refine S.out.mono ?_;rintro z y ⟨pa,sh,qu,po,P,st,rfl,f,I⟩
 obtain rfl:P=10:=(f x d o.out.1 o.out.2.1).trans o.out.2.2.1;have u:Hid (zw prog 8 #[ptr s,zd zj 1] y (An y b 1)):=yw (HT.out y I);have m:=yw (yC h.out I h.out.size);clear f I;go_wp2_with fail;refine u.out.mono ?_;rintro z w6 ⟨s1,s2,s3,s4,s5,s6,rfl,-,Z⟩;rw[o.out.2.2.2];have t:=yw (yC m.out Z m.out.size);clear Z;go_wp2;go_ret;exact⟨rfl,t.out⟩
end
def MK(w:zu)(a:Option Addr)(A:Nat)(f:Nat->Ev):Prop:=∀j,j<A->∃b off,a=zo ⟨b,off,zp⟩/\b<w.heap.size/\
 w.cell? ⟨b,off+j*6,zp⟩=zo (zd zj (f j).kind)/\w.cell? ⟨b,off+j*6+1,zp⟩=zo (zd zj (f j).a)/\w.cell? ⟨b,off+j*6+2,zp⟩=zo (zd zj (f j).b)/\w.cell? ⟨b,off+j*6+3,zp⟩=zo (zd zj (f j).n)/\w.cell? ⟨b,off+j*6+4,zp⟩=zo (zd zj (f j).m)/\w.cell? ⟨b,off+j*6+5,zp⟩=zo (zd zk (f j).mask)
