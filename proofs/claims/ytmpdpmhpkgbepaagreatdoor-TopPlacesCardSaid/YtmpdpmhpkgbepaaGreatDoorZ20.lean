/- Parts for TopPlaces. Conditions: as stated. -/
import Derived.Defers
import Derived.Shelf.Bits.Mul64
import Derived.Test.YtmpdpmhpkgbepaaGreatDoorZ04
import Derived.Test.YtmpdpmhpkgbepaaGreatDoorZ18
set_option linter.unusedVariables false
set_option maxRecDepth 100000
set_option maxHeartbeats 4000000
open Go.Value renaming int->zd,pointer->ze,agg->zg,bool->zh,tuple->zi
open Go.IntKind renaming i64->zj,u64->zk,signed->yq
open Go.Ending renaming returned->zm
open Go.Obj renaming cells->zn
open Option renaming some->zo,none->zp
open Bool renaming true->zq,false->zt
open Go renaming World->zu,Calls->zw,Value->zz
open Option.some renaming inj->zx
open Go.World renaming cell?->zN,frozen?->zY
open Go.RowKit.Below renaming heap_setCell->zR,refl->zU
open List renaming mem_map->yh,mem_append->yn
open Go.Proofs.Tryz
namespace Go.Proofs.YtmpdpmhpkgbepaaGreatDoor
open Go Go.RowKit Go.ChangeShapes Go.WideShapes
variable {w w':zu}{b c m t n g qb p:Nat}{e a o:En}{cur min i y:Int}{ov:Bool}{F G:Nat->Prop}{x:Qu}
attribute [local go_sem ↓] Go.wp_at_zero Go.wp_at_succ
abbrev vG(e:En):Array zz:=#[zd zj e.id,zd zk e.w,zd zj e.v,zd zk e.rem]
def Ex(w:zu)(b:Nat)(e:En):Prop:=w.heap[b]?=zo (zn (vG e) 80 (0,0))
theorem Ex.lt(h:Ex w b e):b<w.heap.size:=(yx h).1
theorem Ex.c4(h:Ex w b e):w.cell? ⟨b,0,zp⟩=zo (zd zj e.id)/\w.cell? ⟨b,1,zp⟩=zo (zd zk e.w)/\w.cell? ⟨b,2,zp⟩=zo (zd zj e.v)/\w.cell? ⟨b,3,zp⟩=zo (zd zk e.rem):=by unfold Ex at h;refine⟨?_,?_,?_,?_⟩<;>simp[zN,h]
theorem Ex.OH(h:Ex w b e):∀j,w.frozen? ⟨b,j,zp⟩=zt:=by intro j;unfold Ex at h;simp[zY,h]
theorem Ex.of(h:Ex w b e)(hb:w'.heap[b]?=w.heap[b]?):Ex w' b e:=hb.trans h
theorem Ex.behind(h:Ex w b e)(hb:Below w.heap.size w w'):Ex w' b e:=h.of (hb.block b h.lt)
theorem Ex.PR{o:Nat}{u:zz}(h:Ex w b e)(A:b≠c):Ex (w.setCell ⟨c,o,zp⟩ u) b e:=h.of (zR _ _ _ _ (by exact A))
theorem Ex.iJ(h:Ex w b e)(n:Int):Ex (w.setCell ⟨b,1,zp⟩ (zd zk n)) b { e with w:=n }:=yD h
theorem Ex.cV(h:Ex w b e)(n:Int):Ex (w.setCell ⟨b,2,zp⟩ (zd zj n)) b { e with v:=n }:=yD h
theorem Ex.AS(h:Ex w b e)(n:Int):Ex (w.setCell ⟨b,3,zp⟩ (zd zk n)) b { e with rem:=n }:=yD h
theorem Ex.new(w:zu)(e:En):Ex (w.alloc (zn (vG e) 80)) w.heap.size e:=heap_alloc_new w _
def Qx(w:zu)(q m t:Nat)(cur min A:Int)(ov:Bool):Prop:=w.heap[q]?=zo (zn #[.map (zo m),ze (zo ⟨t,0,zp⟩),zd zj cur,zd zj min,zd zk A,zh ov] 217 (0,0))
theorem Qx.lt{q:Nat}{A:Int}(h:Qx w q m t cur min A ov):q<w.heap.size:=(yx h).1
theorem Qx.c6{q:Nat}{A:Int}(h:Qx w q m t cur min A ov):w.cell? ⟨q,0,zp⟩=zo (.map (zo m))/\w.cell? ⟨q,1,zp⟩=zo (ze (zo ⟨t,0,zp⟩))/\w.cell? ⟨q,2,zp⟩=zo (zd zj cur)/\w.cell? ⟨q,3,zp⟩=zo (zd zj min)/\w.cell? ⟨q,4,zp⟩=zo (zd zk A)/\w.cell? ⟨q,5,zp⟩=zo (zh ov):=by unfold Qx at h;refine⟨?_,?_,?_,?_,?_,?_⟩<;>simp[zN,h]
theorem Qx.OH{q:Nat}{A:Int}(h:Qx w q m t cur min A ov):∀j,w.frozen? ⟨q,j,zp⟩=zt:=by intro j;unfold Qx at h;simp[zY,h]
theorem Qx.of{q:Nat}{A:Int}(h:Qx w q m t cur min A ov)(hb:w'.heap[q]?=w.heap[q]?):Qx w' q m t cur min A ov:=hb.trans h
theorem Qx.behind{q:Nat}{A:Int}(h:Qx w q m t cur min A ov)(hb:Below w.heap.size w w'):Qx w' q m t cur min A ov:=h.of (hb.block q h.lt)
theorem Qx.PR{q o:Nat}{B:Int}{u:zz}(h:Qx w q m t cur min B ov)(A:q≠c):Qx (w.setCell ⟨c,o,zp⟩ u) q m t cur min B ov:=h.of (zR _ _ _ _ (by exact A))
theorem Qx.PZ{q:Nat}{A:Int}(h:Qx w q m t cur min A ov)(n:Int):Qx (w.setCell ⟨q,2,zp⟩ (zd zj n)) q m t n min A ov:=yD h
theorem Qx.setM{q:Nat}{A:Int}(h:Qx w q m t cur min A ov)(n:Int):Qx (w.setCell ⟨q,3,zp⟩ (zd zj n)) q m t cur n A ov:=yD h
theorem Qx.OP{q:Nat}{A:Int}(h:Qx w q m t cur min A ov)(n:Int):Qx (w.setCell ⟨q,4,zp⟩ (zd zk n)) q m t cur min n ov:=yD h
theorem Qx.fH{q:Nat}{A:Int}(h:Qx w q m t cur min A ov)(n:Bool):Qx (w.setCell ⟨q,5,zp⟩ (zh n)) q m t cur min A n:=yD h
structure QS(w:zu)(F:Nat->Prop)(q m t:Nat)(g:Int->Option Nat)(ld:Int)(ov:Bool)(x:Qu):Prop where
 qx:Qx w q m t x.cur x.min ld ov
 mp:uF w m g x.l.length
 rb:Rb w F t (x.l.map En.key)
 en:∀e∈x.l,∃b,g e.id=zo b/\F b/\Ex w b e
 ge:∀k b,g k=zo b->∃e∈x.l,e.id=k
 ld:0<=ld/\ld<=18446744073709551615
 om:F m
 oq:F q
 ok:x.Ok
def xZ(w:zu)(F:Nat->Prop)(q:Nat)(x:Qu):Prop:=∃m t g ld ov,QS w F q m t g ld ov x
theorem QS.kept{q:Nat}{g:Int->Option Nat}{A:Int}(h:QS w F q m t g A ov x)(hs:xz F w w'):QS w' F q m t g A ov x:=
 ⟨h.qx.of (hs q h.qx.lt h.oq),h.mp.of (hs m h.mp.lt h.om),h.rb.kept hs,fun e E=>by obtain⟨b,G,B,D⟩:=h.en e E;exact⟨b,G,B,D.of (hs b D.lt B)⟩,h.ge,h.ld,h.om,h.oq,h.ok⟩
theorem QS.mono{q:Nat}{g:Int->Option Nat}{B:Int}(h:QS w F q m t g B ov x)(A:∀k,k<w.heap.size->F k->G k):QS w G q m t g B ov x:=
 ⟨h.qx,h.mp,h.rb.mono A,fun e E=>by obtain⟨b,I,H,D⟩:=h.en e E;exact⟨b,I,A b D.lt H,D⟩,h.ge,h.ld,A m h.mp.lt h.om,A q h.qx.lt h.oq,h.ok⟩
theorem xZ.kept{q:Nat}(h:xZ w F q x)(hs:xz F w w'):xZ w' F q x:=by obtain⟨m,t,g,A,ov,h⟩:=h;exact⟨m,t,g,A,ov,h.kept hs⟩
theorem xZ.mono{q:Nat}(h:xZ w F q x)(B:∀k,k<w.heap.size->F k->G k):xZ w G q x:=by obtain⟨m,t,g,A,ov,h⟩:=h;exact⟨m,t,g,A,ov,h.mono B⟩
theorem xZ.behind{q:Nat}(h:xZ w F q x)(hb:Below w.heap.size w w'):xZ w' F q x:=h.kept (.NZ hb)
def Tb(w:zu)(k:Nat):Prop:=∃cs fr,w.heap[k]?=zo (zn cs 283 fr)∨w.heap[k]?=zo (zn cs 341 fr)
theorem Rb.small{D:List (Int×Int)}(h:Rb w F t D):Rb w (fun k=>F k/\Tb w k) t D:=by
 obtain⟨⟨T,m,E,B,O,G,I,R⟩,M,J⟩:=h;have A:∀{T:Tt},T.In w->∀b∈T.bl,Tb w b:=by
  intro T H
  induction T with
  | nil=>intro b hb;simp[Tt.bl]at hb
  | node c v i L l r ihl ihr=>
   obtain⟨N,g2,U⟩:=H;intro b hb;simp only[Tt.bl,List.mem_cons,yn]at hb;rcases hb with rfl|hb|hb
   .exact⟨_,_,.inr N⟩
   .exact ihl g2 b hb
   .exact ihr U b hb
 exact⟨⟨T,m,E,B,O,G,I,fun b hb=>⟨R b hb,A B b hb⟩⟩,⟨M,⟨_,_,.inl E⟩⟩,J⟩
theorem Ex.OL(h:Ex w b e):¬Tb w b:=by rintro⟨cs,fr,A|A⟩<;>(unfold Ex at h;rw[h]at A;simp at A)
theorem Qx.OL{q:Nat}{B:Int}(h:Qx w q m t cur min B ov):¬Tb w q:=by rintro⟨cs,fr,A|A⟩<;>(unfold Qx at h;rw[h]at A;simp at A)
theorem uF.isMap{g:Int->Option Nat}(h:uF w b g n):∃B A,w.heap[b]?=zo (.map B A):=by obtain⟨D,⟨B,A,E,_⟩,_⟩:=h.ex;exact⟨B,A,E⟩
theorem uF.OL{g:Int->Option Nat}(h:uF w b g n):¬Tb w b:=by obtain⟨es,h2,B⟩:=h.isMap;rintro⟨cs,fr,A|A⟩<;>(rw[B]at A;simp at A)
theorem Qx.PN{q:Nat}{B:Int}{g:Int->Option Nat}(h:Qx w q m t cur min B ov)(D:uF w b g n):q≠b:=by rintro rfl;obtain⟨es,h1,A⟩:=D.isMap;unfold Qx at h;rw[h]at A;simp at A
theorem Ex.PN{g:Int->Option Nat}(h:Ex w c e)(B:uF w b g n):c≠b:=by rintro rfl;obtain⟨es,h1,A⟩:=B.isMap;unfold Ex at h;rw[h]at A;simp at A
theorem Ex.AT{q:Nat}{B:Int}(h:Ex w b e)(A:Qx w q m t cur min B ov):b≠q:=by rintro rfl;unfold Qx at A;unfold Ex at h;rw[h]at A;simp at A
theorem Eo(b:Nat)(e:En)(w:zu)(h:Ex w b e):zw prog 204 #[ze (zo ⟨b,0,zp⟩)] w fun z w'=>z=zm (zg #[zd zj e.v,zd zj e.id])/\Below w.heap.size w w':=by
 obtain⟨O,J,M,N⟩:=h.c4;have Y:=yw h;clear h;go_enter func204,ntmps204;go_wp2;obtain⟨E,A⟩:=yB ((w.alloc (xI 0 0)).drew)
 have D:Below w.heap.size w E:=by rw[A];exact yI (yE w _)
 have G:Kx E w.heap.size 0 0:=by rw[A];exact Kx.new w 0 0
 have H:=yw (Y.out.behind D);obtain⟨m,I⟩:=yB w.heap.size
 rw[<-I]at G ⊢;obtain⟨R,B,T⟩:=Qe I G D;clear I D G O J M N;obtain⟨O,J,M,N⟩:=H.out.c4;obtain⟨k0,k1⟩:=B.out.c2;have h0:=B.out.OH;refine xd 9 (by kernel_rfl) (by kernel_rfl) E A ?_;clear A;simp only[List.take_succ_cons,List.take_zero,List.drop_succ_cons,List.drop_zero]
 repeat still_step
 refine wpStill_nil ?_;go_wp2;refine bodyPost_ret (v:=zg #[zd zj e.v,zd zj e.id]) ?_ rfl ⟨rfl,?_⟩
 .have hs:Kx ((E.setCell ⟨m,0,zp⟩ (zd zj e.v)).setCell ⟨m,1,zp⟩ (zd zj e.id)) m e.v e.id:=by have V:(E.setCell ⟨m,0,zp⟩ (zd zj e.v)).heap[m]?=_:=yD B.out;exact yD V
  obtain⟨U,X⟩:=hs.c2;simp[results,results204,go_sem,U,X]
 .exact qd T.out (by rw[R.out];exact yA _)
theorem IG(w:Int)(W:zu)(h1:2<=w)(h2:w<=262144):zw prog 190 #[zd zk w] W fun e A=>e=zm (zh zq)/\A=W:=by go_enter func190,ntmps190;go_wp2;go_ret;exact⟨rfl,rfl⟩
theorem IH(w:Int)(W:zu)(h1:w<2):zw prog 190 #[zd zk w] W fun e A=>e=zm (zh zt)/\A=W:=by go_enter func190,ntmps190;go_wp2;go_ret;exact⟨rfl,rfl⟩
theorem DY(w:Int)(W:zu)(h1:2<=w)(h2:262144<w):zw prog 190 #[zd zk w] W fun e A=>e=zm (zh zt)/\A=W:=by
 have h3:decide (w<=262144)=zt:=by simp;omega
 go_enter func190,ntmps190;go_wp2;go_ret;exact⟨rfl,rfl⟩
theorem JA(w:Int)(W:zu):zw prog 190 #[zd zk w] W fun e D=>e=zm (zh (Yw w))/\D=W:=by
 by_cases A:2<=w
 .by_cases B:w<=262144
  .have e:Yw w=zq:=by simp[Yw,A,B]
   rw[e];exact IG w W A B
  .have e:Yw w=zt:=by simp[Yw];omega
   rw[e];exact DY w W A (by omega)
 .have e:Yw w=zt:=by simp[Yw];omega
  rw[e];exact IH w W (by omega)
theorem Qu.Ok.new:Qu.new.Ok:=⟨by intro e A;simp[Qu.new]at A,by simp[Qu.new],by simp[Qu.new],.inl rfl,by simp[Qu.new],by simp[Qu.new]⟩
theorem Lj(w:zu):zw prog 69 #[] w fun e w'=>e=zm (ze (zo ⟨w.heap.size+2,0,zp⟩))/\xZ w' (fun k=>w.heap.size<=k) (w.heap.size+2) Qu.new/\Below w.heap.size w w':=by
 have h0:=@run_makeMap prog;go_enter func69,ntmps69;go_wp2_with fail;refine(DK _).mono ?_;rintro e G ⟨rfl,B,A⟩;have J:=(uF.new w).of (w':=G) (by rw[A];exact Below.heap_alloc _ _ _ (by simp));have hs:G.heap.size=w.heap.size+2:=by rw[A];simp
 have hb:Below w.heap.size w G:=by rw[A];exact((zU _ w).alloc (yA _) _).alloc (by simp) _
 rw[show(w.alloc (.map #[] 0)).heap.size=w.heap.size+1 by simp]at B ⊢;obtain⟨M,H,HS,I⟩:=Qf B J hs hb;clear B J hs hb A;go_wp2;go_ret;have D:=HS.out;refine⟨by rw[D];rfl,?_,I.out.alloc I.out.size _⟩;rw[<-D];have E:=yE G (zn #[.map (zo w.heap.size),ze (zo ⟨w.heap.size+1,0,zp⟩),zd zj (-1),zd zj 0,zd zk 0,zh zt] 217);refine⟨w.heap.size,w.heap.size+1,fun _=>zp,0,zt,⟨heap_alloc_new G _,H.out.of (E.block _ H.out.lt),(M.out.behind E).mono fun k _ hk=>?_,?_,?_,by omega,yA _,?_,Qu.Ok.new⟩⟩
 .rw[hk];omega
 .intro e N;simp[Qu.new]at N
 .intro k b h;cases h
 .omega
theorem Jg(n:Int):0<=IntKind.u64.wrap n/\IntKind.u64.wrap n<=18446744073709551615:=by simp only[IntKind.wrap,yq,IntKind.bits];simp;omega
theorem DZ(m v:Int):Hg.eH m [v]=max m v:=by unfold Hg.eH;rw[if_neg (by simp)];simp only[List.length_cons,List.length_nil];rw[Hg.fD];simp only[List.getD_cons_zero];split<;>omega
def Uj(m:Int)(A:List (Int×Int)):Int:=match A with
 | []=>m
 | k::_=>max m k.1
theorem Wh(x:Qu):x.raise.min=Uj x.min (x.l.map En.key):=by unfold Qu.raise Uj;cases x.l<;>simp[En.key]
theorem Ep(u:FrameMode)(w:zu)(F:Nat->Prop)(q m t:Nat)(cur min r:Int)(ov:Bool)(I:List (Int×Int))(h:Qx w q m t cur min r ov)(p:Rb w F t I)(N:∀k∈I,RH k.1)(y:RH min):
 CallsD prog 201 #[ze (zo ⟨q,0,zp⟩)] u w fun e v w'=>v=u/\(e=zm (zi #[])/\Qx w' q m t cur (Uj min I) r ov/\OA (fun k=>k=q) w w'):=by
 obtain⟨x,s,f⟩:=Qe (Pz w F t I p) h N;obtain⟨U,V,X,Z,b,a⟩:=h.c6;have Y:=h.lt;clear h p N;go_enter_d func201,ntmps201;go_wp2_with fail;refine x.out.mono ?_;rintro e G ⟨rfl,hb⟩;have B:=yw (s.out.behind hb);have T:=yw hb;clear U V X Z b a Y hb;obtain⟨U,V,X,Z,b,a⟩:=B.out.c6;have Y:=B.out.lt;have l:=B.out.OH;cases I with
 | nil=>
  go_wp2;go_end0;exact⟨rfl,B.out.behind (yE G _),OA.NZ (T.out.alloc T.out.size _)⟩
 | cons k I=>
  have hk:=f.out k (by simp);unfold RH at hk y;go_wp2_with fail;obtain⟨A,E⟩:=yB (G.alloc (xI k.1 k.2))
  have H:Below G.heap.size G A:=by rw[E];exact yE G _
  have c:Kx A G.heap.size k.1 k.2:=by rw[E];exact Kx.new G k.1 k.2
  obtain⟨o,O⟩:=yB G.heap.size
  rw[<-E];rw[<-O]at c ⊢;obtain⟨D,M,g⟩:=Qe (B.out.behind H) (yC T.out H T.out.size) c;have J:Hid (Hg.cO (A.alloc (zn #[zd zj k.1] 2)).drew (zo ⟨A.heap.size,0,zp⟩) 1 [k.1]):=yw ⟨rfl,by omega,fun j hj=>by
   obtain rfl:j=0:=by omega
   have C:(A.alloc (zn #[zd zj k.1] 2)).heap[A.heap.size]?=_:=heap_alloc_new A _;exact⟨A.heap.size,0,rfl,by simp,by show(A.alloc (zn #[zd zj k.1] 2)).cell? ⟨A.heap.size,0,zp⟩=_;unfold zN;rw[C];rfl⟩⟩
  clear E H c O U V X Z b a Y l;obtain⟨U,V,X,Z,b,a⟩:=D.out.c6;have Y:=D.out.lt;have l:=D.out.OH;obtain⟨k0,k1⟩:=g.out.c2;go_region_with
   ((go_at_call 235;refine(Hg.dY min (zo ⟨A.heap.size,0,zp⟩) 1 1 [k.1] _ J.out).mono ?_;rintro e w4 ⟨rfl,n,rfl⟩;rw[DZ]))
  all_goals
   go_wp2;go_end0;have R:=yH (yE A (zn #[zd zj k.1] 2)) (1+n);have d:OA (fun z=>z=q) w _:=OA.NZ (yC M.out R M.out.size);exact⟨rfl,(D.out.behind R).setM (max min k.1),d.setCell (.inl rfl) _⟩
theorem QS.get_none{q:Nat}{g:Int->Option Nat}{A:Int}(h:QS w F q m t g A ov x)(D:x.get i=zp):g i=zp:=by
 cases hg:g i with
 | none=>rfl
 | some b=>obtain⟨e,B,hid⟩:=h.ge i b hg;exact absurd hid (Go.Proofs.YtmpdpmhpkgbepaaGreatDoor.get_none D e B)
theorem Lk(e:En)(w:zu)(F:Nat->Prop)(q:Nat)(x:Qu)(h:xZ w F q x)(he:e.Ok)(hg:x.get e.id=zp)(h0:x.l.length<128):
 zw prog 184 #[ze (zo ⟨q,0,zp⟩),zg (vG e)] w fun z w'=>z=zm (zd zj 0)/\xZ w' (Ext F w w') q ({ x with l:=Kj e x.l }:Qu).raise/\OA F w w':=by
 obtain⟨m,t,g,L,ov,hq⟩:=h;obtain⟨y,hy⟩:∃y,y=({ x with l:=Kj e x.l }:Qu).raise:=⟨_,rfl⟩
 rw[<-hy];have HY:=yw hy;obtain⟨k9,kp,kd,kh⟩:=he;have HE:Hid e.Ok:=yw ⟨k9,kp,kd,kh⟩;have HQ:=yw hq;have HG:=yw hg;have hn:=hq.get_none hg;have hI:RH e.id:=by unfold RH;omega
 obtain⟨w1,h6⟩:=yB (w.alloc (zn (vG e) 80))
 have s:Below w.heap.size w w1:=by rw[h6];exact yE w _
 have H3:Ex w1 w.heap.size e:=by rw[h6];exact Ex.new w e
 obtain⟨N,p,k2⟩:=Qe (hq.kept (.NZ s)) H3 s;have ka:∀n,(Instr.lookup 213 (.map (zo m)) (zd zj e.id) zt).run prog (w1.drewN n)=.ok (ze zp) (w1.drewN n):=fun n=>by have:=(N.out.mp.of (w':=w1.drewN n) rfl).look hI;rw[hn]at this;exact this
 have k8:∀n ty,(Builtin.len_ #[213] ty #[.map (zo m)]).run prog (w1.drewN n)=.ok (zd zj x.l.length) (w1.drewN n):=fun n ty=>(N.out.mp.of (w':=w1.drewN n) rfl).len ty;have hj:((x.l.length:Int) == 128)=zt:=beq_eq_false_iff_ne.2 (by omega);have H1:Yw e.w=zq:=by simp[Yw];omega
 obtain⟨k6,HI,km,j⟩:=Qf H1 hI hn h0;obtain⟨Q,C,u,K,P,S⟩:=N.out.qx.c6;have G:=N.out.qx.lt;have J:=N.out.qx.OH;obtain⟨B,hB⟩:=yB w.heap.size
 rw[<-hB]at p;have kn:=yw hB;obtain⟨e0,e1,e2,e3⟩:=p.out.c4;have h9:=p.out.lt;clear hy hq hg hn hI s H3 h0 H1;go_enter_defers func184,ntmps184;go_wp2_with fail;rw[<-hB];rw[show w.alloc (zn (vG e) 80)=w1 from h6.symm];clear h6 hB;refine(JA _ _).mono ?_;rintro z I ⟨rfl,hw⟩;obtain rfl:=hw.symm;rw[k6.out];go_wp2_with fail;go_quiet (fail);go_wp2_with fail;obtain⟨I,X⟩:=yB ((w1.drewN nq).drew)
 have hl:xz F w1 I:=by rw[X];exact fun k _ _=>rfl
 have A:=yw (N.out.kept hl);have E:Hid (Ex I B e):=yw (by rw[X];exact p.out);have H7:Hid (Below w.heap.size w I):=yw (by rw[X];exact yH k2.out (nq+1));clear hl ka k8 Q C u K P S G J e0 e1 e2 e3 h9 hj N p k2;obtain⟨Q,C,u,K,P,S⟩:=A.out.qx.c6;have G:=A.out.qx.lt;obtain⟨e0,e1,e2,e3⟩:=E.out.c4;have h9:=E.out.lt;refine xd 6 (by kernel_rfl) (by kernel_rfl) I X ?_;clear X;simp only[List.take_succ_cons,List.take_zero,List.drop_succ_cons,List.drop_zero]
 repeat still_step
 refine wpStill_nil ?_;obtain⟨D,Hy,H0,k5⟩:=A.out.mp.ex;obtain⟨ho,hz,H2⟩:=Qe Hy H0 k5;clear Hy H0 k5;refine wpList_mapUpdate_own _ rfl _ _ _ 213 rfl 3 290 vD underlying213 eG m x.l.length D (by rfl) ho.out (by have:=j.out;unfold maxLen;omega) _ _ _ (by rfl) (by rfl) (Kk HI.out) (.lit (.int zj B)) [] (GY B) ?_;intro T Z U;have k4:=yw (uF.stored HI.out km.out ho.out hz.out H2.out Z);have Y:OA (fun z=>z=m) I T:=(OA.refl (fun z=>z=m) I).grown U fun k hk=>.inl (by cases hk;rfl);have hu:=yw Y;have h8:=yw (A.out.qx.of (Y.block q A.out.qx.lt (A.out.qx.PN A.out.mp)))
 have hr:=yw (E.out.of (Y.block B E.out.lt (E.out.PN A.out.mp)));have ki:=yw (A.out.rb.small.kept (w':=T) (xz.PS Y fun k hk e=>A.out.mp.OL (e▸hk.2)));clear Z U ho hz H2 Y Q C u K P S G e0 e1 e2 e3 h9;obtain⟨Q,C,u,K,P,S⟩:=h8.out.c6;have G:=h8.out.lt;have J:=h8.out.OH;go_wp2_with fail;go_region_held3 (fun w'=>w'.cell? ⟨q,1,zp⟩=zo (ze (zo ⟨t,0,zp⟩))) (go_keep)
  (first
   | (
    go_at_call 204;refine(Eo B e T.drew hr.out).mono ?_;rintro z V ⟨rfl,ht⟩;have O:=yw ht;have R:=yw ((show Qx T.drew q m t x.cur x.min L ov from h8.out).behind ht);clear ht Q C u K P S G J;obtain⟨Q,C,u,K,P,S⟩:=R.out.c6;have G:=R.out.lt;have J:=R.out.OH)
   | (
    go_at_call 205;refine(Cl e.v e.id V _ t (x.l.map En.key) (ki.out.kept (w':=V) (xz.NZ (w:=T.drew) O.out)) ?_ ?_).mono ?_
    .rintro hm;obtain⟨a,o,hk⟩:=yh.1 hm;exact Go.Proofs.YtmpdpmhpkgbepaaGreatDoor.get_none HG.out a o (congrArg Prod.snd hk)
    .have:=j.out;simp;omega
    rintro z w5 ⟨rfl,Hg,W⟩;obtain⟨k3,H8,c,k0⟩:=Qf Hg W (R.out.of (W.block q R.out.lt (fun hk=>A.out.qx.OL hk.2))) (((show Ex T.drew B e from hr.out).behind O.out).of (W.block B ((show Ex T.drew B e from hr.out).behind O.out).lt (fun hk=>E.out.OL hk.2)));clear Hg W Q C u K P S G J;obtain⟨Q,C,u,K,P,S⟩:=c.out.c6;have G:=c.out.lt;have J:=c.out.OH))
 go_wp2_with fail;obtain⟨H,M⟩:=yB w5.drew
 have h7:Hid (Qx H q m t x.cur x.min L ov):=yw (by rw[M];exact c.out);have k1:Hid (Ex H B e):=yw (by rw[M];exact k0.out);have k7:Hid (Rb H (Ext (fun k=>F k/\Tb I k) V w5) t (uG e.key (x.l.map En.key))):=yw (by rw[M];exact k3.out.kept (fun k _ _=>rfl));have hh:Hid (OA (fun k=>F k/\Tb I k) V H):=yw (by rw[M];exact H8.out.drew);have hv:Hid (H.heap.size=w5.heap.size):=yw (by rw[M];rfl);clear Q C u K P S G J k3 H8 c k0;obtain⟨Q,C,u,K,P,S⟩:=h7.out.c6;have G:=h7.out.lt;have J:=h7.out.OH;obtain⟨e0,e1,e2,e3⟩:=k1.out.c4;have h9:=k1.out.lt;refine xd 9 (by kernel_rfl) (by kernel_rfl) H M ?_;clear M
 simp only[List.take_succ_cons,List.take_zero,List.drop_succ_cons,List.drop_zero]
 repeat still_step
 refine wpStill_nil ?_;go_wp2;have hp:=yw (A.out.ok.put HE.out HG.out j.out);have kj:Hid (Qx (H.setCell ⟨q,4,zp⟩ (zd zk (IntKind.u64.wrap (L+e.w)))) q m t x.cur x.min (IntKind.u64.wrap (L+e.w)) ov):=yw (h7.out.OP _);have H4:Hid (Rb (H.setCell ⟨q,4,zp⟩ (zd zk (IntKind.u64.wrap (L+e.w)))) (Ext (fun k=>F k/\Tb I k) V w5) t (uG e.key (x.l.map En.key))):=yw (k7.out.kept fun k hk hf=>zR _ _ _ _ (by
  show k≠q;rintro rfl;rcases hf with hf|hf
  .exact A.out.qx.OL hf.2
  .have:=R.out.lt;omega))
 refine leaves_cons (f:=201) (args:=#[ze (zo ⟨q,0,zp⟩)]) (by simp) (by simp[go_sem]) ?_;refine(Ep .returning _ _ q m t x.cur x.min _ ov (uG e.key (x.l.map En.key)) kj.out H4.out ?_ ?_).mono ?_
 .intro k hk;rw[<-uX]at hk;obtain⟨a,o,rfl⟩:=yh.1 hk;exact(hp.out.RA a o).v
 .exact hp.out.min
 rintro z u' w8 ⟨rfl,rfl,kl,r⟩;have hy:=HY.out;have kg:OA F V (H.setCell ⟨q,4,zp⟩ (zd zk (IntKind.u64.wrap (L+e.w)))):=(hh.out.mono fun k hk=>hk.1).setCell (.inl A.out.oq) _;have hx:OA F V w8:=kg.trans r fun k hk=>.inl (hk▸A.out.oq);have h4:OA F I V:=(hu.out.mono fun k hk=>hk▸A.out.om).trans (have h:=OA.NZ (F:=F) O.out;⟨h.os,h.tape,h.output,h.size,h.block⟩:OA F T V) fun k hk=>.inl hk;have hT:OA F w w8:=((OA.NZ H7.out).trans h4 fun k hk=>.inl hk).trans hx fun k hk=>.inl hk;refine⟨_,results_tmp rfl _ _ _,rfl,?_,hT⟩;have kw:=H7.out.size;have hl:=h4.size;have ks:=r.size;have kv:=hh.out.size;have ku:=O.out.size
 have kt:=hu.out.size;have H9:(H.setCell ⟨q,4,zp⟩ (zd zk (IntKind.u64.wrap (L+e.w)))).heap.size=H.heap.size:=by simp[World.setCell]
 have kb:T.drew.heap.size=T.heap.size:=rfl;have kr:=hv.out;have hc:y.l=Kj e x.l:=by rw[hy,uz]
 have kq:y.cur=x.cur:=by rw[hy,uY]
 have kk:y.min=Uj x.min (uG e.key (x.l.map En.key)):=by rw[hy,Wh,uX]
 have hB:w.heap.size<=B:=by rw[kn.out];exact yA _
 have h5:∀k,k<I.heap.size->k≠m->k≠q->¬Tb I k->w8.heap[k]?=I.heap[k]?:=by intro k hk h1 h2 h3;have a1:T.heap[k]?=I.heap[k]?:=hu.out.block k hk h1;have a2:V.heap[k]?=T.heap[k]?:=O.out.block k (by rw[kb];omega);have a3:H.heap[k]?=V.heap[k]?:=hh.out.block k (by omega) (fun e=>h3 e.2);have a4:(H.setCell ⟨q,4,zp⟩ (zd zk (IntKind.u64.wrap (L+e.w)))).heap[k]?=H.heap[k]?:=zR _ _ _ _ (by exact h2);have a5:=r.block k (by rw[H9];omega) h2;rw[a5,a4,a3,a2,a1]
 refine⟨m,t,qC g e.id (zo B),IntKind.u64.wrap (L+e.w),ov,⟨?_,?_,?_,?_,?_,Jg _,.inl A.out.om,.inl A.out.oq,by rw[hy];exact hp.out.raise⟩⟩
 .rw[kq,kk];exact kl
 .rw[hc,Kr];refine k4.out.of ?_;have ke:m<T.heap.size:=k4.out.lt;have ko:¬Tb I m:=A.out.mp.OL;have H6:m≠q:=fun e=>A.out.qx.PN A.out.mp e.symm;have a2:V.heap[m]?=T.heap[m]?:=O.out.block m ke;have a3:H.heap[m]?=V.heap[m]?:=hh.out.block m (by omega) (fun e=>ko e.2);have a4:(H.setCell ⟨q,4,zp⟩ (zd zk (IntKind.u64.wrap (L+e.w)))).heap[m]?=H.heap[m]?:=zR _ _ _ _ (by exact H6);have a5:=r.block m (by rw[H9];omega) H6;rw[a5,a4,a3,a2]
 .rw[hc,uX];refine(H4.out.kept (xz.PS r fun k hk e=>?_)).mono fun k hk hf=>?_
  .subst e;rcases hk with hk|hk
   .exact A.out.qx.OL hk.2
   .have:=R.out.lt;omega
  .rcases hf with hf|hf
   .exact .inl hf.1
   .exact .inr ⟨by omega,by omega⟩
 .intro a o;rw[hc]at o;rcases(qt e x.l a).1 o with rfl|o
  .have kc:=E.out.lt;refine⟨B,uV _ _ _,.inr ⟨hB,by omega⟩,E.out.of (h5 B kc (E.out.PN A.out.mp) (E.out.AT A.out.qx) E.out.OL)⟩
  .obtain⟨b,s,kf,d⟩:=A.out.en a o;have hj:a.id≠e.id:=Go.Proofs.YtmpdpmhpkgbepaaGreatDoor.get_none HG.out a o;refine⟨b,by rw[qG _ _ hj];exact s,.inl kf,d.of (h5 b d.lt (d.PN A.out.mp) (d.AT A.out.qx) d.OL)⟩
 .intro k b hk;rw[hc];by_cases H5:k=e.id
  .exact⟨e,(qt e x.l e).2 (.inl rfl),H5.symm⟩
  .rw[qG _ _ H5]at hk;obtain⟨a,o,hi⟩:=A.out.ge k b hk;exact⟨a,(qt e x.l a).2 (.inr o),hi⟩
abbrev Rm(e:En):Obj:=zn (vG e) 80
abbrev En.zero:En:=⟨0,0,0,0⟩
theorem Ex.iK(h:Ex w b a)(e:En):Ex ((((w.setCell ⟨b,0,zp⟩ (zd zj e.id)).setCell ⟨b,1,zp⟩ (zd zk e.w)).setCell ⟨b,2,zp⟩ (zd zj e.v)).setCell ⟨b,3,zp⟩ (zd zk e.rem)) b e:=by have D:(w.setCell ⟨b,0,zp⟩ (zd zj e.id)).heap[b]?=_:=yD h;have B:=yD (i:=1) (u:=zd zk e.w) D;have A:=yD (i:=2) (u:=zd zj e.v) B;exact yD (i:=3) (u:=zd zk e.rem) A
theorem uZ{a:zu}{u0 u1 u2 u3:zz}(h:OA F a w)(hb:F b∨a.heap.size<=b):OA F a ((((w.setCell ⟨b,0,zp⟩ u0).setCell ⟨b,1,zp⟩ u1).setCell ⟨b,2,zp⟩ u2).setCell ⟨b,3,zp⟩ u3):=(((h.setCell (by exact hb) _).setCell (by exact hb) _).setCell (by exact hb) _).setCell (by exact hb) _
theorem QS.eB{q:Nat}{g:Int->Option Nat}{A:Int}(h:QS w F q m t g A ov x)(E:x.get i=zo e):∃b,g i=zo b/\F b/\Ex w b e:=by obtain⟨D,B⟩:=xu E;obtain⟨b,hb⟩:=h.en e D;rw[B]at hb;exact⟨b,hb⟩
theorem Uk(i:Int)(e:En)(w:zu)(F:Nat->Prop)(q:Nat)(x:Qu)(h:xZ w F q x)(hg:x.get i=zo e):
 zw prog 185 #[ze (zo ⟨q,0,zp⟩),zd zj i] w fun z w'=>z=zm (zi #[zg (vG e),zd zj 0])/\xZ w' F q (x.drop i)/\OA F w w':=by
 obtain⟨m,t,g,ld,ov,hq⟩:=h;obtain⟨y,hy⟩:∃y,y=({ l:=OJ i x.l,cur:=if x.cur=i then -1 else x.cur,min:=x.min }:Qu).raise:=⟨_,rfl⟩
 have ku:x.drop i=y:=by rw[hy];unfold Qu.drop;rw[hg]
 rw[ku];have HY:=yw hy;obtain⟨hl,hid⟩:=xu hg;have m5:=hq.ok.RA e hl;obtain⟨md,mj,me,mf⟩:=m5;have hI:RH i:=by unfold RH;rw[<-hid];omega
 obtain⟨b,kl,K0,kz⟩:=hq.eB hg;obtain⟨HQ,HG,H7,P,HI,m4,mh⟩:=Qi hq hg hid hl hI kl K0;have H2:=hq.ok.len;have kr:=yw H2;obtain⟨w1,H5⟩:=yB (w.alloc (Rm En.zero))
 have O:Below w.heap.size w w1:=by rw[H5];exact yE w _
 have k0:Ex w1 w.heap.size En.zero:=by rw[H5];exact Ex.new w En.zero
 obtain⟨hr,kg,ke⟩:=Qe (hq.kept (.NZ O)) (kz.behind O) O;have m3:(Instr.lookup 213 (.map (zo m)) (zd zj i) zt).run prog w1=.ok (ze (zo ⟨b,0,zp⟩)) w1:=by have:=hr.out.mp.look hI;rw[kl]at this;exact this
 obtain⟨c0,c1,c2,c3,c4,c5⟩:=hr.out.qx.c6;have N:=hr.out.qx.lt;have j:=hr.out.qx.OH;obtain⟨R,hR⟩:=yB w.heap.size
 rw[<-hR]at k0;have hu:=yw hR;have k5:=yw k0;obtain⟨e0,e1,e2,e3⟩:=kg.out.c4;have K2:=k0.lt;clear hy hq hg hI O kz ku hid hl kl K0 H2 k0;go_enter_defers func185,ntmps185;go_upto_region 1 with(fail)
 rw[<-hR];rw[show w.alloc (zn #[zd zj 0,zd zk 0,zd zj 0,zd zk 0] 80)=w1 from H5.symm];clear H5 hR;go_upto_region 5 with(fail)
 obtain⟨E,H3⟩:=yB (w1.alloc (Rm e))
 have p:Below w1.heap.size w1 E:=by rw[H3];exact yE w1 _
 have k9:Ex E w1.heap.size e:=by rw[H3];exact Ex.new w1 e
 obtain⟨L,hL⟩:=yB w1.heap.size
 rw[show w1.alloc (zn #[zd zj e.id,zd zk e.w,zd zj e.v,zd zk e.rem] 80)=E from H3.symm,<-hL];rw[<-hL]at k9;obtain⟨A,mi,K3,K,Hg⟩:=Qg (hr.out.kept (.NZ p)) (kg.out.behind p) (yC ke.out p ke.out.size) (k5.out.behind p) k9;have m9:Hid (w.heap.size<L):=yw (by have h1:=k5.out.lt;have h2:=hu.out;omega);clear H3 hL p k9 m3 c0 c1 c2 c3 c4 c5 N j e0 e1 e2 e3 K2 hr kg ke k5;obtain⟨c0,c1,c2,c3,c4,c5⟩:=A.out.qx.c6;have N:=A.out.qx.lt;obtain⟨D,K7,ky,m2⟩:=A.out.mp.ex;obtain⟨k8,kw,K1⟩:=Qe K7 ky m2;clear K7 ky m2
 go_wp2_with (at_delete;refine wpList_delete_own _ rfl _ _ 213 3 rfl 290 vD underlying213 eG m x.l.length D (by rfl) k8.out _ _ (by rfl) (Kk HI.out) ?_);intro T h5 h0;have Hy:=yw (uF.dropped HI.out m4.out k8.out kw.out K1.out h5);have hv:OA (fun z=>z=m) E T:=(OA.refl (fun z=>z=m) E).grown h0.grown fun k hk=>.inl (by cases hk;rfl);obtain⟨Q,H9,kh,kt⟩:=Qf hv (A.out.qx.of (hv.block q A.out.qx.lt (A.out.qx.PN A.out.mp))) (Hg.out.of (hv.block L Hg.out.lt (Hg.out.PN A.out.mp))) (A.out.rb.small.kept (w':=T) (xz.PS hv fun k hk e=>A.out.mp.OL (e▸hk.2)))
 clear h5 h0 k8 kw K1 hv c0 c1 c2 c3 c4 c5 N;obtain⟨c0,c1,c2,c3,c4,c5⟩:=H9.out.c6;have N:=H9.out.lt;have j:=H9.out.OH;go_wp2_with fail;go_region_held3 (fun w'=>w'.cell? ⟨q,1,zp⟩=zo (ze (zo ⟨t,0,zp⟩))) (go_keep)
  (first
   | (
    go_at_call 204;refine(Eo L e T.drew kh.out).mono ?_;rintro z Z ⟨rfl,km⟩;have M:=yw km;have H0:=yw ((show Qx T.drew q m t x.cur x.min ld ov from H9.out).behind km);clear km c0 c1 c2 c3 c4 c5 N j;obtain⟨c0,c1,c2,c3,c4,c5⟩:=H0.out.c6;have N:=H0.out.lt;have j:=H0.out.OH)
   | (
    go_at_call 203;refine(Cm e.v e.id Z _ t (x.l.map En.key) (kt.out.kept (w':=Z) (xz.NZ (w:=T.drew) M.out)) ?_ ?_).mono ?_
    .exact yh.2 ⟨e,P.out,rfl⟩
    .have:=kr.out;simp;omega
    rintro z w5 ⟨rfl,K5,H4⟩;obtain⟨m1,K4,hx,K8⟩:=Qf K5 H4 (H0.out.of (H4.block q H0.out.lt (fun hk=>A.out.qx.OL hk.2))) (((show Ex T.drew L e from kh.out).behind M.out).of (H4.block L ((show Ex T.drew L e from kh.out).behind M.out).lt (fun hk=>Hg.out.OL hk.2)));clear K5 H4 c0 c1 c2 c3 c4 c5 N j;obtain⟨c0,c1,c2,c3,c4,c5⟩:=hx.out.c6;have N:=hx.out.lt;have j:=hx.out.OH))
 go_wp2_with fail;obtain⟨w6,S⟩:=yB w5.drew
 have h7:Hid (Qx w6 q m t x.cur x.min ld ov):=yw (by rw[S];exact hx.out);have H8:Hid (Ex w6 L e):=yw (by rw[S];exact K8.out);have kx:Hid (Rb w6 (fun k=>F k/\Tb E k) t ((x.l.map En.key).erase e.key)):=yw (by rw[S];exact m1.out.kept (fun k _ _=>rfl));have kn:Hid (OA (fun k=>F k/\Tb E k) Z w6):=yw (by rw[S];exact K4.out.drew);have mc:Hid (w6.heap.size=w5.heap.size):=yw (by rw[S];rfl);clear c0 c1 c2 c3 c4 c5 N j m1 K4 hx K8;obtain⟨c0,c1,c2,c3,c4,c5⟩:=h7.out.c6;have N:=h7.out.lt;have j:=h7.out.OH;obtain⟨e0,e1,e2,e3⟩:=H8.out.c4;refine xd 9 (by kernel_rfl) (by kernel_rfl) w6 S ?_;clear S
 simp only[List.take_succ_cons,List.take_zero,List.drop_succ_cons,List.drop_zero]
 repeat still_step
 refine wpStill_nil ?_;go_upto_region 8 with(fail)
 obtain⟨ln,k2⟩:=yB (IntKind.u64.wrap (ld-e.w))
 have K6:Hid (0<=ln/\ln<=18446744073709551615):=yw (by rw[k2];exact Jg _);rw[<-k2];obtain⟨w7,hc⟩:=yB (w6.setCell ⟨q,4,zp⟩ (zd zk ln))
 have hh:Hid (Ex w6 R En.zero):=yw (by have H6:T.drew.heap.size=T.heap.size:=rfl;have kv:=Q.out.size;have h3:=K.out.of (Q.out.block R K.out.lt (K.out.PN A.out.mp));have h4:Ex Z R En.zero:=(show Ex T.drew R En.zero from h3).behind M.out;exact h4.of (kn.out.block R h4.lt (fun hk=>K.out.OL hk.2)))
 have h9:Hid (Qx w7 q m t x.cur x.min ln ov):=yw (by rw[hc];exact h7.out.OP _);have m0:Hid (Ex w7 L e):=yw (by rw[hc];exact H8.out.PR (H8.out.AT h7.out));have ht:Hid (Ex w7 R En.zero):=yw (by rw[hc];exact hh.out.PR (hh.out.AT h7.out));have H1:Hid (Rb w7 (fun k=>F k/\Tb E k) t ((x.l.map En.key).erase e.key)):=yw (by rw[hc];exact kx.out.kept fun k hk hf=>zR _ _ _ _ (by show k≠q;rintro rfl;exact A.out.qx.OL hf.2))
 have K9:Hid (OA (fun k=>(F k/\Tb E k)∨k=q) Z w7):=yw (by rw[hc];exact(kn.out.mono fun k hk=>.inl hk).setCell (.inl (.inr rfl)) _);rw[<-hc];clear hc k2 c0 c1 c2 c3 c4 c5 N j e0 e1 e2 e3 h7 H8 kx kn hh;obtain⟨c0,c1,c2,c3,c4,c5⟩:=h9.out.c6;have N:=h9.out.lt;have j:=h9.out.OH;obtain⟨e0,e1,e2,e3⟩:=m0.out.c4;obtain⟨r0,r1,r2,r3⟩:=ht.out.c4;have K2:=ht.out.lt;have mg:=ht.out.OH;have n1:¬L=q:=m0.out.AT h9.out;have n2:¬R=q:=ht.out.AT h9.out;have n3:¬q=L:=fun e=>n1 e.symm;have n4:¬q=R:=fun e=>n2 e.symm;have n5:¬L=R:=by have:=m9.out;have:=hu.out;omega
 have n6:¬R=L:=fun e=>n5 e.symm;by_cases n:x.cur=i
 .have m8:(x.cur == i)=zq:=beq_iff_eq.2 n;have hj:=yw n;clear n;go_wp2;obtain⟨d,G⟩:=yB (w7.setCell ⟨q,2,zp⟩ (zd zj (-1)))
  have kk:y.cur= -1:=by rw[HY.out,uY];simp[hj.out]
  have ki:Qx d q m t y.cur x.min ln ov:=by rw[G,kk];exact h9.out.PZ (-1)
  have k4:Ex d R En.zero:=by rw[G];exact ht.out.PR n2
  have hp:Rb d (fun k=>F k/\Tb E k) t ((x.l.map En.key).erase e.key):=by rw[G];exact H1.out.kept fun k hk hf=>zR _ _ _ _ (by show k≠q;rintro rfl;exact A.out.qx.OL hf.2)
  have hz:OA (fun k=>(F k/\Tb E k)∨k=q) Z d:=by rw[G];exact K9.out.setCell (.inl (.inr rfl)) _
  have ko:d.heap.size=w7.heap.size:=by rw[G];simp[World.setCell]
  rw[<-G];clear G;have kb:=A.out.ok.OJ i;have W:∀k,(F k/\Tb E k)->k≠q:=fun k hk e=>A.out.qx.OL (e▸hk.2);have he:¬Tb E R:=K.out.OL;have C:=((((ki.PR n4 (o:=0) (u:=zd zj e.id)).PR n4 (o:=1) (u:=zd zk e.w)).PR n4 (o:=2) (u:=zd zj e.v)).PR n4 (o:=3) (u:=zd zk e.rem))
  have V:=k4.iK e;have I:OA (fun k=>((F k/\Tb E k)∨k=q)∨k=R) Z _:=uZ (b:=R) (u0:=zd zj e.id) (u1:=zd zk e.w) (u2:=zd zj e.v) (u3:=zd zk e.rem) (hz.mono fun k hk=>.inl hk) (.inl (.inr rfl));have H:Rb ((((d.setCell ⟨R,0,zp⟩ (zd zj e.id)).setCell ⟨R,1,zp⟩ (zd zk e.w)).setCell ⟨R,2,zp⟩ (zd zj e.v)).setCell ⟨R,3,zp⟩ (zd zk e.rem)) (fun k=>F k/\Tb E k) t ((x.l.map En.key).erase e.key):=
   hp.kept (xz.PS (uZ (F:=fun k=>k=R) (OA.refl _ d) (.inl rfl)) fun k hk e=>he (e▸hk.2))
  obtain⟨J,X⟩:=yB (((((d.setCell ⟨R,0,zp⟩ (zd zj e.id)).setCell ⟨R,1,zp⟩ (zd zk e.w)).setCell ⟨R,2,zp⟩ (zd zj e.v)).setCell ⟨R,3,zp⟩ (zd zk e.rem)))
  have ks:J.heap.size=w7.heap.size:=by rw[X,<-ko];simp[World.setCell]
  rw[<-X]at C V I H ⊢;clear X;refine leaves_cons (f:=201) (args:=#[ze (zo ⟨q,0,zp⟩)]) (by simp) (by simp[go_sem]) ?_;refine(Ep .returning _ _ q m t y.cur x.min _ ov _ C H ?_ A.out.ok.min).mono ?_
  .intro k hk;obtain⟨a,r,rfl⟩:=yh.1 (List.mem_of_mem_erase hk);exact(A.out.ok.RA a r).v
  rintro z u' h8 ⟨rfl,rfl,hn,B⟩;have hm:Ex h8 R e:=V.of (B.block R V.lt n2);obtain⟨g0,g1,g2,g3⟩:=hm.c4;have H6:T.drew.heap.size=T.heap.size:=rfl;have kv:=Q.out.size;have m7:=M.out.size;have mb:=hz.size;have hT:OA F w h8:=by
   have k6:OA F E Z:=(Q.out.mono fun k hk=>hk▸A.out.om).trans (have h:=OA.NZ (F:=F) M.out;⟨h.os,h.tape,h.output,h.size,h.block⟩:OA F T Z) fun k hk=>.inl hk;have h2:OA F w Z:=(OA.NZ K3.out).trans k6 fun k hk=>.inl hk;have h4:OA F w J:=h2.trans I fun k hk=>by
    rcases hk with(hk|rfl)|rfl
    .exact .inl hk.1
    .exact .inl A.out.oq
    .exact .inr (by rw[hu.out];exact yA _)
   exact h4.trans B fun k hk=>.inl (hk▸A.out.oq)
  refine⟨zi #[zg (vG e),zd zj 0],by simp[results,results185,go_sem,g0,g1,g2,g3],rfl,?_,hT⟩;have hy:=HY.out;have s:y.l=OJ i x.l:=by rw[hy,uz]
  have U:(OJ i x.l).map En.key=(x.l.map En.key).erase e.key:=by rw[<-H7.out];exact uC A.out.ok.ids P.out
  have kf:y.min=Uj x.min ((x.l.map En.key).erase e.key):=by rw[hy,Wh,<-U]
  have kq:(OJ i x.l).length+1=x.l.length:=by rw[<-H7.out];exact Xz A.out.ok.ids P.out
  have ho:∀k,k<E.heap.size->k≠m->k≠q->k≠R->¬Tb E k->h8.heap[k]?=E.heap[k]?:=by
   intro k hk h1 h2 kd h3;have a1:T.heap[k]?=E.heap[k]?:=Q.out.block k hk h1;have a2:Z.heap[k]?=T.heap[k]?:=M.out.block k (by rw[H6];omega);have a3:J.heap[k]?=Z.heap[k]?:=I.block k (by omega) (fun e=>by
    rcases e with(e|e)|e
    .exact h3 e.2
    .exact h2 e
    .exact kd e)
   have a5:=B.block k (by omega) h2;rw[a5,a3,a2,a1]
  refine⟨m,t,qC g i zp,ln,ov,⟨?_,?_,?_,?_,?_,K6.out,A.out.om,A.out.oq,by rw[hy];exact kb.raise⟩⟩
  .rw[kf];exact hn
  .rw[s];have e1:(OJ i x.l).length=x.l.length-1:=by omega
   rw[e1];refine Hy.out.of ?_;have k7:m<T.heap.size:=Hy.out.lt;have kj:¬Tb E m:=A.out.mp.OL;have hw:m≠q:=fun e=>A.out.qx.PN A.out.mp e.symm;have kc:m≠R:=fun e=>K.out.PN A.out.mp e.symm;have a2:Z.heap[m]?=T.heap[m]?:=M.out.block m k7;have a3:J.heap[m]?=Z.heap[m]?:=I.block m (by omega) (fun e=>by
    rcases e with(e|e)|e
    .exact kj e.2
    .exact hw e
    .exact kc e)
   have a5:=B.block m (by omega) hw;rw[a5,a3,a2]
  .rw[s,U];exact(H.kept (xz.PS B fun k hk e=>W k hk e)).mono fun k hk hf=>hf.1
  .intro a r;rw[s]at r;obtain⟨r,k1⟩:=xB.1 r;obtain⟨c,O,p,Y⟩:=A.out.en a r;have k3:c≠R:=by
    have:=(HQ.out.en a r)
    obtain⟨c',kp,m6,ka⟩:=this;have ma:c'=c:=by rw[kp]at O;exact zx O
    have:=ka.lt;have:=hu.out;omega
   exact⟨c,by rw[qG _ _ k1];exact O,p,Y.of (ho c Y.lt (Y.PN A.out.mp) (Y.AT A.out.qx) k3 Y.OL)⟩
  .intro k c hk;rw[s];by_cases h6:k=i
   .subst h6;rw[uV]at hk;cases hk
   .rw[qG _ _ h6]at hk;obtain⟨a,r,hi⟩:=A.out.ge k c hk;exact⟨a,xB.2 ⟨r,by rw[hi];exact h6⟩,hi⟩
 .have m8:(x.cur == i)=zt:=beq_eq_false_iff_ne.2 n;have hj:=yw n;clear n;go_wp2;obtain⟨d,G⟩:=yB w7
  have kk:y.cur=x.cur:=by rw[HY.out,uY];simp[hj.out]
  have ki:Qx d q m t y.cur x.min ln ov:=by rw[G,kk];exact h9.out
  have k4:Ex d R En.zero:=by rw[G];exact ht.out
  have hp:Rb d (fun k=>F k/\Tb E k) t ((x.l.map En.key).erase e.key):=by rw[G];exact H1.out
  have hz:OA (fun k=>(F k/\Tb E k)∨k=q) Z d:=by rw[G];exact K9.out
  have ko:d.heap.size=w7.heap.size:=by rw[G]
  rw[<-G];clear G;have kb:=A.out.ok.OJ i;have W:∀k,(F k/\Tb E k)->k≠q:=fun k hk e=>A.out.qx.OL (e▸hk.2);have he:¬Tb E R:=K.out.OL;have C:=((((ki.PR n4 (o:=0) (u:=zd zj e.id)).PR n4 (o:=1) (u:=zd zk e.w)).PR n4 (o:=2) (u:=zd zj e.v)).PR n4 (o:=3) (u:=zd zk e.rem))
  have V:=k4.iK e;have I:OA (fun k=>((F k/\Tb E k)∨k=q)∨k=R) Z _:=uZ (b:=R) (u0:=zd zj e.id) (u1:=zd zk e.w) (u2:=zd zj e.v) (u3:=zd zk e.rem) (hz.mono fun k hk=>.inl hk) (.inl (.inr rfl));have H:Rb ((((d.setCell ⟨R,0,zp⟩ (zd zj e.id)).setCell ⟨R,1,zp⟩ (zd zk e.w)).setCell ⟨R,2,zp⟩ (zd zj e.v)).setCell ⟨R,3,zp⟩ (zd zk e.rem)) (fun k=>F k/\Tb E k) t ((x.l.map En.key).erase e.key):=
   hp.kept (xz.PS (uZ (F:=fun k=>k=R) (OA.refl _ d) (.inl rfl)) fun k hk e=>he (e▸hk.2))
  obtain⟨J,X⟩:=yB (((((d.setCell ⟨R,0,zp⟩ (zd zj e.id)).setCell ⟨R,1,zp⟩ (zd zk e.w)).setCell ⟨R,2,zp⟩ (zd zj e.v)).setCell ⟨R,3,zp⟩ (zd zk e.rem)))
  have ks:J.heap.size=w7.heap.size:=by rw[X,<-ko];simp[World.setCell]
  rw[<-X]at C V I H ⊢;clear X;refine leaves_cons (f:=201) (args:=#[ze (zo ⟨q,0,zp⟩)]) (by simp) (by simp[go_sem]) ?_;refine(Ep .returning _ _ q m t y.cur x.min _ ov _ C H ?_ A.out.ok.min).mono ?_
  .intro k hk;obtain⟨a,r,rfl⟩:=yh.1 (List.mem_of_mem_erase hk);exact(A.out.ok.RA a r).v
  rintro z u' h8 ⟨rfl,rfl,hn,B⟩;have hm:Ex h8 R e:=V.of (B.block R V.lt n2);obtain⟨g0,g1,g2,g3⟩:=hm.c4;have H6:T.drew.heap.size=T.heap.size:=rfl;have kv:=Q.out.size;have m7:=M.out.size;have mb:=hz.size;have hT:OA F w h8:=by
   have k6:OA F E Z:=(Q.out.mono fun k hk=>hk▸A.out.om).trans (have h:=OA.NZ (F:=F) M.out;⟨h.os,h.tape,h.output,h.size,h.block⟩:OA F T Z) fun k hk=>.inl hk;have h2:OA F w Z:=(OA.NZ K3.out).trans k6 fun k hk=>.inl hk;have h4:OA F w J:=h2.trans I fun k hk=>by
    rcases hk with(hk|rfl)|rfl
    .exact .inl hk.1
    .exact .inl A.out.oq
    .exact .inr (by rw[hu.out];exact yA _)
   exact h4.trans B fun k hk=>.inl (hk▸A.out.oq)
  refine⟨zi #[zg (vG e),zd zj 0],by simp[results,results185,go_sem,g0,g1,g2,g3],rfl,?_,hT⟩;have hy:=HY.out;have s:y.l=OJ i x.l:=by rw[hy,uz]
  have U:(OJ i x.l).map En.key=(x.l.map En.key).erase e.key:=by rw[<-H7.out];exact uC A.out.ok.ids P.out
  have kf:y.min=Uj x.min ((x.l.map En.key).erase e.key):=by rw[hy,Wh,<-U]
  have kq:(OJ i x.l).length+1=x.l.length:=by rw[<-H7.out];exact Xz A.out.ok.ids P.out
  have ho:∀k,k<E.heap.size->k≠m->k≠q->k≠R->¬Tb E k->h8.heap[k]?=E.heap[k]?:=by
   intro k hk h1 h2 kd h3;have a1:T.heap[k]?=E.heap[k]?:=Q.out.block k hk h1;have a2:Z.heap[k]?=T.heap[k]?:=M.out.block k (by rw[H6];omega);have a3:J.heap[k]?=Z.heap[k]?:=I.block k (by omega) (fun e=>by
    rcases e with(e|e)|e
    .exact h3 e.2
    .exact h2 e
    .exact kd e)
   have a5:=B.block k (by omega) h2;rw[a5,a3,a2,a1]
  refine⟨m,t,qC g i zp,ln,ov,⟨?_,?_,?_,?_,?_,K6.out,A.out.om,A.out.oq,by rw[hy];exact kb.raise⟩⟩
  .rw[kf];exact hn
  .rw[s];have e1:(OJ i x.l).length=x.l.length-1:=by omega
   rw[e1];refine Hy.out.of ?_;have k7:m<T.heap.size:=Hy.out.lt;have kj:¬Tb E m:=A.out.mp.OL;have hw:m≠q:=fun e=>A.out.qx.PN A.out.mp e.symm;have kc:m≠R:=fun e=>K.out.PN A.out.mp e.symm;have a2:Z.heap[m]?=T.heap[m]?:=M.out.block m k7;have a3:J.heap[m]?=Z.heap[m]?:=I.block m (by omega) (fun e=>by
    rcases e with(e|e)|e
    .exact kj e.2
    .exact hw e
    .exact kc e)
   have a5:=B.block m (by omega) hw;rw[a5,a3,a2]
  .rw[s,U];exact(H.kept (xz.PS B fun k hk e=>W k hk e)).mono fun k hk hf=>hf.1
  .intro a r;rw[s]at r;obtain⟨r,k1⟩:=xB.1 r;obtain⟨c,O,p,Y⟩:=A.out.en a r;have k3:c≠R:=by
    have:=(HQ.out.en a r)
    obtain⟨c',kp,m6,ka⟩:=this;have ma:c'=c:=by rw[kp]at O;exact zx O
    have:=ka.lt;have:=hu.out;omega
   exact⟨c,by rw[qG _ _ k1];exact O,p,Y.of (ho c Y.lt (Y.PN A.out.mp) (Y.AT A.out.qx) k3 Y.OL)⟩
  .intro k c hk;rw[s];by_cases h6:k=i
   .subst h6;rw[uV]at hk;cases hk
   .rw[qG _ _ h6]at hk;obtain⟨a,r,hi⟩:=A.out.ge k c hk;exact⟨a,xB.2 ⟨r,by rw[hi];exact h6⟩,hi⟩
theorem Xi(w:zu)(F:Nat->Prop)(q:Nat)(x:Qu)(h:xZ w F q x):zw prog 112 #[ze (zo ⟨q,0,zp⟩)] w fun z w'=>z=zm (zd zj x.cur)/\w'=w:=by obtain⟨m,t,g,ld,ov,A⟩:=h;obtain⟨c0,c1,c2,c3,c4,c5⟩:=A.qx.c6;clear A;go_enter func112,ntmps112;go_wp2;go_ret;exact⟨rfl,rfl⟩
theorem Wi(w:zu)(F:Nat->Prop)(q:Nat)(x:Qu)(h:xZ w F q x):zw prog 131 #[ze (zo ⟨q,0,zp⟩)] w fun z w'=>z=zm (zd zj x.min)/\w'=w:=by obtain⟨m,t,g,ld,ov,A⟩:=h;obtain⟨c0,c1,c2,c3,c4,c5⟩:=A.qx.c6;clear A;go_enter func131,ntmps131;go_wp2;go_ret;exact⟨rfl,rfl⟩
theorem CA(g:Int):0<=Re g/\Re g<=1099511627776:=by unfold Re;split;omega;split<;>omega
theorem Vp(J bb:Nat)(a b:En)(g:Int)(w:zu)(N:Ex w J a)(hb:Ex w bb b)(O: -9223372036854775808<=b.v/\b.v<=9223372036854775807):
 zw prog 194 #[ze (zo ⟨J,0,zp⟩),ze (zo ⟨bb,0,zp⟩),zd zj g] w fun z w'=>z=zm (zh (TB a b g))/\Below w.heap.size w w':=by
 obtain⟨r,E⟩:=yB (TB a b g)
 rw[<-E];obtain⟨a0,a1,a2,a3⟩:=N.c4;obtain⟨b0,b1,b2,b3⟩:=hb.c4;obtain⟨H,G⟩:=yB (Re g)
 have R:=yw (show H=Ub g 0 1099511627776 from G);have A:=CA g;rw[<-G]at A;have T:=yw O;have B:=yw A;obtain⟨S,M⟩:=yB (Xg b.v H)
 have HS:=yw M;have D:TB a b g=decide (a.v<=S):=by unfold TB;rw[M,G]
 rw[D]at E;have I:=yw E;clear N hb E G M D O A;go_enter func194,ntmps194;go_wp2_with fail;go_region_held3 (fun w'=>w'.cell? ⟨J,2,zp⟩=zo (zd zj a.v)/\w'.cell? ⟨bb,2,zp⟩=zo (zd zj b.v)) (go_keep)
  (first
   | (go_at_call 189;refine(Vm g 0 1099511627776 _).mono ?_;rintro z U ⟨rfl,rfl⟩;rw[<-R.out])
   | (go_at_call 153;refine(No b.v H _ T.out ⟨by have:=B.out;omega,by have:=B.out;omega⟩).mono ?_;rintro z U ⟨rfl,rfl⟩;rw[<-HS.out]))
 go_wp2;go_ret;rw[I.out];exact⟨rfl,by go_grown⟩
theorem QG(h:x.Ok):(x.first=match x.l with
 | []=>zp
 | a::r=>if a.id=x.cur then r.head? else zo a):=by
 unfold Qu.first;cases hl:x.l with
 | nil=>rfl
 | cons a r=>
  simp only;by_cases B:a.id=x.cur
  .rw[if_pos B,List.find?_cons_of_neg (by simp[Xh,B])];cases r with
   | nil=>rfl
   | cons b r=>
    have A:=h.ids;rw[hl]at A;simp only[List.map_cons,List.nodup_cons,List.mem_cons,not_or]at A;rw[List.find?_cons_of_pos (by have:=A.1.1;simp[Xh];rw[<-B];exact fun e=>this e.symm)];rfl
  .rw[if_neg B,List.find?_cons_of_pos (by simp[Xh,B])]
theorem WQ(h:x.Ok){r:List En}(B:x.l=a::r):(x.l.map En.key).find? (fun k=>decide (SH a.key k))=(r.map En.key).head? :=by
 rw[B,List.map_cons,List.find?_cons_of_neg (by simp[qH])];cases r with
 | nil=>rfl
 | cons b r=>
  have A:=h.ord;rw[B]at A;simp only[List.map_cons,List.pairwise_cons]at A;have:=A.1 b.key (by simp);rw[List.map_cons,List.find?_cons_of_pos (by simpa using this)];rfl
def Jh(g:Int->Option Nat)(o:Option En):Option Addr:=match o with
 | none=>zp
 | some a=>(g a.id).map fun b=>⟨b,0,zp⟩
theorem xk{q:Nat}{g:Int->Option Nat}{B:Int}(h:QS w F q m t g B ov x)(D:a∈x.l):∃b,Jh g (zo a)=zo ⟨b,0,zp⟩/\g a.id=zo b/\F b/\Ex w b a:=by obtain⟨b,A,E,G⟩:=h.en a D;exact⟨b,by simp[Jh,A],A,E,G⟩
theorem xS(w:zu)(F:Nat->Prop)(q m t:Nat)(g:Int->Option Nat)(ld:Int)(ov:Bool)(x:Qu)(hq:QS w F q m t g ld ov x):
 zw prog 193 #[ze (zo ⟨q,0,zp⟩)] w fun z w'=>z=zm (ze (Jh g x.first))/\Below w.heap.size w w':=by
 obtain⟨f,hf⟩:=yB x.first
 rw[<-hf];obtain⟨HF,V,HQ,h4⟩:=Qf hf (Pz w F t (x.l.map En.key) hq.rb) hq (QG hq.ok);obtain⟨I,E,D,G,H,J⟩:=hq.qx.c6;clear hf hq;cases hl:x.l with
 | nil=>
  rw[hl]at V h4;have j:f=zp:=by rw[HF.out,h4.out]
  subst j;clear hl;go_enter func193,ntmps193;go_wp2_with fail;refine V.out.mono ?_;rintro z T ⟨rfl,hb⟩;have C:=yw hb;have R:=yw (HQ.out.kept (.NZ hb));clear hb I E D G H J;obtain⟨I,E,D,G,H,J⟩:=R.out.qx.c6;go_wp2_with fail;go_quiet (fail);go_wp2;go_ret;exact⟨rfl,yH (C.out.alloc C.out.size _) _⟩
 | cons a r=>
  have HL:=yw hl;have Y:=h4.out;rw[hl]at V Y;simp only at Y;have hi:RH a.id:=by have:=(HQ.out.ok.RA a (by rw[hl];simp)).id;unfold RH;omega
  have H0:=yw hi;clear hl hi;by_cases hc:a.id=x.cur
  .rw[if_pos hc]at Y;have h0:Hid (f=r.head?):=yw (by rw[HF.out,Y]);have hj:=yw (WQ HQ.out.ok HL.out);have hz:(a.key.2 == x.cur)=zq:=beq_iff_eq.2 hc;clear hc Y;go_enter func193,ntmps193;go_wp2_with fail;refine V.out.mono ?_;rintro z T ⟨rfl,hb⟩;have C:=yw hb;have R:=yw (HQ.out.kept (.NZ hb));clear hb I E D G H J;obtain⟨I,E,D,G,H,J⟩:=R.out.qx.c6;go_upto_region 2 with(fail)
   obtain⟨s,N⟩:=yB (T.alloc (xI a.key.1 a.key.2))
   have d:Below T.heap.size T s:=by rw[N];exact yE T _
   have h:Kx s T.heap.size a.key.1 a.key.2:=by rw[N];exact Kx.new T _ _
   obtain⟨K,hK⟩:=yB T.heap.size
   rw[<-hK]at h ⊢;rw[show T.alloc (zn #[zd zj a.key.1,zd zj a.key.2] 289)=s from N.symm];have HK:=yw (show w.heap.size<=K by rw[hK];exact C.out.size);obtain⟨Z,W,X⟩:=Qe h (yC C.out d C.out.size) (R.out.kept (.NZ d));clear N d h hK I E D G H J C R;obtain⟨I,E,D,G,H,J⟩:=X.out.qx.c6;obtain⟨y,v⟩:=Z.out.c2;have B:=Z.out.OH;go_quiet (fail);cases r with
   | nil=>
    have j:f=zp:=h0.out;subst j;have P:(x.l.map En.key).find? (fun k=>decide (SH a.key k))=zp:=hj.out;have S:=yw P;clear P;go_upto_region 3 with(fail)
    obtain⟨U,A⟩:=yB (s.drewN nq)
    have p:Hid (QS U F q m t g ld ov x):=yw (by rw[A];exact X.out.kept fun k _ _=>rfl);have Q:Hid (Below w.heap.size w U):=yw (by rw[A];exact yH W.out nq);have o:Hid (Kx U K a.key.1 a.key.2):=yw (by rw[A];exact Z.out);rw[<-A];clear A I E D G H J y v B;obtain⟨I,E,D,G,H,J⟩:=p.out.qx.c6;obtain⟨y,v⟩:=o.out.c2;have B:=o.out.OH;go_region_with
     ((
      go_at_call 230;refine(Lf a.key.1 a.key.2 U.drew F t (x.l.map En.key) (p.out.rb.kept (fun k _ _=>rfl))).mono ?_;rintro z w5 ⟨rfl,O⟩;have h7:Hid (Below w.heap.size w w5):=yw (yC (yI Q.out) O Q.out.size);have h3:=yw ((p.out.kept (w':=U.drew) fun k _ _=>rfl).kept (.NZ O));have u:=yw ((show Kx U.drew K a.key.1 a.key.2 from o.out).behind O);clear O I E D G H J y v B;obtain⟨I,E,D,G,H,J⟩:=h3.out.qx.c6;obtain⟨y,v⟩:=u.out.c2;have B:=u.out.OH;rw[show(a.key.1,a.key.2)=a.key from rfl,S.out]))
    all_goals
     go_wp2;go_ret;exact⟨rfl,(qd h7.out HK.out)⟩
   | cons b r=>
    have j:f=zo b:=h0.out;subst j;have P:(x.l.map En.key).find? (fun k=>decide (SH a.key k))=zo b.key:=hj.out;have S:=yw P;have h6:b∈x.l:=by rw[HL.out];simp
    have ha:RH b.id:=by have:=(X.out.ok.RA b h6).id;unfold RH;omega
    have hv:=yw ha;obtain⟨pb,h9,hm,hu,hr⟩:=xk X.out h6;have hx:=yw h9;have hp:=yw hm;clear P h6 ha h9 hm hu hr;go_upto_region 3 with(fail)
    obtain⟨U,A⟩:=yB (s.drewN nq)
    have p:Hid (QS U F q m t g ld ov x):=yw (by rw[A];exact X.out.kept fun k _ _=>rfl);have Q:Hid (Below w.heap.size w U):=yw (by rw[A];exact yH W.out nq);have o:Hid (Kx U K a.key.1 a.key.2):=yw (by rw[A];exact Z.out);rw[<-A];clear A I E D G H J y v B;obtain⟨I,E,D,G,H,J⟩:=p.out.qx.c6;obtain⟨y,v⟩:=o.out.c2;have B:=o.out.OH;go_region_with
     ((
      go_at_call 230;refine(Lf a.key.1 a.key.2 U.drew F t (x.l.map En.key) (p.out.rb.kept (fun k _ _=>rfl))).mono ?_;rintro z w5 ⟨rfl,O⟩;have h7:Hid (Below w.heap.size w w5):=yw (yC (yI Q.out) O Q.out.size);have h3:=yw ((p.out.kept (w':=U.drew) fun k _ _=>rfl).kept (.NZ O));have u:=yw ((show Kx U.drew K a.key.1 a.key.2 from o.out).behind O);clear O I E D G H J y v B;obtain⟨I,E,D,G,H,J⟩:=h3.out.qx.c6;obtain⟨y,v⟩:=u.out.c2;have B:=u.out.OH;rw[show(a.key.1,a.key.2)=a.key from rfl,S.out]))
    all_goals
     go_upto_region 6 with(fail)
     obtain⟨c,M⟩:=yB ((w5.setCell ⟨K,0,zp⟩ (zd zj b.key.1)).setCell ⟨K,1,zp⟩ (zd zj b.key.2))
     have hg:Kx c K b.key.1 b.key.2:=by rw[M];have h1:(w5.setCell ⟨K,0,zp⟩ (zd zj b.key.1)).heap[K]?=_:=yD u.out;exact yD h1
     have h5:Below w.heap.size w c:=by rw[M];exact qd h7.out HK.out
     obtain⟨L,h2,h8⟩:=Qe (HQ.out.kept (.NZ h5)) h5 hg;rw[<-M];clear M hg h5 I E D G H J y v B;obtain⟨I,E,D,G,H,J⟩:=L.out.qx.c6;obtain⟨y,v⟩:=h8.out.c2;have ho:∀n,(Instr.lookup 213 (.map (zo m)) (zd zj b.key.2) zt).run prog (c.drewN n)=.ok (ze (zo ⟨pb,0,zp⟩)) (c.drewN n):=fun n=>by have:=(L.out.mp.of (w':=c.drewN n) rfl).look hv.out;rw[hp.out]at this;exact this
     go_quiet (fail);go_wp2;go_ret;exact⟨by rw[hx.out];rfl,yH h2.out _⟩
  .rw[if_neg hc]at Y;have j:f=zo a:=by rw[HF.out,Y]
   subst j;have hz:(a.key.2 == x.cur)=zt:=beq_eq_false_iff_ne.2 hc;have he:a∈x.l:=by rw[HL.out];simp
   obtain⟨pa,hn,hh,hw,hy⟩:=xk HQ.out he;have H1:=yw hn;have ht:=yw hh;clear hc Y he hn hh hw hy;go_enter func193,ntmps193;go_wp2_with fail;refine V.out.mono ?_;rintro z T ⟨rfl,hb⟩;have C:=yw hb;have R:=yw (HQ.out.kept (.NZ hb));clear hb I E D G H J;obtain⟨I,E,D,G,H,J⟩:=R.out.qx.c6;go_upto_region 2 with(fail)
   obtain⟨s,N⟩:=yB (T.alloc (xI a.key.1 a.key.2))
   have d:Below T.heap.size T s:=by rw[N];exact yE T _
   have h:Kx s T.heap.size a.key.1 a.key.2:=by rw[N];exact Kx.new T _ _
   obtain⟨K,hK⟩:=yB T.heap.size
   rw[<-hK]at h ⊢;rw[show T.alloc (zn #[zd zj a.key.1,zd zj a.key.2] 289)=s from N.symm];have HK:=yw (show w.heap.size<=K by rw[hK];exact C.out.size);obtain⟨Z,W,X⟩:=Qe h (yC C.out d C.out.size) (R.out.kept (.NZ d));clear N d h hK I E D G H J C R;obtain⟨I,E,D,G,H,J⟩:=X.out.qx.c6;obtain⟨y,v⟩:=Z.out.c2;have B:=Z.out.OH;go_quiet (fail);go_upto_region 6 with(fail)
   obtain⟨c,M⟩:=yB (s.drewN nq)
   have L:Hid (QS c F q m t g ld ov x):=yw (by rw[M];exact X.out.kept fun k _ _=>rfl);have h2:Hid (Below w.heap.size w c):=yw (by rw[M];exact yH W.out nq);have h8:Hid (Kx c K a.key.1 a.key.2):=yw (by rw[M];exact Z.out);rw[<-M];clear M I E D G H J y v B;obtain⟨I,E,D,G,H,J⟩:=L.out.qx.c6;obtain⟨y,v⟩:=h8.out.c2;have ho:∀n,(Instr.lookup 213 (.map (zo m)) (zd zj a.key.2) zt).run prog (c.drewN n)=.ok (ze (zo ⟨pa,0,zp⟩)) (c.drewN n):=fun n=>by have:=(L.out.mp.of (w':=c.drewN n) rfl).look H0.out;rw[ht.out]at this;exact this
   go_quiet (fail);go_wp2;go_ret;exact⟨by rw[H1.out];rfl,yH h2.out _⟩
theorem Qk(h:x.first=zo o):o∈x.l:=List.mem_of_find?_eq_some h
theorem Qu.Ok.setCur(h:x.Ok)(A:o∈x.l):({ x with cur:=o.id }:Qu).Ok:=⟨h.RA,h.ids,h.ord,.inr ⟨o,A,rfl⟩,h.min,h.len⟩
theorem QS.setCur{q:Nat}{g:Int->Option Nat}{A:Int}(h:QS w F q m t g A ov x)(D:o∈x.l):QS (w.setCell ⟨q,2,zp⟩ (zd zj o.id)) F q m t g A ov { x with cur:=o.id }:=by have hs:∀k,k≠q->(w.setCell ⟨q,2,zp⟩ (zd zj o.id)).heap[k]?=w.heap[k]?:=fun k hk=>zR _ _ _ _ (by exact hk);refine⟨h.qx.PZ o.id,h.mp.of (hs m (fun e=>h.qx.PN h.mp e.symm)),(h.rb.small.kept fun k _ hk=>hs k (fun e=>h.qx.OL (e▸hk.2))).mono fun k _ hk=>hk.1,?_,h.ge,h.ld,h.om,h.oq,h.ok.setCur D⟩;intro e E;obtain⟨b,H,G,B⟩:=h.en e E;exact⟨b,H,G,B.of (hs b (B.AT h.qx))⟩
theorem Qu.Ok.curI(h:x.Ok):RH x.cur:=by
 unfold RH;rcases h.cur with A|⟨e,B,A⟩
 .omega
 .have:=(h.RA e B).id;omega
theorem QS.PU{q:Nat}{g:Int->Option Nat}{A:Int}(h:QS w F q m t g A ov x):∀n,(Instr.lookup 213 (.map (zo m)) (zd zj x.cur) zt).run prog (w.drewN n)=.ok (ze (Jh g (x.get x.cur))) (w.drewN n):=by
 intro n;have:=(h.mp.of (w':=w.drewN n) rfl).look h.ok.curI;rw[this];cases hg:x.get x.cur with
 | none=>rw[h.get_none hg];rfl
 | some e=>obtain⟨h1,B⟩:=xu hg;simp only[Jh];rw[B]
def vv(w:zu)(F:Nat->Prop)(q:Nat)(y:Qu)(z:Ending)(w':zu):Prop:=z=zm (zd zj y.cur)/\xZ w' F q y/\OA (fun k=>k=q) w w'
theorem Ji{q:Nat}{g:Int->Option Nat}{A:Int}{y:Qu}(h:QS w F q m t g A ov x)(hb:Below w.heap.size w w')(B:y=x):vv w F q y (zm (zd zj x.cur)) w':=by subst B;exact⟨rfl,⟨m,t,g,A,ov,h.kept (.NZ hb)⟩,OA.NZ hb⟩
theorem Ul{q:Nat}{g:Int->Option Nat}{A:Int}{y:Qu}(h:QS w F q m t g A ov x)(B:o∈x.l)(hb:Below w.heap.size w w')(D:y={ x with cur:=o.id }):vv w F q y (zm (zd zj o.id)) (w'.setCell ⟨q,2,zp⟩ (zd zj o.id)):=by subst D;have E:OA (fun k=>k=q) w w':=OA.NZ hb;exact⟨rfl,⟨m,t,g,A,ov,(h.kept (.NZ hb)).setCur B⟩,E.setCell (.inl rfl) _⟩
theorem Rn(H:Int)(w:zu)(F:Nat->Prop)(q m t:Nat)(g:Int->Option Nat)(U:Int)(ov:Bool)(x:Qu)(D:QS w F q m t g U ov x)(E:x.first=zp)(J:Jh g (x.get x.cur)=zp):
 zw prog 169 #[ze (zo ⟨q,0,zp⟩),zd zj H] w (vv w F q (x.pick H)):=by
 obtain⟨y,G⟩:=yB ((x.pick H))
 rw[<-G];have a:Hid (y=x):=yw (by rw[G];unfold Qu.pick;rw[E]);have B:=yw (xS w F q m t g U ov x D);rw[E]at B;have M:=yw D;obtain⟨Y,N,O,R,X,T⟩:=D.qx.c6;have I:=yw J;clear D E G J;go_enter func169,ntmps169;go_wp2_with fail;refine B.out.mono ?_;rintro z V ⟨rfl,hb⟩;have Z:=yw hb;have A:=yw (M.out.kept (.NZ hb));clear hb Y N O R X T;obtain⟨Y,N,O,R,X,T⟩:=A.out.qx.c6;have h0:∀n,(Instr.lookup 213 (.map (zo m)) (zd zj x.cur) zt).run prog (V.drewN n)=.ok (ze zp) (V.drewN n):=fun n=>by have:=A.out.PU n;rw[I.out]at this;exact this
 go_wp2_with fail;go_quiet (fail);go_wp2;go_ret;exact Ji M.out (yH Z.out nq) a.out
theorem Ro(H:Int)(w:zu)(F:Nat->Prop)(q m t:Nat)(g:Int->Option Nat)(U:Int)(ov:Bool)(x:Qu)(D:QS w F q m t g U ov x)(p:Addr)(E:x.first=zp)(J:Jh g (x.get x.cur)=(zo p)):
 zw prog 169 #[ze (zo ⟨q,0,zp⟩),zd zj H] w (vv w F q (x.pick H)):=by
 obtain⟨y,G⟩:=yB ((x.pick H))
 rw[<-G];have a:Hid (y=x):=yw (by rw[G];unfold Qu.pick;rw[E]);have B:=yw (xS w F q m t g U ov x D);rw[E]at B;have M:=yw D;obtain⟨Y,N,O,R,X,T⟩:=D.qx.c6;have I:=yw J;clear D E G J;go_enter func169,ntmps169;go_wp2_with fail;refine B.out.mono ?_;rintro z V ⟨rfl,hb⟩;have Z:=yw hb;have A:=yw (M.out.kept (.NZ hb));clear hb Y N O R X T;obtain⟨Y,N,O,R,X,T⟩:=A.out.qx.c6;have h0:∀n,(Instr.lookup 213 (.map (zo m)) (zd zj x.cur) zt).run prog (V.drewN n)=.ok (ze (zo p)) (V.drewN n):=fun n=>by have:=A.out.PU n;rw[I.out]at this;exact this
 go_wp2_with fail;go_quiet (fail);go_wp2;go_ret;exact Ji M.out (yH Z.out nq) a.out
theorem WR(R:Int)(w:zu)(F:Nat->Prop)(q m t:Nat)(g:Int->Option Nat)(f:Int)(ov:Bool)(x:Qu)(E:QS w F q m t g f ov x)(o:En)(J:x.first=zo o)(D:x.get x.cur=zp):
 zw prog 169 #[ze (zo ⟨q,0,zp⟩),zd zj R] w (vv w F q (x.pick R)):=by
 obtain⟨y,N⟩:=yB ((x.pick R))
 rw[<-N];have r:Hid (y={ x with cur:=o.id }):=yw (by rw[N];unfold Qu.pick;rw[J,D]);have G:=yw (xS w F q m t g f ov x E);rw[J]at G;have X:=yw E;obtain⟨j,Z,a,c,h,d⟩:=E.qx.c6;have B:=Qk J;have b:=yw B;obtain⟨Y,I,H,_,_⟩:=xk E B;obtain⟨O,T,V⟩:=Qe H I D;clear E J N D B I H;go_enter func169,ntmps169;go_wp2_with fail;refine G.out.mono ?_;rintro z U ⟨rfl,hb⟩;have k:=yw hb;have A:=yw (X.out.kept (.NZ hb));rw[T.out];have M:Hid (Ex U Y o):=yw (by
  obtain⟨p,hp,D,_,l⟩:=xk A.out b.out;have:p=Y:=by rw[O.out]at D;exact(zx D).symm
  exact this▸l)
 clear hb j Z a c h d;obtain⟨j,Z,a,c,h,d⟩:=A.out.qx.c6;have h0:=A.out.qx.OH;have h1:∀n,(Instr.lookup 213 (.map (zo m)) (zd zj x.cur) zt).run prog (U.drewN n)=.ok (ze zp) (U.drewN n):=fun n=>by have:=A.out.PU n;rw[V.out]at this;exact this
 go_wp2_with fail;go_quiet (fail);obtain⟨e0,e1,e2,e3⟩:=M.out.c4;go_wp2;go_ret;exact Ul X.out b.out (yH k.out nq) r.out
theorem WS(X:Int)(w:zu)(F:Nat->Prop)(q m t:Nat)(g:Int->Option Nat)(ld:Int)(ov:Bool)(x:Qu)(M:QS w F q m t g ld ov x)(o c:En)(f:x.first=zo o)(A:x.get x.cur=zo c)(W:TB c o X=zq):
 zw prog 169 #[ze (zo ⟨q,0,zp⟩),zd zj X] w (vv w F q (x.pick X)):=by
 obtain⟨y,P⟩:=yB ((x.pick X))
 rw[<-P];have HY:Hid (y=x):=yw (by rw[P];unfold Qu.pick;rw[f,A];simp only[W,if_true]);have U:=yw (xS w F q m t g ld ov x M);rw[f]at U;have u:=yw M;obtain⟨s,b,d,h,r,j⟩:=M.qx.c6;have E:=Qk f;have HO:=yw E;obtain⟨C,a,V,_,_⟩:=xk M E;have Q:=yw V;have h2:=yw a;have H:=(xu A).1;have HC:=yw H;obtain⟨l,T,Z,_,_⟩:=xk M H;obtain⟨K,h1,h3,HN⟩:=Qf Z T A W;clear M f P A W E a V H T Z;go_enter func169,ntmps169;go_wp2_with fail;refine U.out.mono ?_;rintro z w2 ⟨rfl,hb⟩;have HB:=yw hb
 have G:=yw (u.out.kept (.NZ hb));rw[h2.out];clear hb s b d h r j;obtain⟨s,b,d,h,r,j⟩:=G.out.qx.c6;have S:∀n,(Instr.lookup 213 (.map (zo m)) (zd zj x.cur) zt).run prog (w2.drewN n)=.ok (ze (zo ⟨l,0,zp⟩)) (w2.drewN n):=fun n=>by have:=G.out.PU n;rw[h3.out]at this;rw[h1.out]at this;exact this
 go_wp2_with fail;go_quiet (fail);obtain⟨J,B⟩:=yB (w2.drewN nq)
 have D:Hid (QS J F q m t g ld ov x):=yw (by rw[B];exact G.out.kept fun k _ _=>rfl);have R:Hid (Below w.heap.size w J):=yw (by rw[B];exact yH HB.out nq);have N:Hid (Ex J C o):=yw (by
  obtain⟨p,hp,A,_,L⟩:=xk D.out HO.out;have:p=C:=by rw[Q.out]at A;exact(zx A).symm
  exact this▸L)
 have h0:Hid (Ex J l c):=yw (by
  obtain⟨p,hp,A,_,L⟩:=xk D.out HC.out;have:p=l:=by rw[K.out]at A;exact(zx A).symm
  exact this▸L)
 rw[<-B];clear B S s b d h r j;go_wp2_with fail;refine(Vp l C c o X _ h0.out N.out (D.out.ok.RA o HO.out).v).mono ?_;rintro z w4 ⟨rfl,I⟩;rw[HN.out];have Y:=yw (yC R.out I R.out.size);have h4:=yw (u.out.kept (.NZ Y.out));have O:=yw (N.out.behind I);clear I;obtain⟨s,b,d,h,r,j⟩:=h4.out.qx.c6;obtain⟨e0,e1,e2,e3⟩:=O.out.c4;go_wp2;go_ret;exact Ji u.out Y.out HY.out
theorem WT(Y:Int)(w:zu)(F:Nat->Prop)(q m t:Nat)(g:Int->Option Nat)(ld:Int)(ov:Bool)(x:Qu)(M:QS w F q m t g ld ov x)(o c:En)(j:x.first=zo o)(A:x.get x.cur=zo c)(hn:TB c o Y=zt):
 zw prog 169 #[ze (zo ⟨q,0,zp⟩),zd zj Y] w (vv w F q (x.pick Y)):=by
 obtain⟨y,W⟩:=yB ((x.pick Y))
 rw[<-W];have HY:Hid (y={ x with cur:=o.id }):=yw (by rw[W];unfold Qu.pick;rw[j,A];simp only[hn];rfl);have V:=yw (xS w F q m t g ld ov x M);rw[j]at V;have K:=yw M;obtain⟨C,f,h,l,u,r⟩:=M.qx.c6;have G:=Qk j;have S:=yw G;obtain⟨L,d,X,_,_⟩:=xk M G;have h0:=yw X;have h4:=yw d;have H:=(xu A).1;have HC:=yw H;obtain⟨s,U,a,_,_⟩:=xk M H;obtain⟨P,h3,h5,HN⟩:=Qf a U A hn;clear M j W A hn G d X H U a;go_enter func169,ntmps169;go_wp2_with fail;refine V.out.mono ?_;rintro z w2 ⟨rfl,hb⟩;have HB:=yw hb
 have D:=yw (K.out.kept (.NZ hb));rw[h4.out];clear hb C f h l u r;obtain⟨C,f,h,l,u,r⟩:=D.out.qx.c6;have N:=D.out.qx.OH;have h1:∀n,(Instr.lookup 213 (.map (zo m)) (zd zj x.cur) zt).run prog (w2.drewN n)=.ok (ze (zo ⟨s,0,zp⟩)) (w2.drewN n):=fun n=>by have:=D.out.PU n;rw[h5.out]at this;rw[h3.out]at this;exact this
 go_wp2_with fail;go_quiet (fail);obtain⟨J,B⟩:=yB (w2.drewN nq)
 have E:Hid (QS J F q m t g ld ov x):=yw (by rw[B];exact D.out.kept fun k _ _=>rfl);have T:Hid (Below w.heap.size w J):=yw (by rw[B];exact yH HB.out nq);have O:Hid (Ex J L o):=yw (by
  obtain⟨p,hp,A,_,Q⟩:=xk E.out S.out;have:p=L:=by rw[h0.out]at A;exact(zx A).symm
  exact this▸Q)
 have h2:Hid (Ex J s c):=yw (by
  obtain⟨p,hp,A,_,Q⟩:=xk E.out HC.out;have:p=s:=by rw[P.out]at A;exact(zx A).symm
  exact this▸Q)
 rw[<-B];clear B h1 C f h l u r N;go_wp2_with fail;refine(Vp s L c o Y _ h2.out O.out (E.out.ok.RA o S.out).v).mono ?_;rintro z w4 ⟨rfl,I⟩;rw[HN.out];have Z:=yw (yC T.out I T.out.size);have b:=yw (K.out.kept (.NZ Z.out));have R:=yw (O.out.behind I);clear I;obtain⟨C,f,h,l,u,r⟩:=b.out.qx.c6;have N:=b.out.qx.OH;obtain⟨e0,e1,e2,e3⟩:=R.out.c4;go_wp2;go_ret;exact Ul K.out S.out Z.out HY.out
theorem Qo(A:Int)(w:zu)(F:Nat->Prop)(q:Nat)(x:Qu)(h:xZ w F q x):zw prog 169 #[ze (zo ⟨q,0,zp⟩),zd zj A] w (vv w F q (x.pick A)):=by
 obtain⟨m,t,g,B,ov,D⟩:=h;cases hf:x.first with
 | none=>
  cases hg:Jh g (x.get x.cur)with
  | none=>exact Rn A w F q m t g B ov x D hf hg
  | some p=>exact Ro A w F q m t g B ov x D p hf hg
 | some o=>
  cases hg:x.get x.cur with
  | none=>exact WR A w F q m t g B ov x D o hf hg
  | some c=>
   cases hn:TB c o A
   .exact WT A w F q m t g B ov x D o c hf hg hn
   .exact WS A w F q m t g B ov x D o c hf hg hn
theorem Np(D:Int)(w:zu)(F:Nat->Prop)(q m t:Nat)(g:Int->Option Nat)(I:Int)(ov:Bool)(x:Qu)(E:QS w F q m t g I ov x)(G:x.first=zp)(N:Jh g (x.get x.cur)=zp):
 zw prog 145 #[ze (zo ⟨q,0,zp⟩),zd zj D] w (vv w F q (x.yield D)):=by
 obtain⟨y,H⟩:=yB ((x.yield D))
 rw[<-H];have f:Hid (y=x.pick D):=yw (by rw[H];unfold Qu.yield;rw[G]);have B:=yw (xS w F q m t g I ov x E);rw[G]at B;have a:=yw E;obtain⟨R,T,V,X,U,Y⟩:=E.qx.c6;have M:=yw N;clear E G H N;go_enter func145,ntmps145;go_wp2_with fail;refine B.out.mono ?_;rintro z J ⟨rfl,hb⟩;have c:=yw hb;have A:=yw (a.out.kept (.NZ hb));clear hb R T V X U Y;obtain⟨R,T,V,X,U,Y⟩:=A.out.qx.c6;have h0:∀n,(Instr.lookup 213 (.map (zo m)) (zd zj x.cur) zt).run prog (J.drewN n)=.ok (ze zp) (J.drewN n):=fun n=>by have:=A.out.PU n;rw[M.out]at this;exact this
 go_wp2_with fail;go_quiet (fail);go_wp2_with fail;refine(Qo D (J.drewN nq) F q x ⟨m,t,g,I,ov,A.out.kept fun k _ _=>rfl⟩).mono ?_;rintro z w5 ⟨rfl,O,Z⟩;have b:=yw O;have d:=yw Z;clear O Z;go_wp2;go_ret;rw[f.out];exact⟨rfl,b.out,(OA.NZ (yH c.out nq)).trans d.out fun k hk=>.inl hk⟩
theorem Nq(D:Int)(w:zu)(F:Nat->Prop)(q m t:Nat)(g:Int->Option Nat)(I:Int)(ov:Bool)(x:Qu)(E:QS w F q m t g I ov x)(p:Addr)(G:x.first=zp)(N:Jh g (x.get x.cur)=(zo p)):
 zw prog 145 #[ze (zo ⟨q,0,zp⟩),zd zj D] w (vv w F q (x.yield D)):=by
 obtain⟨y,H⟩:=yB ((x.yield D))
 rw[<-H];have f:Hid (y=x.pick D):=yw (by rw[H];unfold Qu.yield;rw[G]);have B:=yw (xS w F q m t g I ov x E);rw[G]at B;have a:=yw E;obtain⟨R,T,V,X,U,Y⟩:=E.qx.c6;have M:=yw N;clear E G H N;go_enter func145,ntmps145;go_wp2_with fail;refine B.out.mono ?_;rintro z J ⟨rfl,hb⟩;have c:=yw hb;have A:=yw (a.out.kept (.NZ hb));clear hb R T V X U Y;obtain⟨R,T,V,X,U,Y⟩:=A.out.qx.c6;have h0:∀n,(Instr.lookup 213 (.map (zo m)) (zd zj x.cur) zt).run prog (J.drewN n)=.ok (ze (zo p)) (J.drewN n):=fun n=>by have:=A.out.PU n;rw[M.out]at this;exact this
 go_wp2_with fail;go_quiet (fail);go_wp2_with fail;refine(Qo D (J.drewN nq) F q x ⟨m,t,g,I,ov,A.out.kept fun k _ _=>rfl⟩).mono ?_;rintro z w5 ⟨rfl,O,Z⟩;have b:=yw O;have d:=yw Z;clear O Z;go_wp2;go_ret;rw[f.out];exact⟨rfl,b.out,(OA.NZ (yH c.out nq)).trans d.out fun k hk=>.inl hk⟩
theorem QH(H:Int)(w:zu)(F:Nat->Prop)(q m t:Nat)(g:Int->Option Nat)(O:Int)(ov:Bool)(x:Qu)(D:QS w F q m t g O ov x)(o:En)(J:x.first=zo o)(M:x.get x.cur=zp):
 zw prog 145 #[ze (zo ⟨q,0,zp⟩),zd zj H] w (vv w F q (x.yield H)):=by
 obtain⟨y,N⟩:=yB ((x.yield H))
 rw[<-N];have p:Hid (y=x.pick H):=yw (by rw[N];unfold Qu.yield;rw[J,M]);have E:=yw (xS w F q m t g O ov x D);rw[J]at E;have f:=yw D;obtain⟨d,X,Z,a,Y,b⟩:=D.qx.c6;have B:=Qk J;obtain⟨po,I,G,_,_⟩:=xk D B;obtain⟨h0,R,U⟩:=Qe G I M;clear D J N M B I G;go_enter func145,ntmps145;go_wp2_with fail;refine E.out.mono ?_;rintro z T ⟨rfl,hb⟩;have j:=yw hb;have A:=yw (f.out.kept (.NZ hb));rw[R.out];clear hb d X Z a Y b;obtain⟨d,X,Z,a,Y,b⟩:=A.out.qx.c6
 have h1:∀n,(Instr.lookup 213 (.map (zo m)) (zd zj x.cur) zt).run prog (T.drewN n)=.ok (ze zp) (T.drewN n):=fun n=>by have:=A.out.PU n;rw[U.out]at this;exact this
 go_wp2_with fail;go_quiet (fail);go_wp2_with fail;refine(Qo H (T.drewN nq) F q x ⟨m,t,g,O,ov,A.out.kept fun k _ _=>rfl⟩).mono ?_;rintro z w5 ⟨rfl,V,c⟩;have h:=yw V;have l:=yw c;clear V c;go_wp2;go_ret;rw[p.out];exact⟨rfl,h.out,(OA.NZ (yH j.out nq)).trans l.out fun k hk=>.inl hk⟩
theorem QI(Y:Int)(w:zu)(F:Nat->Prop)(q m t:Nat)(g:Int->Option Nat)(ld:Int)(ov:Bool)(x:Qu)(M:QS w F q m t g ld ov x)(o c:En)(j:x.first=zo o)(A:x.get x.cur=zo c)(hn:TB o c Y=zq):
 zw prog 145 #[ze (zo ⟨q,0,zp⟩),zd zj Y] w (vv w F q (x.yield Y)):=by
 obtain⟨y,S⟩:=yB ((x.yield Y))
 rw[<-S];have HY:Hid (y={ x with cur:=o.id }):=yw (by rw[S];unfold Qu.yield;rw[j,A];simp only[hn,if_true]);have V:=yw (xS w F q m t g ld ov x M);rw[j]at V;have K:=yw M;obtain⟨C,f,h,l,u,r⟩:=M.qx.c6;have G:=Qk j;have HO:=yw G;obtain⟨L,d,X,_,_⟩:=xk M G;have W:=yw X;have h3:=yw d;have H:=(xu A).1;have HC:=yw H;obtain⟨s,U,a,_,_⟩:=xk M H;obtain⟨P,h2,h4,HN⟩:=Qf a U A hn;clear M j S A hn G d X H U a;go_enter func145,ntmps145;go_wp2_with fail;refine V.out.mono ?_;rintro z w2 ⟨rfl,hb⟩;have HB:=yw hb
 have D:=yw (K.out.kept (.NZ hb));rw[h3.out];clear hb C f h l u r;obtain⟨C,f,h,l,u,r⟩:=D.out.qx.c6;have N:=D.out.qx.OH;have h0:∀n,(Instr.lookup 213 (.map (zo m)) (zd zj x.cur) zt).run prog (w2.drewN n)=.ok (ze (zo ⟨s,0,zp⟩)) (w2.drewN n):=fun n=>by have:=D.out.PU n;rw[h4.out]at this;rw[h2.out]at this;exact this
 go_wp2_with fail;go_quiet (fail);obtain⟨J,B⟩:=yB (w2.drewN nq)
 have E:Hid (QS J F q m t g ld ov x):=yw (by rw[B];exact D.out.kept fun k _ _=>rfl);have T:Hid (Below w.heap.size w J):=yw (by rw[B];exact yH HB.out nq);have O:Hid (Ex J L o):=yw (by
  obtain⟨p,hp,A,_,Q⟩:=xk E.out HO.out;have:p=L:=by rw[W.out]at A;exact(zx A).symm
  exact this▸Q)
 have h1:Hid (Ex J s c):=yw (by
  obtain⟨p,hp,A,_,Q⟩:=xk E.out HC.out;have:p=s:=by rw[P.out]at A;exact(zx A).symm
  exact this▸Q)
 rw[<-B];clear B h0 C f h l u r N;go_wp2_with fail;refine(Vp L s o c Y _ O.out h1.out (E.out.ok.RA c HC.out).v).mono ?_;rintro z w4 ⟨rfl,I⟩;rw[HN.out];have Z:=yw (yC T.out I T.out.size);have b:=yw (K.out.kept (.NZ Z.out));have R:=yw (O.out.behind I);clear I;obtain⟨C,f,h,l,u,r⟩:=b.out.qx.c6;have N:=b.out.qx.OH;obtain⟨e0,e1,e2,e3⟩:=R.out.c4;go_wp2;go_ret;exact Ul K.out HO.out Z.out HY.out
theorem QJ(G:Int)(w:zu)(F:Nat->Prop)(q m t:Nat)(g:Int->Option Nat)(l:Int)(ov:Bool)(x:Qu)(N:QS w F q m t g l ov x)(o c:En)(h:x.first=zo o)(A:x.get x.cur=zo c)(hn:TB o c G=zt):
 zw prog 145 #[ze (zo ⟨q,0,zp⟩),zd zj G] w (vv w F q (x.yield G)):=by
 obtain⟨y,Q⟩:=yB ((x.yield G))
 rw[<-Q];have HY:Hid (y=x.pick G):=yw (by rw[Q];unfold Qu.yield;rw[h,A];simp only[hn];rfl);have X:=yw (xS w F q m t g l ov x N);rw[h]at X;have HQ:=yw N;obtain⟨s,f,d,j,r,u⟩:=N.qx.c6;have E:=Qk h;have HO:=yw E;obtain⟨W,T,a,_,_⟩:=xk N E;have K:=yw a;have h3:=yw T;have I:=(xu A).1;have HC:=yw I;obtain⟨C,V,O,_,_⟩:=xk N I;obtain⟨h0,h2,S,HN⟩:=Qf O V A hn;clear N h Q A hn E T a I V O;go_enter func145,ntmps145;go_wp2_with fail;refine X.out.mono ?_;rintro z w2 ⟨rfl,hb⟩;have HB:=yw hb
 have H:=yw (HQ.out.kept (.NZ hb));rw[h3.out];clear hb s f d j r u;obtain⟨s,f,d,j,r,u⟩:=H.out.qx.c6;have L:∀n,(Instr.lookup 213 (.map (zo m)) (zd zj x.cur) zt).run prog (w2.drewN n)=.ok (ze (zo ⟨C,0,zp⟩)) (w2.drewN n):=fun n=>by have:=H.out.PU n;rw[S.out]at this;rw[h2.out]at this;exact this
 go_wp2_with fail;go_quiet (fail);obtain⟨M,B⟩:=yB (w2.drewN nq)
 have D:Hid (QS M F q m t g l ov x):=yw (by rw[B];exact H.out.kept fun k _ _=>rfl);have U:Hid (Below w.heap.size w M):=yw (by rw[B];exact yH HB.out nq);have Z:Hid (Ex M W o):=yw (by
  obtain⟨p,hp,A,_,P⟩:=xk D.out HO.out;have:p=W:=by rw[K.out]at A;exact(zx A).symm
  exact this▸P)
 have h1:Hid (Ex M C c):=yw (by
  obtain⟨p,hp,A,_,P⟩:=xk D.out HC.out;have:p=C:=by rw[h0.out]at A;exact(zx A).symm
  exact this▸P)
 rw[<-B];clear B L s f d j r u;go_wp2_with fail;refine(Vp W C o c G _ Z.out h1.out (D.out.ok.RA c HC.out).v).mono ?_;rintro z w4 ⟨rfl,J⟩;rw[HN.out];have Y:=yw (yC U.out J U.out.size);have b:=yw (HQ.out.kept (.NZ Y.out));have R:=yw (Z.out.behind J);clear J;obtain⟨s,f,d,j,r,u⟩:=b.out.qx.c6;obtain⟨e0,e1,e2,e3⟩:=R.out.c4;go_wp2_with fail;refine(Qo G w4 F q x ⟨m,t,g,l,ov,b.out⟩).mono ?_;rintro z w5 ⟨rfl,h5,t5⟩;have H5:=yw h5;have T5:=yw t5;clear h5 t5;go_wp2;go_ret;rw[HY.out];exact⟨rfl,H5.out,(OA.NZ Y.out).trans T5.out fun k hk=>.inl hk⟩
theorem Rp(A:Int)(w:zu)(F:Nat->Prop)(q:Nat)(x:Qu)(h:xZ w F q x):zw prog 145 #[ze (zo ⟨q,0,zp⟩),zd zj A] w (vv w F q (x.yield A)):=by
 obtain⟨m,t,g,B,ov,D⟩:=h;cases hf:x.first with
 | none=>
  cases hg:Jh g (x.get x.cur)with
  | none=>exact Np A w F q m t g B ov x D hf hg
  | some p=>exact Nq A w F q m t g B ov x D p hf hg
 | some o=>
  cases hg:x.get x.cur with
  | none=>exact QH A w F q m t g B ov x D o hf hg
  | some c=>
   cases hn:TB o c A
   .exact QJ A w F q m t g B ov x D o c hf hg hn
   .exact QI A w F q m t g B ov x D o c hf hg hn
structure Gr where
 up:Int
 deep:Int
 q:Qu
 own:En
 on:Bool
 st:Bool
structure Hm where
 credit:Int
 gran:Int
 gs:Nat->Option Gr
def Hm.set(h:Hm)(g:Nat)(x:Gr):Hm:={ h with gs:=fun k=>if k=g then zo x else h.gs k }
def Gr.OD(x:Gr)(q:Qu):Gr:={ x with q:=q }
def Qp:Gr:=⟨-1,0,Qu.new,⟨0,0,0,0⟩,zt,zt⟩
def Hm.new(credit gran:Int):Hm:=⟨credit,gran,fun k=>if k=0 then zo Qp else zp⟩
def Jj(g:Nat)(u:Nat)(deep:Int):Gr:=⟨u,deep+1,Qu.new,⟨2*g+1,1024,0,0⟩,zt,zt⟩
def Gr.PV(x:Gr)(min credit:Int):En:={ x.own with v:=Je x.own.v min credit }
def Gr.OQ(x:Gr):Bool:=!x.st && !x.q.l.isEmpty
def Gr.SF(x:Gr)(min credit:Int):Gr:={ x with own:=x.PV min credit,on:=zq }
def Gr.go(x:Gr)(e:En):Gr:={ x with own:=e,on:=zt }
def Gr.RF(x:Gr)(q:Qu)(g:Nat):En:=(q.get (2*g+1)).getD x.own
def Hm.settle:Nat->Hm->Nat->Hm
 | 0,h,_=>h
 | n+1,h,g=>match h.gs g with
  | none=>h
  | some x=>if x.up<0 then h else match h.gs x.up.toNat with
   | none=>h
   | some u=>
    if x.OQ=x.on then h
    else if x.OQ=zq then
     Hm.settle n ((h.set x.up.toNat (u.OD (u.q.put (x.PV u.q.min h.credit)))).set g (x.SF u.q.min h.credit)) x.up.toNat
    else
     Hm.settle n ((h.set x.up.toNat (u.OD (u.q.drop (2*g+1)))).set g (x.go (x.RF u.q g))) x.up.toNat
def Qu.has(x:Qu)(i:Int):Prop:=∃e∈x.l,e.id=i
theorem Vq:x.has i↔x.get i≠zp:=by
 constructor
 .rintro⟨e,B,A⟩ h;exact get_none h e B A
 .intro h;cases hg:x.get i with
  | none=>exact absurd hg h
  | some e=>exact⟨e,(xu hg).1,(xu hg).2⟩
structure Hm.Ok(h:Hm):Prop where
 root:∃x,h.gs 0=zo x/\x.up= -1/\x.deep=0
 TG:∀g x,h.gs g=zo x->g<32
 up:∀g x,h.gs g=zo x->g≠0->∃(u:Nat) (y:Gr),x.up=u/\h.gs u=zo y/\x.deep=y.deep+1
 deep:∀g x,h.gs g=zo x->0<=x.deep/\x.deep<=8
 own:∀g x,h.gs g=zo x->g≠0->x.own.Ok/\x.own.id=2*g+1
 q:∀g x,h.gs g=zo x->x.q.Ok/\∀e∈x.q.l,e.id<128
 eJ:∀g x (c:Nat),h.gs g=zo x->x.q.has (2*c+1)->∃y,h.gs c=zo y/\y.up=g
 on:∀(g:Nat) x (c:Nat) y,h.gs g=zo x->h.gs c=zo y->y.up=g->(x.q.has (2*c+1)↔y.on=zq)
structure qM(h h':Hm):Prop where
 cr:h'.credit=h.credit
 gr:h'.gran=h.gran
 gs:∀g,(h.gs g=zp/\h'.gs g=zp)∨∃x y,h.gs g=zo x/\h'.gs g=zo y/\y.up=x.up/\y.deep=x.deep
theorem qM.refl(h:Hm):qM h h:=⟨rfl,rfl,fun g=>by cases hg:h.gs g with
 | none=>exact .inl ⟨rfl,rfl⟩
 | some x=>exact .inr ⟨x,x,rfl,rfl,rfl,rfl⟩⟩
theorem qM.trans{a b c:Hm}(h:qM a b)(B:qM b c):qM a c:=⟨B.cr.trans h.cr,B.gr.trans h.gr,fun g=>by
 rcases h.gs g with⟨E,D⟩|⟨x,y,E,D,M,J⟩
 .rcases B.gs g with⟨A,g2⟩|⟨x',H,A,g2,I,G⟩
  .exact .inl ⟨E,g2⟩
  .rw[D]at A;cases A
 .rcases B.gs g with⟨A,g2⟩|⟨x',H,A,g2,I,G⟩
  .rw[D]at A;cases A
  .rw[D]at A;cases A;exact .inr ⟨x,H,E,g2,I.trans M,G.trans J⟩⟩
def Hm.even(h:Hm)(g:Nat)(i:Int):Prop:=∃x,h.gs g=zo x/\x.q.has (2*i)
theorem Hm.Ok.turn{h D:Hm}(hk:h.Ok)(U:qM h D)
 (b:∀g y,D.gs g=zo y->g≠0->y.own.Ok/\y.own.id=2*g+1)
 (Y:∀g y,D.gs g=zo y->y.q.Ok/\∀e∈y.q.l,e.id<128)
 (Z:∀g y (c:Nat),D.gs g=zo y->y.q.has (2*c+1)->∃z,D.gs c=zo z/\z.up=g)
 (V:∀(g:Nat) x (c:Nat) y,D.gs g=zo x->D.gs c=zo y->y.up=g->(x.q.has (2*c+1)↔y.on=zq)):D.Ok:=by
 have A:∀g y,D.gs g=zo y->∃x,h.gs g=zo x/\y.up=x.up/\y.deep=x.deep:=fun g y E=>by
  rcases U.gs g with⟨H,g2⟩|⟨x,z,H,g2,T,N⟩
  .rw[E]at g2;cases g2
  .rw[E]at g2;cases g2;exact⟨x,H,T,N⟩
 have B:∀g x,h.gs g=zo x->∃y,D.gs g=zo y/\y.up=x.up/\y.deep=x.deep:=fun g x G=>by
  rcases U.gs g with⟨H,g2⟩|⟨x',z,H,g2,T,N⟩
  .rw[G]at H;cases H
  .rw[G]at H;cases H;exact⟨z,g2,T,N⟩
 refine⟨?_,?_,?_,?_,b,Y,Z,V⟩
 .obtain⟨x,G,O,hd⟩:=hk.root;obtain⟨y,E,J,I⟩:=B 0 x G;exact⟨y,E,by rw[J,O],by rw[I,hd]⟩
 .intro g y E;obtain⟨x,G,_⟩:=A g y E;exact hk.TG g x G
 .intro g y E M;obtain⟨x,G,J,I⟩:=A g y E;obtain⟨u,z,O,a,hd⟩:=hk.up g x G M;obtain⟨X,R,f1,d⟩:=B u z a;exact⟨u,X,by rw[J,O],R,by rw[I,d,hd]⟩
 .intro g y E;obtain⟨x,G,J,I⟩:=A g y E;rw[I];exact hk.deep g x G
theorem yO(h:Hm)(g:Nat)(x:Gr):(h.set g x).gs g=zo x:=by simp[Hm.set]
theorem yJ(h:Hm){k:Nat}(x:Gr)(A:k≠g):(h.set g x).gs k=h.gs k:=by simp[Hm.set,A]
theorem qM.set{h:Hm}{x y:Gr}(B:h.gs g=zo x)(A:y.up=x.up)(hd:y.deep=x.deep):qM h (h.set g y):=⟨rfl,rfl,fun k=>by
 by_cases e:k=g
 .subst e;exact .inr ⟨x,y,B,yO _ _ _,A,hd⟩
 .rw[yJ h y e];exact(qM.refl h).gs k⟩
theorem Hm.Ok.set{h:Hm}(hk:h.Ok){x y:Gr}(R:h.gs g=zo x)(N:y.up=x.up)(hd:y.deep=x.deep)(M:y.on=x.on)(I:g≠0->y.own.Ok/\y.own.id=2*g+1)
 (X:y.q.Ok) (V:∀e∈y.q.l,e.id<128) (Z:∀c:Nat,y.q.has (2*c+1)↔x.q.has (2*c+1)):(h.set g y).Ok:=by
 have E:∀k z,(h.set g y).gs k=zo z->∃B,h.gs k=zo B/\B.up=z.up/\B.on=z.on/\∀c:Nat,z.q.has (2*c+1)↔B.q.has (2*c+1):=fun k z A=>by
  by_cases e:k=g
  .subst e;rw[yO]at A;cases A;exact⟨x,R,N.symm,M.symm,Z⟩
  .rw[yJ h y e]at A;exact⟨z,A,rfl,rfl,fun c=>Iff.rfl⟩
 have O:∀k z,h.gs k=zo z->∃B,(h.set g y).gs k=zo B/\B.up=z.up:=fun k z A=>by
  by_cases e:k=g
  .subst e;rw[R]at A;cases A;exact⟨y,yO _ _ _,N⟩
  .exact⟨z,by rw[yJ h y e];exact A,rfl⟩
 refine hk.turn (qM.set R N hd) ?_ ?_ ?_ ?_
 .intro k z A J;by_cases e:k=g
  .subst e;rw[yO]at A;cases A;exact I J
  .rw[yJ h y e]at A;exact hk.own k z A J
 .intro k z A;by_cases e:k=g
  .subst e;rw[yO]at A;cases A;exact⟨X,V⟩
  .rw[yJ h y e]at A;exact hk.q k z A
 .intro k z c A b;obtain⟨B,H,_,_,T⟩:=E k z A;obtain⟨v,U,G⟩:=hk.eJ k B c H ((T c).1 b);obtain⟨v',D,e⟩:=O c v U;exact⟨v',D,e.trans G⟩
 .intro k z c v A U G;obtain⟨B,H,_,_,T⟩:=E k z A;obtain⟨v',D,Y,a,_⟩:=E c v U;rw[T c,hk.on k B c v' H D (Y.trans G),a]
theorem Qq{h:Hm}{x y:Gr}(B:h.gs g=zo x)(A:∀i,y.q.has (2*i)↔x.q.has (2*i))(k:Nat)(i:Int):(h.set g y).even k i↔h.even k i:=by
 unfold Hm.even;by_cases e:k=g
 .subst e;rw[yO,B];simp[A]
 .rw[yJ h y e]
theorem Hm.Ok.step{h:Hm}(hk:h.Ok){u:Nat}{x y x' B:Gr}(Y:h.gs g=zo x)(T:x.up=u)(X:h.gs u=zo y)(R:g≠u)
 (U:x'.up=x.up) (m:x'.deep=x.deep) (j:x'.q=x.q) (r:x'.own.Ok/\x'.own.id=2*g+1)
 (Z:B.up=y.up) (L:B.deep=y.deep) (p:B.own=y.own) (Q:B.on=y.on) (s:B.q.Ok) (F:∀e∈B.q.l,e.id<128)
 (C:∀c:Nat,c≠g->(B.q.has (2*c+1)↔y.q.has (2*c+1))) (n:B.q.has (2*g+1)↔x'.on=zq):((h.set u B).set g x').Ok:=by
 have PJ:((h.set u B).set g x').gs g=zo x':=yO _ _ _;have D:((h.set u B).set g x').gs u=zo B:=by rw[yJ _ _ (Ne.symm R),yO]
 have E:∀k,k≠g->k≠u->((h.set u B).set g x').gs k=h.gs k:=fun k P G=>by rw[yJ _ _ P,yJ _ _ G]
 have t:qM h ((h.set u B).set g x'):=(qM.set X Z L).trans (qM.set (by rw[yJ _ _ R];exact Y) U m);have N:∀k z,((h.set u B).set g x').gs k=zo z->∃H,h.gs k=zo H/\H.up=z.up/\(k≠g->H.on=z.on)/\∀c:Nat,¬(c=g/\k=u)->(z.q.has (2*c+1)↔H.q.has (2*c+1)):=fun k z A=>by
  by_cases e:k=g
  .subst e;rw[PJ]at A;cases A;exact⟨x,Y,U.symm,fun h=>absurd rfl h,fun c _=>by rw[j]⟩
  .by_cases G:k=u
   .subst G;rw[D]at A;cases A;exact⟨y,X,Z.symm,fun _=>Q.symm,fun c f=>C c fun e=>f ⟨e,rfl⟩⟩
   .rw[E k e G]at A;exact⟨z,A,rfl,fun _=>rfl,fun c _=>Iff.rfl⟩
 have b:∀k z,h.gs k=zo z->∃H,((h.set u B).set g x').gs k=zo H/\H.up=z.up:=fun k z A=>by
  by_cases e:k=g
  .subst e;rw[Y]at A;cases A;exact⟨x',PJ,U⟩
  .by_cases G:k=u
   .subst G;rw[X]at A;cases A;exact⟨B,D,Z⟩
   .exact⟨z,by rw[E k e G];exact A,rfl⟩
 refine hk.turn t ?_ ?_ ?_ ?_
 .intro k z A J;by_cases e:k=g
  .subst e;rw[PJ]at A;cases A;exact r
  .by_cases G:k=u
   .subst G;rw[D]at A;cases A;rw[p];exact hk.own k y X J
   .rw[E k e G]at A;exact hk.own k z A J
 .intro k z A;by_cases e:k=g
  .subst e;rw[PJ]at A;cases A;rw[j];exact hk.q k x Y
  .by_cases G:k=u
   .subst G;rw[D]at A;cases A;exact⟨s,F⟩
   .rw[E k e G]at A;exact hk.q k z A
 .intro k z c A f;by_cases e:c=g/\k=u
  .obtain⟨rfl,rfl⟩:=e;exact⟨x',PJ,U.trans T⟩
  .obtain⟨H,O,_,_,d⟩:=N k z A;obtain⟨v,V,I⟩:=hk.eJ k H c O ((d c e).1 f);obtain⟨v',M,a⟩:=b c v V;exact⟨v',M,a.trans I⟩
 .intro k z c v A V I;by_cases e:c=g
  .subst e;rw[PJ]at V;cases V;have:(k:Int)=u:=by rw[<-I,U,T]
   have:k=u:=by omega
   subst this;rw[D]at A;cases A;exact n
  .obtain⟨H,O,_,_,d⟩:=N k z A;obtain⟨v',M,o,K,_⟩:=N c v V;rw[d c fun a=>e a.1,hk.on k H c v' O M (o.trans I),K e]
theorem Di(x:Qu)(i:Int):x.raise.has i↔x.has i:=by unfold Qu.has;rw[uz]
theorem Vs(hx:x.Ok)(B:e.Ok)(D:x.get e.id=zp)(hl:x.l.length<128):x.put e=({ x with l:=Kj e x.l }:Qu).raise:=by
 obtain⟨h1,h2,h3,h4⟩:=B;have A:Yw e.w=zq:=by simp[Yw];omega
 unfold Qu.put Qu.SD;rw[if_pos];rw[if_neg (by omega),if_neg (by rw[A];simp),if_neg (by omega),if_neg (by rw[D];simp),if_neg (by omega)]
theorem Nr(H:x.Ok)(D:e.Ok)(G:x.get e.id=zp)(E:x.l.length<128)(i:Int):(x.put e).has i↔i=e.id∨x.has i:=by
 rw[Vs H D G E,Di];unfold Qu.has;simp only[qt];constructor
 .rintro⟨a,rfl|B,A⟩
  .exact .inl A.symm
  .exact .inr ⟨a,B,A⟩
 .rintro(h|⟨a,B,A⟩)
  .exact⟨e,.inl rfl,h.symm⟩
  .exact⟨a,.inr B,A⟩
theorem QK(D:x.Ok)(A:e.Ok)(B:x.get e.id=zp)(E:x.l.length<128):(x.put e).Ok:=by rw[Vs D A B E];exact(D.put A B E).raise
theorem Ns{y:Qu}(h:∀e∈x.l,e.id<128)(D:∀i,y.has i->x.has i):∀e∈y.l,e.id<128:=fun e A=>by obtain⟨a,B,E⟩:=D e.id ⟨e,A,rfl⟩;rw[<-E];exact h a B
theorem Nt(A:x.Ok)(i:Int):(x.drop i).Ok:=by
 unfold Qu.drop;split
 .exact A
 .exact(A.OJ i).raise
theorem Fp(hx:x.Ok)(i j:Int):(x.drop i).has j↔j≠i/\x.has j:=by
 unfold Qu.drop;split
 .rename_i h;constructor
  .rintro⟨e,D,rfl⟩;exact⟨get_none h e D,e,D,rfl⟩
  .exact fun h=>h.2
 .rw[Di];unfold Qu.has;simp only[xB];constructor
  .rintro⟨a,⟨A,B⟩,rfl⟩;exact⟨B,a,A,rfl⟩
  .rintro⟨B,a,A,rfl⟩;exact⟨a,⟨A,B⟩,rfl⟩
theorem Wj(x:Qu)(i w j:Int):(x.OT i w).has j↔x.has j:=by
 unfold Qu.OT;split
 .exact Iff.rfl
 .split
  .exact Iff.rfl
  .unfold Qu.has;simp only[yh];constructor
   .rintro⟨b,⟨a,B,rfl⟩,D⟩;refine⟨a,B,?_⟩;rw[<-D];by_cases A:Xh i a=zq<;>simp[A]
   .rintro⟨a,B,D⟩;refine⟨_,⟨a,B,rfl⟩,?_⟩;rw[<-D];by_cases A:Xh i a=zq<;>simp[A]
theorem Vt(x:Qu)(A j:Int):(x.pick A).has j↔x.has j:=by
 have:(x.pick A).l=x.l:=by unfold Qu.pick;repeat' split<;>try rfl
 unfold Qu.has;rw[this]
theorem Dj(x:Qu)(A j:Int):(x.yield A).has j↔x.has j:=by
 unfold Qu.yield;split
 .split
  .exact Iff.rfl
  .exact Vt x A j
 .exact Vt x A j
theorem Fq(ns j:Int):(x.OK ns).has j↔x.has j:=by
 unfold Qu.OK;split
 .exact Iff.rfl
 .rename_i e E;obtain⟨H,G⟩:=xu E;rw[Di];unfold Qu.has;simp only[qt,xB];constructor
  .rintro⟨a,rfl|⟨B,_⟩,A⟩
   .exact⟨e,H,A⟩
   .exact⟨a,B,A⟩
  .rintro⟨a,B,A⟩;by_cases D:a.id=x.cur
   .exact⟨_,.inl rfl,by show e.id=j;rw[G,<-D,A]⟩
   .exact⟨a,.inr ⟨B,D⟩,A⟩
theorem Rq:∀(n:Nat) (l:List Nat),l.Nodup->(∀x∈l,x<n)->l.length<=n
 | 0,l,_,h=>by cases l with
  | nil=>simp
  | cons a l=>exact absurd (h a (by simp)) (by omega)
 | n+1,l,hn,h=>by have:=Rq n (l.erase n) (hn.erase n) (fun x B=>by obtain⟨h1,A⟩:=hn.mem_erase_iff.1 B;have:=h x A;omega);rw[List.length_erase]at this;split at this<;>omega
theorem room(E:x.Ok)(h:∀e∈x.l,e.id<128)(hi:0<=i/\i<128)(M:x.get i=zp):x.l.length<128:=by
 have B:((x.l.map fun e=>e.id.toNat)++ [i.toNat]).Nodup:=by
  rw[List.nodup_append];refine⟨?_,by simp,?_⟩
  .have N:=E.ids;rw[show(x.l.map fun e=>e.id.toNat)=(x.l.map En.id).map Int.toNat by simp];refine List.Pairwise.map _ ?_ (List.Pairwise.and_mem.1 N);rintro a b ⟨D,hb,H⟩ e;obtain⟨G,A,rfl⟩:=yh.1 D;obtain⟨J,I,rfl⟩:=yh.1 hb;have:=(E.RA G A).id;have:=(E.RA J I).id;exact H (by omega)
  .intro a D b hb e;obtain⟨G,A,rfl⟩:=yh.1 D;simp at hb;have:=(E.RA G A).id;exact get_none M G A (by omega)
 have hs:∀n∈((x.l.map fun e=>e.id.toNat)++ [i.toNat]),n<128:=by
  intro n B;rcases yn.1 B with B|B
  .obtain⟨a,D,rfl⟩:=yh.1 B;have:=(E.RA a D).id;have:=h a D;omega
  .simp at B;omega
 have:=Rq 128 _ B hs;simp at this;omega
theorem Fr{v m c:Int}(A: -9223372036854775808<=v/\v<=9223372036854775807): -9223372036854775808<=Je v m c/\Je v m c<=9223372036854775807:=by
 unfold Je;split
 .exact A
 .unfold vN;split
  .rename_i h;unfold Xy at h;simp at h;omega
  .split<;>omega
theorem Gr.dO{x:Gr}(h:x.own.Ok)(m c:Int):(x.PV m c).Ok:=⟨h.id,h.w,Fr h.v,h.rem⟩
theorem Wl:∀(n:Nat) {h:Hm} (hk:h.Ok) (g:Nat),(h.settle n g).Ok/\qM h (h.settle n g)/\∀k i,(h.settle n g).even k i↔h.even k i
 | 0,h,hk,g=>⟨hk,.refl h,fun k i=>Iff.rfl⟩
 | n+1,h,hk,g=>by
  unfold Hm.settle;cases hx:h.gs g with
  | none=>exact⟨hk,.refl h,fun k i=>Iff.rfl⟩
  | some x=>
   simp only;by_cases N:x.up<0
   .rw[if_pos N];exact⟨hk,.refl h,fun k i=>Iff.rfl⟩
   .rw[if_neg N];have Y:g≠0:=by rintro rfl;obtain⟨r,C,hu,_⟩:=hk.root;rw[hx]at C;cases C;omega
    obtain⟨u,y,H,E,hd⟩:=hk.up g x hx Y;have e:x.up.toNat=u:=by rw[H];rfl
    rw[e,E];simp only;have G:g≠u:=by rintro rfl;rw[hx]at E;cases E;omega
    by_cases hs:x.OQ=x.on
    .rw[if_pos hs];exact⟨hk,.refl h,fun k i=>Iff.rfl⟩
    .rw[if_neg hs];obtain⟨X,Z⟩:=hk.own g x hx Y;obtain⟨B,U⟩:=hk.q u y E;have h0:=hk.TG g x hx;by_cases d:x.OQ=zq
     .rw[if_pos d];have V:x.on=zt:=by cases hb:x.on with
       | false=>rfl
       | true=>rw[hb]at hs;exact absurd d hs
      have m:=Gr.dO (x:=x) X y.q.min h.credit;have A:(x.PV y.q.min h.credit).id=2*g+1:=Z;have R:y.q.get (x.PV y.q.min h.credit).id=zp:=by
       rw[A];cases hgg:y.q.get (2*(g:Int)+1)with
       | none=>rfl
       | some a=>
        have:=(hk.on u y g x E hx H).1 (Vq.2 (by rw[hgg];simp));rw[V]at this;cases this
      have M:=room B U (i:=2*(g:Int)+1) (by omega) (by rw[<-A];exact R);have I:=Nr B m R M;have T:((h.set u (y.OD (y.q.put (x.PV y.q.min h.credit)))).set g (x.SF y.q.min h.credit)).Ok:=by
       refine hk.step hx H E G rfl rfl rfl ⟨m,A⟩ rfl rfl rfl rfl (QK B m R M) ?_ ?_ ?_
       .intro a F;rcases(I a.id).1 ⟨a,F,rfl⟩with O|⟨b,hb,s⟩
        .rw[O,A];omega
        .rw[<-s];exact U b hb
       .intro c K;show(y.q.put _).has _↔_;rw[I,A];constructor
        .rintro(O|O)
         .omega
         .exact O
        .exact .inr
       .show(y.q.put _).has _↔_;rw[I,A];exact⟨fun _=>rfl,fun _=>.inl rfl⟩
      have D:(h.set u (y.OD (y.q.put (x.PV y.q.min h.credit)))).gs g=zo x:=by rw[yJ _ _ G];exact hx
      have o:qM h ((h.set u (y.OD (y.q.put (x.PV y.q.min h.credit)))).set g (x.SF y.q.min h.credit)):=
       (qM.set (y:=y.OD (y.q.put (x.PV y.q.min h.credit))) E rfl rfl).trans (qM.set (y:=x.SF y.q.min h.credit) D rfl rfl)
      obtain⟨t,f,p⟩:=Wl n T u;refine⟨t,o.trans f,fun k i=>?_⟩;have v:∀j,(y.OD (y.q.put (x.PV y.q.min h.credit))).q.has (2*j)↔y.q.has (2*j):=by
       intro j;show(y.q.put _).has _↔_;rw[I,A];constructor
       .rintro(O|O)
        .omega
        .exact O
       .exact .inr
      rw[p,Qq (y:=x.SF y.q.min h.credit) D (fun i=>Iff.rfl),Qq E v]
     .rw[if_neg d];have l:x.OQ=zt:=by simpa using d
      have V:x.on=zq:=by cases hb:x.on with
       | true=>rfl
       | false=>rw[hb]at hs;exact absurd l hs
      have J:=Fp B (2*(g:Int)+1);have z:(x.RF y.q g).Ok/\(x.RF y.q g).id=2*g+1:=by
       unfold Gr.RF;cases hgg:y.q.get (2*(g:Int)+1)with
       | none=>exact⟨X,Z⟩
       | some a=>exact⟨B.RA a (xu hgg).1,(xu hgg).2⟩
      have T:((h.set u (y.OD (y.q.drop (2*g+1)))).set g (x.go (x.RF y.q g))).Ok:=by
       refine hk.step hx H E G rfl rfl rfl z rfl rfl rfl rfl (Nt B _) (Ns U fun i s=>((J i).1 s).2) ?_ ?_
       .intro c K;show(y.q.drop _).has _↔_;rw[J];exact⟨fun h=>h.2,fun h=>⟨by omega,h⟩⟩
       .show(y.q.drop _).has _↔_;rw[J];exact⟨fun h=>absurd rfl h.1,fun h=>by cases h⟩
      have D:(h.set u (y.OD (y.q.drop (2*g+1)))).gs g=zo x:=by rw[yJ _ _ G];exact hx
      have o:qM h ((h.set u (y.OD (y.q.drop (2*g+1)))).set g (x.go (x.RF y.q g))):=
       (qM.set (y:=y.OD (y.q.drop (2*g+1))) E rfl rfl).trans (qM.set (y:=x.go (x.RF y.q g)) D rfl rfl)
      obtain⟨t,f,p⟩:=Wl n T u;refine⟨t,o.trans f,fun k i=>?_⟩;have v:∀j,(y.OD (y.q.drop (2*g+1))).q.has (2*j)↔y.q.has (2*j):=by intro j;show(y.q.drop _).has _↔_;rw[J];exact⟨fun h=>h.2,fun h=>⟨by omega,h⟩⟩
      rw[p,Qq (y:=x.go (x.RF y.q g)) D (fun i=>Iff.rfl),Qq E v]
def PW(w:zu)(b qb:Nat)(x:Gr):Prop:=w.heap[b]?=zo (zn #[zd zj x.up,zd zj x.deep,ze (zo ⟨qb,0,zp⟩),zd zj x.own.id,zd zk x.own.w,zd zj x.own.v,zd zk x.own.rem,zh x.on,zh x.st] 138 (0,0))
theorem PW.lt{x:Gr}(h:PW w b qb x):b<w.heap.size:=(yx h).1
theorem PW.c9{x:Gr}(h:PW w b qb x):w.cell? ⟨b,0,zp⟩=zo (zd zj x.up)/\w.cell? ⟨b,1,zp⟩=zo (zd zj x.deep)/\w.cell? ⟨b,2,zp⟩=zo (ze (zo ⟨qb,0,zp⟩))/\w.cell? ⟨b,3,zp⟩=zo (zd zj x.own.id)/\w.cell? ⟨b,4,zp⟩=zo (zd zk x.own.w)/\w.cell? ⟨b,5,zp⟩=zo (zd zj x.own.v)/\w.cell? ⟨b,6,zp⟩=zo (zd zk x.own.rem)/\w.cell? ⟨b,7,zp⟩=zo (zh x.on)/\w.cell? ⟨b,8,zp⟩=zo (zh x.st):=by unfold PW at h;refine⟨?_,?_,?_,?_,?_,?_,?_,?_,?_⟩<;>simp[zN,h]
theorem PW.OH{x:Gr}(h:PW w b qb x):∀j,w.frozen? ⟨b,j,zp⟩=zt:=by intro j;unfold PW at h;simp[zY,h]
theorem PW.of{x:Gr}(h:PW w b qb x)(hb:w'.heap[b]?=w.heap[b]?):PW w' b qb x:=hb.trans h
theorem PW.behind{x:Gr}(h:PW w b qb x)(hb:Below w.heap.size w w'):PW w' b qb x:=h.of (hb.block b h.lt)
theorem PW.cV{x:Gr}(h:PW w b qb x)(v:Int):PW (w.setCell ⟨b,5,zp⟩ (zd zj v)) b qb { x with own:={ x.own with v:=v } }:=yD h
theorem PW.iJ{x:Gr}(h:PW w b qb x)(v:Int):PW (w.setCell ⟨b,4,zp⟩ (zd zk v)) b qb { x with own:={ x.own with w:=v } }:=yD h
theorem PW.AS{x:Gr}(h:PW w b qb x)(v:Int):PW (w.setCell ⟨b,6,zp⟩ (zd zk v)) b qb { x with own:={ x.own with rem:=v } }:=yD h
theorem PW.fL{x:Gr}(h:PW w b qb x)(v:Bool):PW (w.setCell ⟨b,7,zp⟩ (zh v)) b qb { x with on:=v }:=yD h
theorem PW.setSt{x:Gr}(h:PW w b qb x)(v:Bool):PW (w.setCell ⟨b,8,zp⟩ (zh v)) b qb { x with st:=v }:=yD h
theorem PW.fM{x:Gr}(h:PW w b qb x)(e:En):PW ((((w.setCell ⟨b,3,zp⟩ (zd zj e.id)).setCell ⟨b,4,zp⟩ (zd zk e.w)).setCell ⟨b,5,zp⟩ (zd zj e.v)).setCell ⟨b,6,zp⟩ (zd zk e.rem)) b qb { x with own:=e }:=by have D:(w.setCell ⟨b,3,zp⟩ (zd zj e.id)).heap[b]?=_:=yD h;have B:=yD (i:=4) (u:=zd zk e.w) D;have A:=yD (i:=5) (u:=zd zj e.v) B;exact yD (i:=6) (u:=zd zk e.rem) A
structure TW(w:zu)(p:Nat)(credit gran:Int)(ps:Nat->Option Nat):Prop where
 ty:∃cs,w.heap[p]?=zo (zn cs 152 (0,0))
 c0:w.cell? ⟨p,0,zp⟩=zo (zd zj credit)
 c1:w.cell? ⟨p,1,zp⟩=zo (zd zj gran)
 cs:∀k,k<32->w.cell? ⟨p,k+2,zp⟩=zo (ze ((ps k).map fun b=>⟨b,0,zp⟩))
theorem TW.lt{credit gran:Int}{ps:Nat->Option Nat}(h:TW w p credit gran ps):p<w.heap.size:=by obtain⟨cs,A⟩:=h.ty;exact(yx A).1
theorem TW.OH{credit gran:Int}{ps:Nat->Option Nat}(h:TW w p credit gran ps):∀j,w.frozen? ⟨p,j,zp⟩=zt:=by intro j;obtain⟨cs,A⟩:=h.ty;simp[zY,A]
theorem TW.of{credit gran:Int}{ps:Nat->Option Nat}(h:TW w p credit gran ps)(hb:w'.heap[p]?=w.heap[p]?):TW w' p credit gran ps:=by
 obtain⟨cs,A⟩:=h.ty;have e:∀j,w'.cell? ⟨p,j,zp⟩=w.cell? ⟨p,j,zp⟩:=fun j=>by simp[zN,hb]
 exact⟨⟨cs,hb.trans A⟩,by rw[e];exact h.c0,by rw[e];exact h.c1,fun k hk=>by rw[e];exact h.cs k hk⟩
theorem TW.behind{credit gran:Int}{ps:Nat->Option Nat}(h:TW w p credit gran ps)(hb:Below w.heap.size w w'):TW w' p credit gran ps:=h.of (hb.block p h.lt)
theorem TW.fN{credit gran:Int}{ps:Nat->Option Nat}{x:Gr}(h:TW w p credit gran ps)(A:PW w b qb x):p≠b:=by rintro rfl;obtain⟨cs,B⟩:=h.ty;unfold PW at A;rw[A]at B;simp at B
structure HS(w:zu)(F:Nat->Prop)(p:Nat)(h:Hm)(ps:Nat->Option Nat)(qs tg:Nat->Nat):Prop where
 hx:TW w p h.credit h.gran ps
 eK:∀g,h.gs g=zp->ps g=zp
 gx:∀g x,h.gs g=zo x->∃b,ps g=zo b/\F b/\tg b=0/\PW w b (qs g) x/\xZ w (fun k=>F k/\tg k=g+1) (qs g) x.q
 inj:∀g g' b,ps g=zo b->ps g'=zo b->g=g'
 fp:F p
 tp:tg p=0
def yT(w:zu)(F:Nat->Prop)(p:Nat)(h:Hm):Prop:=(∃ps qs tg,HS w F p h ps qs tg)/\h.Ok
theorem HS.kept{h:Hm}{ps:Nat->Option Nat}{B A:Nat->Nat}(hs:HS w F p h ps B A)(hk:xz F w w'):HS w' F p h ps B A:=
 ⟨hs.hx.of (hk p hs.hx.lt hs.fp),hs.eK,fun g x N=>by obtain⟨b,I,D,M,E,J⟩:=hs.gx g x N;exact⟨b,I,D,M,E.of (hk b E.lt D),J.kept fun k H G=>hk k H G.1⟩,hs.inj,hs.fp,hs.tp⟩
theorem HS.mono{h:Hm}{ps:Nat->Option Nat}{E D:Nat->Nat}(hs:HS w F p h ps E D)(A:∀k,k<w.heap.size->F k->G k):HS w G p h ps E D:=
 ⟨hs.hx,hs.eK,fun g x R=>by obtain⟨b,M,J,O,H,N⟩:=hs.gx g x R;exact⟨b,M,A b H.lt J,O,H,N.mono fun k I B=>⟨A k I B.1,B.2⟩⟩,hs.inj,A p hs.hx.lt hs.fp,hs.tp⟩
theorem yT.kept{h:Hm}(E:yT w F p h)(hk:xz F w w'):yT w' F p h:=by obtain⟨⟨ps,D,A,hs⟩,B⟩:=E;exact⟨⟨ps,D,A,hs.kept hk⟩,B⟩
theorem yT.mono{h:Hm}(E:yT w F p h)(H:∀k,k<w.heap.size->F k->G k):yT w G p h:=by obtain⟨⟨ps,D,A,hs⟩,B⟩:=E;exact⟨⟨ps,D,A,hs.mono H⟩,B⟩
theorem yT.behind{h:Hm}(A:yT w F p h)(hb:Below w.heap.size w w'):yT w' F p h:=A.kept (.NZ hb)
theorem xZ.ex{q:Nat}(h:xZ w F q x):∃m t A ov,Qx w q m t x.cur x.min A ov/\F q:=by obtain⟨m,t,g,A,ov,B⟩:=h;exact⟨m,t,A,ov,B.qx,B.oq⟩
theorem HS.OV{h:Hm}{ps:Nat->Option Nat}{J D:Nat->Nat}(hs:HS w F p h ps J D){x y:Gr}(s:h.gs g=zo x)(hb:ps g=zo b)
 (R:OA (fun k=>k=b∨(F k/\D k=g+1)) w w') (l:PW w' b (J g) y) (n:xZ w' (Ext (fun k=>F k/\D k=g+1) w w') (J g) y.q):
 HS w' (Ext F w w') p (h.set g y) ps J (fun k=>if k<w.heap.size then D k else g+1):=by
 obtain⟨M,I,r,tb,gb,qb⟩:=hs.gx g x s;obtain rfl:M=b:=by rw[hb]at I;exact(zx I).symm
 have h0:∀k,k<w.heap.size->(fun k=>if k<w.heap.size then D k else g+1) k=D k:=fun k hk=>by simp[hk]
 refine⟨?_,?_,?_,hs.inj,.inl hs.fp,?_⟩
 .refine hs.hx.of (R.block p hs.hx.lt ?_);rintro(e|⟨_,e⟩)
  .exact hs.hx.fN gb e
  .rw[hs.tp]at e;omega
 .intro k hk;by_cases e:k=g
  .subst e;rw[yO]at hk;cases hk
  .rw[yJ h y e]at hk;exact hs.eK k hk
 .intro k z N;by_cases e:k=g
  .subst e;rw[yO]at N;cases N;refine⟨M,hb,.inl r,by rw[if_pos gb.lt];exact tb,l,n.mono fun j H A=>?_⟩;rcases A with⟨E,G⟩|⟨E,G⟩
   .by_cases Z:j<w.heap.size
    .exact⟨.inl E,by rw[if_pos Z];exact G⟩
    .exact⟨.inl E,by rw[if_neg Z]⟩
   .exact⟨.inr ⟨E,G⟩,by rw[if_neg (by omega)]⟩
  .rw[yJ h y e]at N;obtain⟨c,Y,f,a,U,o⟩:=hs.gx k z N;have O:c≠M:=fun B=>e (hs.inj k g M (B▸Y) hb);have T:∀j,j<w.heap.size->F j/\D j=k+1->w'.heap[j]?=w.heap[j]?:=fun j H A=>R.block j H (by
    rintro(B|⟨_,B⟩)
    .rw[B,tb]at A;omega
    .rw[A.2]at B;omega)
   refine⟨c,Y,.inl f,by rw[if_pos U.lt];exact a,U.of (R.block c U.lt (by rintro(B|⟨_,B⟩);exact O B;rw[a]at B;omega)),?_⟩;obtain⟨m,t,X,d,ov,V⟩:=o;have u:QS w' (fun j=>F j/\D j=k+1/\j<w.heap.size) (J k) m t X d ov z.q:=(V.mono fun j H A=>⟨A.1,A.2,H⟩).kept fun j H A=>T j H ⟨A.1,A.2.1⟩;exact⟨m,t,X,d,ov,u.mono fun j H A=>⟨.inl A.1,by rw[if_pos A.2.2];exact A.2.1⟩⟩
 .show(if p<w.heap.size then D p else g+1)=0;rw[if_pos hs.hx.lt];exact hs.tp
theorem Ext.trans{a b c:zu}(h1:a.heap.size<=b.heap.size)(h2:b.heap.size<=c.heap.size)(k:Nat)(h:Ext (Ext F a b) b c k):Ext F a c k:=by
 rcases h with(h|⟨B,A⟩)|⟨B,A⟩
 .exact .inl h
 .exact .inr ⟨B,by omega⟩
 .exact .inr ⟨by omega,A⟩
theorem TW.at{credit gran:Int}{ps:Nat->Option Nat}(h:TW w p credit gran ps){k:Nat}(hk:k<32):w.cell? ⟨p,2+k,zp⟩=zo (ze ((ps k).map fun b=>⟨b,0,zp⟩)):=by rw[Nat.add_comm];exact h.cs k hk
theorem Ks(w:zu)(p k:Nat)(credit gran:Int)(ps:Nat->Option Nat)(h:TW w p credit gran ps)(hk:k<32):
 zw prog 120 #[ze (zo ⟨p,0,zp⟩),zd zj k] w fun z w'=>z=zm (ze ((ps k).map fun b=>⟨b,0,zp⟩))/\w'=w:=by
 have B:=h.at hk;obtain⟨v,A⟩:=yB ((ps k).map fun b=>(⟨b,0,zp⟩:Addr))
 rw[<-A]at B ⊢;clear h A;go_enter func120,ntmps120;go_wp2;go_ret;exact⟨rfl,rfl⟩
theorem vO(w:zu)(p k:Nat)(credit gran:Int)(ps:Nat->Option Nat)(h:TW w p credit gran ps)(hk:k<32)(h0:k≠0):
 zw prog 66 #[ze (zo ⟨p,0,zp⟩),zd zj k] w fun z w'=>z=zm (ze ((ps k).map fun b=>⟨b,0,zp⟩))/\w'=w:=by
 have A:=yw (Ks w p k credit gran ps h hk);have hb:((k:Int) == 0)=zt:=beq_eq_false_iff_ne.2 (by omega);obtain⟨v,B⟩:=yB ((ps k).map fun b=>(⟨b,0,zp⟩:Addr))
 rw[<-B]at A ⊢;clear h B;go_enter func66,ntmps66;go_wp2_with fail;refine A.out.mono ?_;rintro z w2 ⟨rfl,D⟩;obtain rfl:=D.symm;go_wp2;go_ret;exact⟨rfl,rfl⟩
theorem Nu(w:zu)(p:Nat):zw prog 66 #[ze (zo ⟨p,0,zp⟩),zd zj 0] w fun z w'=>z=zm (ze zp)/\w'=w:=by go_enter func66,ntmps66;go_wp2;go_ret;exact⟨rfl,rfl⟩
theorem Wm(w:zu)(k:Nat)(hk:k<32):zw prog 123 #[zd zj k] w fun z w'=>z=zm (zd zj (2*k+1))/\w'=w:=by go_enter func123,ntmps123;go_wp2;go_ret;exact⟨by go_num,rfl⟩
theorem Jk(w:zu)(k:Nat)(hk:k<64):zw prog 139 #[zd zj k] w fun z w'=>z=zm (zh zq)/\w'=w:=by
 go_enter func139,ntmps139;go_wp2;go_ret;have hd:decide ((k:Int) <64)=zq:=by simp;omega
 simp[hd]
theorem CB(w:zu)(F:Nat->Prop)(p k:Nat)(h:Hm)(x:Gr)(T:yT w F p h)(M:h.gs k=zo x):zw prog 136 #[ze (zo ⟨p,0,zp⟩),zd zj k] w fun z w'=>z=zm (zd zj x.q.min)/\w'=w:=by
 obtain⟨⟨ps,R,tg,hs⟩,A⟩:=T;have hk:=A.TG k x M;obtain⟨b,H,N,U,G,I⟩:=hs.gx k x M;have J:=yw (Ks w p k h.credit h.gran ps hs.hx hk);rw[H]at J;have D:=yw I;obtain⟨c0,c1,O,c3,c4,c5,c6,c7,c8⟩:=G.c9;obtain⟨q,E⟩:=yB (R k)
 rw[<-E]at O D;clear hs A H N U G I E;go_enter func136,ntmps136;go_wp2_with fail;refine J.out.mono ?_;rintro z V ⟨rfl,B⟩;obtain rfl:=B.symm;go_wp2_with fail;refine(Wi w _ q x.q D.out).mono ?_;rintro z V ⟨rfl,B⟩;obtain rfl:=B.symm;go_wp2;go_ret;exact⟨rfl,rfl⟩
theorem Iq(w:zu)(F:Nat->Prop)(p k:Nat)(h:Hm)(G:yT w F p h)(hk:k<32)(H:h.gs k=zp):zw prog 136 #[ze (zo ⟨p,0,zp⟩),zd zj k] w fun z w'=>z=zm (zd zj 0)/\w'=w:=by obtain⟨⟨ps,qs,tg,hs⟩,A⟩:=G;have B:=hs.eK k H;have D:=yw (Ks w p k h.credit h.gran ps hs.hx hk);rw[B]at D;clear hs A B;go_enter func136,ntmps136;go_wp2_with fail;refine D.out.mono ?_;rintro z w2 ⟨rfl,E⟩;obtain rfl:=E.symm;go_wp2;go_ret;exact⟨rfl,rfl⟩
theorem Nv(w:zu)(F:Nat->Prop)(p k:Nat)(h:Hm)(x:Gr)(N:yT w F p h)(G:h.gs k=zo x)(I:k≠0):zw prog 31 #[ze (zo ⟨p,0,zp⟩),zd zj k] w fun z w'=>z=zm (zh x.st)/\w'=w:=by obtain⟨⟨ps,qs,tg,hs⟩,A⟩:=N;have hk:=A.TG k x G;obtain⟨b,D,H,O,B,J⟩:=hs.gx k x G;have E:=yw (vO w p k h.credit h.gran ps hs.hx hk I);rw[D]at E;obtain⟨c0,c1,c2,c3,c4,c5,c6,c7,c8⟩:=B.c9;clear hs A D H O B J;go_enter func31,ntmps31;go_wp2_with fail;refine E.out.mono ?_;rintro z w2 ⟨rfl,M⟩;obtain rfl:=M.symm;go_wp2;go_ret;exact⟨rfl,rfl⟩
theorem uO{P:Program}(w:zu){A:Array Oper}{rest:List Oper}{o:Oper}{a:Act}{Q:Exit->Act->zu->Prop}(I:o.guard=zp)(t:TypeId)(x:Operand)(E:o.op=Op.load t x)(G v:zz)(J:a.eval x=G)
 (B:(Go.Instr.loadAt t G).run P w=.ok v w) (H:wpList P A Q rest (a.put o.dst v) w):wpList P A Q (o::rest) a w:=by
 refine wpList_plain I fun K D=>?_;unfold Oper.wp;simp[execOp,E,J,B,Result.andThen];exact D _ _ H
theorem Pm(fn:Nat->zz)(k:Nat)(h:k<32):(((List.range 32).map fn).toArray)[k]?=zo (fn k):=by rw[List.getElem?_toArray,List.getElem?_map,List.getElem?_range h];rfl
theorem NN(x y p:Nat)(N:x*y=p)(I:x<18446744073709551616)(H:y<18446744073709551616)(w:zu):
 zw prog 191 #[zd zk x,zd zk y] w fun e w'=>e=zm (zi #[zd zk ((p/18446744073709551616:Nat):Int),zd zk ((p%18446744073709551616:Nat):Int)])/\w=w':=by
 obtain⟨bd,J,M,E⟩:=Lib.mul64_hi x y I H;have ba:=Lib.half_mul_le (a:=x/4294967296) (b:=y/4294967296) (by omega) (by omega);have bb:=Lib.half_mul_le (a:=x/4294967296) (b:=y%4294967296) (by omega) (by omega);have bc:=Lib.half_mul_le (a:=x%4294967296) (b:=y/4294967296) (by omega) (by omega);have G:x/4294967296*(y/4294967296) <18446744073709551616:=by omega
 have A:x/4294967296*(y%4294967296) <18446744073709551616:=by omega
 have B:x%4294967296*(y/4294967296) <18446744073709551616:=by omega
 have D:x/4294967296*(y/4294967296)+(x/4294967296*(y%4294967296)+x%4294967296*(y%4294967296) /4294967296) /4294967296<18446744073709551616:=by omega
 have O:x/4294967296*(y/4294967296)+(x/4294967296*(y%4294967296)+x%4294967296*(y%4294967296) /4294967296) /4294967296+((x/4294967296*(y%4294967296)+x%4294967296*(y%4294967296) /4294967296) %4294967296+x%4294967296*(y/4294967296)) /4294967296<18446744073709551616:=by omega
 subst N;go_enter func191,ntmps191;go_wp2;simp only[Mul64.maskN x I,Mul64.maskN y H,Mul64.divN,Mul64.mulN,Mul64.addN,Mul64.wrapN _ bd,Mul64.wrapN _ A,Mul64.wrapN _ J,Mul64.maskN _ J,Mul64.wrapN _ B,Mul64.wrapN _ M,Mul64.wrapN _ G,Mul64.wrapN _ D,Mul64.wrapN _ O,Mul64.wrapM (x*y)];rw[E];go_ret2;exact⟨rfl,rfl⟩
theorem NO(A y:Int)(w:zu)(B:0<=A/\A<=18446744073709551615)(h2:1<=y/\y<=18446744073709551615):
 zw prog 142 #[zd zk 0,zd zk A,zd zk y] w fun e w'=>e=zm (zi #[zd zk (A/y),zd zk (A%y)])/\Below w.heap.size w w':=by
 have D:¬y=0:=by omega
 have h0:¬y<=0:=by omega
 have h3:(y == 0)=zt:=beq_eq_false_iff_ne.2 D;have hq:=Int.ediv_nonneg B.1 (by omega:0<=y);have h4:A/y<=A:=Int.ediv_le_self _ B.1;have ht:Int.tdiv A y=A/y:=Int.tdiv_eq_ediv_of_nonneg B.1;have RJ:Int.tmod A y=A%y:=Int.tmod_eq_emod_of_nonneg B.1;go_enter func142,ntmps142;go_wp2_with fail;go_quiet (fail);go_wp2;go_ret2;exact⟨rfl,yH (zU _ w) _⟩
def Wx(w:zu)(b:Nat)(x y:Int):Prop:=w.heap[b]?=zo (zn #[zd zk x,zd zk y] 238 (0,0))
theorem Wx.c2{x:Int}(h:Wx w b x y):w.cell? ⟨b,0,zp⟩=zo (zd zk x)/\w.cell? ⟨b,1,zp⟩=zo (zd zk y):=by unfold Wx at h;refine⟨?_,?_⟩<;>simp[zN,h]
theorem Wx.OH{x:Int}(h:Wx w b x y):∀j,w.frozen? ⟨b,j,zp⟩=zt:=by intro j;unfold Wx at h;simp[zY,h]
theorem Wx.lt{x:Int}(h:Wx w b x y):b<w.heap.size:=(yx h).1
theorem Wx.set2{x:Int}(h:Wx w b x y)(u v:Int):Wx ((w.setCell ⟨b,0,zp⟩ (zd zk u)).setCell ⟨b,1,zp⟩ (zd zk v)) b u v:=by have A:(w.setCell ⟨b,0,zp⟩ (zd zk u)).heap[b]?=_:=yD h;exact yD A
theorem Rr(a b:Nat)(w:zu)(X:a<18446744073709551616)(hb:b<18446744073709551616)(h:a*b<18446744073709551616):
 zw prog 141 #[zd zk a,zd zk b] w fun e w'=>e=zm (zg #[zd zk 0,zd zk ((a*b:Nat):Int)])/\Below w.heap.size w w':=by
 obtain⟨p,H⟩:∃p,a*b=p:=⟨_,rfl⟩
 rw[H]at h ⊢;have Z:=yw H;clear H;have M:p/18446744073709551616=0:=by omega
 have I:p%18446744073709551616=p:=by omega
 have Y:=yw M;have T:=yw I;clear M I;go_enter func141,ntmps141;go_upto_region 1 with(fail)
 obtain⟨w1,A⟩:=yB (w.alloc (zn #[zd zk 0,zd zk 0] 238))
 have G:Below w.heap.size w w1:=by rw[A];exact yE w _
 have B:Wx w1 w.heap.size 0 0:=by rw[A];exact heap_alloc_new w _
 obtain⟨m,J⟩:=yB w.heap.size
 have E:w.heap.size<=m:=by omega
 rw[<-A];rw[<-J]at B ⊢;obtain⟨N,D,O⟩:=Qe E B G;clear J G B A E;obtain⟨c0,c1⟩:=D.out.c2;have hf:=D.out.OH;go_wp2_with fail;refine(NN a b p Z.out X hb _).mono ?_;rintro z w2 ⟨rfl,U⟩;obtain rfl:=U;rw[Y.out,T.out];go_wp2;refine bodyPost_ret (v:=zg #[zd zk 0,zd zk p]) ?_ rfl ⟨rfl,?_⟩
 .obtain⟨R,V⟩:=(D.out.set2 0 p).c2;simp[results,results141,go_sem,R,V]
 .exact qd O.out N.out
theorem Fs(a b c:Nat)(w:zu)(V:a<18446744073709551616)(hb:b<18446744073709551616)(hc:1<=c/\c<18446744073709551616)(h:a*b<18446744073709551616):
 zw prog 91 #[zd zk a,zd zk b,zd zk c] w fun e w'=>e=zm (zi #[zd zk ((a*b/c:Nat):Int),zd zk ((a*b%c:Nat):Int),zh zq])/\Below w.heap.size w w':=by
 obtain⟨p,R⟩:∃p,a*b=p:=⟨_,rfl⟩
 have U:=yw (Rr a b w V hb h);rw[R]at h U ⊢;clear R;go_enter func91,ntmps91;go_wp2_with fail;refine U.out.mono ?_;rintro z D ⟨rfl,H⟩;have G:=yw H;clear H;go_upto_region 2 with(fail)
 obtain⟨M,A⟩:=yB (D.alloc (zn #[zd zk 0,zd zk p] 238))
 have J:Below D.heap.size D M:=by rw[A];exact yE D _
 have B:Wx M D.heap.size 0 p:=by rw[A];exact heap_alloc_new D _
 obtain⟨m,T⟩:=yB D.heap.size
 rw[<-A];rw[<-T]at B ⊢;have N:=yw B;have E:=yw (yC G.out J G.out.size);clear T J B A;obtain⟨c0,c1⟩:=N.out.c2;go_wp2_with fail;refine(NO p c _ ⟨by omega,by omega⟩ ⟨by omega,by omega⟩).mono ?_;rintro z w4 ⟨rfl,I⟩;have O:=yw (yC E.out I E.out.size);clear I;go_wp2;go_ret3;simp only[];exact⟨by simp,O.out⟩
theorem Vu(a b c:Int)(w:zu)(E:0<=a/\a<=18446744073709551615)(hb:0<=b/\b<=18446744073709551615)(hc:1<=c/\c<=18446744073709551615)(h:a*b<=18446744073709551615):
 zw prog 91 #[zd zk a,zd zk b,zd zk c] w fun e w'=>e=zm (zi #[zd zk (a*b/c),zd zk (a*b%c),zh zq])/\Below w.heap.size w w':=by
 obtain⟨A,rfl⟩:=Int.eq_ofNat_of_zero_le E.1;obtain⟨B,rfl⟩:=Int.eq_ofNat_of_zero_le hb.1;obtain⟨G,rfl⟩:=Int.eq_ofNat_of_zero_le (by omega:0<=c);have D:A*B<18446744073709551616:=by
  have:((A*B:Nat):Int)<=18446744073709551615:=by rw[Int.natCast_mul];exact h
  omega
 have:=Fs A B G w (by omega) (by omega) ⟨by omega,by omega⟩ D;rw[Int.natCast_ediv,Int.natCast_emod,Int.natCast_mul]at this;exact this
theorem Wn{a b:Int}(A:0<=a/\a<=4294967295)(hb:0<=b/\b<=4294967296):a*b<=18446744073709551615:=by have:=Int.mul_le_mul A.2 hb.2 hb.1 (by omega);omega
