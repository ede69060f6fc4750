/- Parts of the proof of the law TopKeeps: contracts of the functions that it reaches, and plain laws of what they compute. Conditions: those in each statement. -/
import Derived.Defers
import Derived.Shelf.Bits.Mul64
import Derived.Test.YtmgekibncmnmiaaGreatDoorM07
import Derived.Test.YtmgekibncmnmiaaGreatDoorM08
import Derived.Test.YtmgekibncmnmiaaGreatDoorM24
set_option linter.unusedVariables false
set_option maxRecDepth 100000
set_option maxHeartbeats 4000000
open Go.Proofs.Tryz
namespace Go.Proofs.YtmgekibncmnmiaaGreatDoor
open Go Go.RowKit Go.ChangeShapes Go.WideShapes
section
attribute [local go_sem ↓] Go.wp_at_zero Go.wp_at_succ
abbrev xy(e:En):Array Value:=#[.int .i64 e.id,.int .u64 e.w,.int .i64 e.v,.int .u64 e.rem]
def Ex(w:World)(b:Nat)(e:En):Prop:=w.heap[b]?=some (.cells (xy e) 80 (0,0))
theorem Ex.lt{w:World}{b:Nat}{e:En}(h:Ex w b e):b<w.heap.size:=(zd h).1
theorem Ex.c4{w:World}{b:Nat}{e:En}(h:Ex w b e):w.cell? ⟨b,0,none⟩=some (.int .i64 e.id)/\w.cell? ⟨b,1,none⟩=some (.int .u64 e.w)/\w.cell? ⟨b,2,none⟩=some (.int .i64 e.v)/\w.cell? ⟨b,3,none⟩=some (.int .u64 e.rem):=by unfold Ex at h;refine⟨?_,?_,?_,?_⟩ <;> simp[World.cell?,h]
theorem Ex.zpe{w:World}{b:Nat}{e:En}(h:Ex w b e):∀j,w.frozen? ⟨b,j,none⟩=false:=by intro j;unfold Ex at h;simp[World.frozen?,h]
theorem Ex.of{w w':World}{b:Nat}{e:En}(h:Ex w b e)(hb:w'.heap[b]?=w.heap[b]?):Ex w' b e:=hb.trans h
theorem Ex.behind{w w':World}{b:Nat}{e:En}(h:Ex w b e)(hb:Below w.heap.size w w'):Ex w' b e:=h.of (hb.block b h.lt)
theorem Ex.zpP{w:World}{b c o:Nat}{e:En}{u:Value}(h:Ex w b e)(A:b≠c):Ex (w.setCell ⟨c,o,none⟩ u) b e:=h.of (Below.heap_setCell _ _ _ _ (by exact A))
theorem Ex.ztv{w:World}{b:Nat}{e:En}(h:Ex w b e)(n:Int):Ex (w.setCell ⟨b,1,none⟩ (.int .u64 n)) b { e with w:=n }:=zi h
theorem Ex.zsF{w:World}{b:Nat}{e:En}(h:Ex w b e)(n:Int):Ex (w.setCell ⟨b,2,none⟩ (.int .i64 n)) b { e with v:=n }:=zi h
theorem Ex.zrg{w:World}{b:Nat}{e:En}(h:Ex w b e)(n:Int):Ex (w.setCell ⟨b,3,none⟩ (.int .u64 n)) b { e with rem:=n }:=zi h
theorem Ex.new(w:World)(e:En):Ex (w.alloc (.cells (xy e) 80)) w.heap.size e:=heap_alloc_new w _
def Qx(w:World)(q m t:Nat)(cur min A:Int)(B:Bool):Prop:=w.heap[q]?=some (.cells #[.map (some m),.pointer (some ⟨t,0,none⟩),.int .i64 cur,.int .i64 min,.int .u64 A,.bool B] 217 (0,0))
theorem Qx.lt{w:World}{q m t:Nat}{cur min A:Int}{B:Bool}(h:Qx w q m t cur min A B):q<w.heap.size:=(zd h).1
theorem Qx.c6{w:World}{q m t:Nat}{cur min A:Int}{B:Bool}(h:Qx w q m t cur min A B):w.cell? ⟨q,0,none⟩=some (.map (some m))/\w.cell? ⟨q,1,none⟩=some (.pointer (some ⟨t,0,none⟩))/\w.cell? ⟨q,2,none⟩=some (.int .i64 cur)/\w.cell? ⟨q,3,none⟩=some (.int .i64 min)/\w.cell? ⟨q,4,none⟩=some (.int .u64 A)/\w.cell? ⟨q,5,none⟩=some (.bool B):=by unfold Qx at h;refine⟨?_,?_,?_,?_,?_,?_⟩ <;> simp[World.cell?,h]
theorem Qx.zpe{w:World}{q m t:Nat}{cur min A:Int}{B:Bool}(h:Qx w q m t cur min A B):∀j,w.frozen? ⟨q,j,none⟩=false:=by intro j;unfold Qx at h;simp[World.frozen?,h]
theorem Qx.of{w w':World}{q m t:Nat}{cur min A:Int}{B:Bool}(h:Qx w q m t cur min A B)(hb:w'.heap[q]?=w.heap[q]?):Qx w' q m t cur min A B:=hb.trans h
theorem Qx.behind{w w':World}{q m t:Nat}{cur min A:Int}{B:Bool}(h:Qx w q m t cur min A B)(hb:Below w.heap.size w w'):Qx w' q m t cur min A B:=h.of (hb.block q h.lt)
theorem Qx.zpP{w:World}{q m t c o:Nat}{cur min B:Int}{D:Bool}{u:Value}(h:Qx w q m t cur min B D)(A:q≠c):Qx (w.setCell ⟨c,o,none⟩ u) q m t cur min B D:=h.of (Below.heap_setCell _ _ _ _ (by exact A))
theorem Qx.zpG{w:World}{q m t:Nat}{cur min A:Int}{B:Bool}(h:Qx w q m t cur min A B)(n:Int):Qx (w.setCell ⟨q,2,none⟩ (.int .i64 n)) q m t n min A B:=zi h
theorem Qx.setM{w:World}{q m t:Nat}{cur min A:Int}{B:Bool}(h:Qx w q m t cur min A B)(n:Int):Qx (w.setCell ⟨q,3,none⟩ (.int .i64 n)) q m t cur n A B:=zi h
theorem Qx.zpm{w:World}{q m t:Nat}{cur min B:Int}{A:Bool}(h:Qx w q m t cur min B A)(n:Int):Qx (w.setCell ⟨q,4,none⟩ (.int .u64 n)) q m t cur min n A:=zi h
theorem Qx.zsS{w:World}{q m t:Nat}{cur min A:Int}{B:Bool}(h:Qx w q m t cur min A B)(n:Bool):Qx (w.setCell ⟨q,5,none⟩ (.bool n)) q m t cur min A n:=zi h
structure QS(w:World)(F:Nat->Prop)(q m t:Nat)(g:Int->Option Nat)(ld:Int)(ov:Bool)(x:Qu):Prop where
 qx:Qx w q m t x.cur x.min ld ov
 mp:qD w m g x.l.length
 rb:Rb w F t (x.l.map En.key)
 en:∀e∈x.l,∃b,g e.id=some b/\F b/\Ex w b e
 ge:∀k b,g k=some b->∃e∈x.l,e.id=k
 ld:0<=ld/\ld<=18446744073709551615
 om:F m
 oq:F q
 ok:x.Ok
def yA(w:World)(F:Nat->Prop)(q:Nat)(x:Qu):Prop:=∃m t g ld ov,QS w F q m t g ld ov x
theorem QS.kept{w w':World}{F:Nat->Prop}{q m t:Nat}{g:Int->Option Nat}{A:Int}{E:Bool}{x:Qu}(h:QS w F q m t g A E x)(hs:zY F w w'):QS w' F q m t g A E x:=
 ⟨h.qx.of (hs q h.qx.lt h.oq),h.mp.of (hs m h.mp.lt h.om),h.rb.kept hs,fun e he=>by obtain⟨b,G,B,D⟩:=h.en e he;exact⟨b,G,B,D.of (hs b D.lt B)⟩,h.ge,h.ld,h.om,h.oq,h.ok⟩
theorem QS.mono{w:World}{F G:Nat->Prop}{q m t:Nat}{g:Int->Option Nat}{B:Int}{E:Bool}{x:Qu}(h:QS w F q m t g B E x)(A:∀k,k<w.heap.size->F k->G k):QS w G q m t g B E x:=
 ⟨h.qx,h.mp,h.rb.mono A,fun e he=>by obtain⟨b,I,H,D⟩:=h.en e he;exact⟨b,I,A b D.lt H,D⟩,h.ge,h.ld,A m h.mp.lt h.om,A q h.qx.lt h.oq,h.ok⟩
theorem yA.kept{w w':World}{F:Nat->Prop}{q:Nat}{x:Qu}(h:yA w F q x)(hs:zY F w w'):yA w' F q x:=by obtain⟨m,t,g,A,B,h⟩:=h;exact⟨m,t,g,A,B,h.kept hs⟩
theorem yA.mono{w:World}{F G:Nat->Prop}{q:Nat}{x:Qu}(h:yA w F q x)(D:∀k,k<w.heap.size->F k->G k):yA w G q x:=by obtain⟨m,t,g,A,B,h⟩:=h;exact⟨m,t,g,A,B,h.mono D⟩
theorem yA.behind{w w':World}{F:Nat->Prop}{q:Nat}{x:Qu}(h:yA w F q x)(hb:Below w.heap.size w w'):yA w' F q x:=h.kept (.zo7 hb)
def Tb(w:World)(k:Nat):Prop:=∃cs fr,w.heap[k]?=some (.cells cs 283 fr)∨w.heap[k]?=some (.cells cs 341 fr)
theorem Rb.small{w:World}{F:Nat->Prop}{t:Nat}{D:List (Int×Int)}(h:Rb w F t D):Rb w (fun k=>F k/\Tb w k) t D:=by
 obtain⟨⟨T,m,E,B,M,G,I,N⟩,J,hp⟩:=h;have A:∀{T:Tt},T.In w->∀b∈T.bl,Tb w b:=by
  intro T H
  induction T with
  | nil=>intro b hb;simp[Tt.bl]at hb
  | node c v i L l r ihl ihr=>
   obtain⟨g1,g2,g3⟩:=H;intro b hb;simp only[Tt.bl,List.mem_cons,List.mem_append]at hb;rcases hb with rfl | hb | hb
   ·exact⟨_,_,.inr g1⟩
   ·exact ihl g2 b hb
   ·exact ihr g3 b hb
 exact⟨⟨T,m,E,B,M,G,I,fun b hb=>⟨N b hb,A B b hb⟩⟩,⟨J,⟨_,_,.inl E⟩⟩,hp⟩
theorem Ex.zpk{w:World}{b:Nat}{e:En}(h:Ex w b e):¬Tb w b:=by rintro⟨cs,fr,A | A⟩ <;> (unfold Ex at h;rw[h]at A;simp at A)
theorem Qx.zpk{w:World}{q m t:Nat}{cur min B:Int}{D:Bool}(h:Qx w q m t cur min B D):¬Tb w q:=by rintro⟨cs,fr,A | A⟩ <;> (unfold Qx at h;rw[h]at A;simp at A)
theorem qD.isMap{w:World}{b n:Nat}{g:Int->Option Nat}(h:qD w b g n):∃es clock,w.heap[b]?=some (.map es clock):=by obtain⟨D,⟨es,clock,A,_⟩,_⟩:=h.ex;exact⟨es,clock,A⟩
theorem qD.zpk{w:World}{b n:Nat}{g:Int->Option Nat}(h:qD w b g n):¬Tb w b:=by obtain⟨es,clock,B⟩:=h.isMap;rintro⟨cs,fr,A | A⟩ <;> (rw[B]at A;simp at A)
theorem Qx.zpH{w:World}{q m t b n:Nat}{cur min B:Int}{D:Bool}{g:Int->Option Nat}(h:Qx w q m t cur min B D)(hm:qD w b g n):q≠b:=by rintro rfl;obtain⟨es,clock,A⟩:=hm.isMap;unfold Qx at h;rw[h]at A;simp at A
theorem Ex.zpH{w:World}{b c n:Nat}{e:En}{g:Int->Option Nat}(h:Ex w c e)(hm:qD w b g n):c≠b:=by rintro rfl;obtain⟨es,clock,A⟩:=hm.isMap;unfold Ex at h;rw[h]at A;simp at A
theorem Ex.zrh{w:World}{q m t b:Nat}{cur min B:Int}{D:Bool}{e:En}(h:Ex w b e)(A:Qx w q m t cur min B D):b≠q:=by rintro rfl;unfold Qx at A;unfold Ex at h;rw[h]at A;simp at A
theorem zcN(b:Nat)(e:En)(w:World)(h:Ex w b e):Calls prog 204 #[.pointer (some ⟨b,0,none⟩)] w fun z w'=>z=.returned (.agg #[.int .i64 e.v,.int .i64 e.id])/\Below w.heap.size w w':=by
 obtain⟨c0,I,c2,c3⟩:=h.c4;have J:=h.lt;have R:=zc h;clear h;go_enter func204,ntmps204;go_wp2;obtain⟨E,A⟩:=zh ((w.alloc (yg 0 0)).drew)
 have D:Below w.heap.size w E:=by rw[A];exact zv (zk w _)
 have H:Kx E w.heap.size 0 0:=by rw[A];exact Kx.new w 0 0
 have G:=zc (R.out.behind D);obtain⟨m,hm⟩:=zh w.heap.size
 rw[<-hm]at H ⊢;have M:=zc hm;have B:=zc H;have N:=zc D;clear hm D H c0 I c2 c3 J;obtain⟨c0,I,c2,c3⟩:=G.out.c4;have J:=G.out.lt;obtain⟨k0,k1⟩:=B.out.c2;have h0:=B.out.lt;have h2:=B.out.zpe;refine zI 9 (by kernel_rfl) (by kernel_rfl) E A ?_;clear A;simp only[List.take_succ_cons,List.take_zero,List.drop_succ_cons,List.drop_zero]
 repeat still_step
 refine wpStill_nil ?_;go_wp2;refine bodyPost_ret (v:=.agg #[.int .i64 e.v,.int .i64 e.id]) ?_ rfl ⟨rfl,?_⟩
 ·have hs:Kx ((E.setCell ⟨m,0,none⟩ (.int .i64 e.v)).setCell ⟨m,1,none⟩ (.int .i64 e.id)) m e.v e.id:=by have O:(E.setCell ⟨m,0,none⟩ (.int .i64 e.v)).heap[m]?=_:=zi B.out;exact zi O
  obtain⟨g0,g1⟩:=hs.c2;simp[results,results204,go_sem,g0,g1]
 ·exact yy N.out (by rw[M.out];exact zg _)
theorem znJ(w:Int)(W:World)(h1:2<=w)(h2:w<=262144):Calls prog 190 #[.int .u64 w] W fun e A=>e=.returned (.bool true)/\A=W:=by go_enter func190,ntmps190;go_wp2;go_ret;exact⟨rfl,rfl⟩
theorem znK(w:Int)(W:World)(h1:w<2):Calls prog 190 #[.int .u64 w] W fun e A=>e=.returned (.bool false)/\A=W:=by go_enter func190,ntmps190;go_wp2;go_ret;exact⟨rfl,rfl⟩
theorem zl0(w:Int)(W:World)(h1:2<=w)(h2:262144<w):Calls prog 190 #[.int .u64 w] W fun e A=>e=.returned (.bool false)/\A=W:=by
 have h3:decide (w<=262144)=false:=by simp;omega
 go_enter func190,ntmps190;go_wp2;go_ret;exact⟨rfl,rfl⟩
theorem zjB(w:Int)(W:World):Calls prog 190 #[.int .u64 w] W fun e D=>e=.returned (.bool (uZ w))/\D=W:=by
 by_cases A:2<=w
 ·by_cases B:w<=262144
  ·have e:uZ w=true:=by simp[uZ,A,B]
   rw[e];exact znJ w W A B
  ·have e:uZ w=false:=by simp[uZ];omega
   rw[e];exact zl0 w W A (by omega)
 ·have e:uZ w=false:=by simp[uZ];omega
  rw[e];exact znK w W (by omega)
theorem Qu.Ok.new:Qu.new.Ok:=⟨by intro e he;simp[Qu.new]at he,by simp[Qu.new],by simp[Qu.new],.inl rfl,by simp[Qu.new],by simp[Qu.new]⟩
theorem zeu(w:World):Calls prog 69 #[] w fun e w'=>e=.returned (.pointer (some ⟨w.heap.size+2,0,none⟩))/\yA w' (fun k=>w.heap.size<=k) (w.heap.size+2) Qu.new/\Below w.heap.size w w':=by
 have h0:=@run_makeMap prog;go_enter func69,ntmps69;go_wp2_with fail;refine(zlM _).mono ?_;rintro e G ⟨rfl,B,A⟩;have hm:=(qD.new w).of (w':=G) (by rw[A];exact Below.heap_alloc _ _ _ (by simp));have hs:G.heap.size=w.heap.size+2:=by rw[A];simp
 have hb:Below w.heap.size w G:=by rw[A];exact((Below.refl _ w).alloc (zg _) _).alloc (by simp) _
 rw[show(w.alloc (.map #[] 0)).heap.size=w.heap.size+1 by simp]at B ⊢;have M:=zc B;have H:=zc hm;have HS:=zc hs;have I:=zc hb;clear B hm hs hb A;go_wp2;go_ret;have D:=HS.out;refine⟨by rw[D];rfl,?_,I.out.alloc I.out.size _⟩;rw[<-D];have E:=zk G (.cells #[.map (some w.heap.size),.pointer (some ⟨w.heap.size+1,0,none⟩),.int .i64 (-1),.int .i64 0,.int .u64 0,.bool false] 217);refine⟨w.heap.size,w.heap.size+1,fun _=>none,0,false,⟨heap_alloc_new G _,H.out.of (E.block _ H.out.lt),(M.out.behind E).mono fun k _ J=>?_,?_,?_,by omega,zg _,?_,Qu.Ok.new⟩⟩
 ·rw[J];omega
 ·intro e he;simp[Qu.new]at he
 ·intro k b h;cases h
 ·omega
theorem zaj(n:Int):0<=IntKind.u64.wrap n/\IntKind.u64.wrap n<=18446744073709551615:=by simp only[IntKind.wrap,IntKind.signed,IntKind.bits];simp;omega
theorem zl1(m v:Int):Hg.zsu m [v]=max m v:=by unfold Hg.zsu;rw[if_neg (by simp)];simp only[List.length_cons,List.length_nil];rw[Hg.zsO];simp only[List.getD_cons_zero];split <;> omega
def za6(m:Int)(A:List (Int×Int)):Int:=match A with
 | []=>m
 | k::_=>max m k.1
theorem zaG(x:Qu):x.raise.min=za6 x.min (x.l.map En.key):=by unfold Qu.raise za6;cases x.l <;> simp[En.key]
theorem zcO(u:FrameMode)(w:World)(F:Nat->Prop)(q m t:Nat)(cur min f:Int)(d:Bool)(I:List (Int×Int))(h:Qx w q m t cur min f d)(c:Rb w F t I)(N:∀k∈I,zpY k.1)(hm:zpY min):
 CallsD prog 201 #[.pointer (some ⟨q,0,none⟩)] u w fun e o w'=>o=u/\(e=.returned (.tuple #[])/\Qx w' q m t cur (za6 min I) f d/\zo8 (fun k=>k=q) w w'):=by
 have p:=zc (zf7 w F t I c);have g:=zc h;have a:=zc N;obtain⟨c0,V,c2,c3,c4,c5⟩:=h.c6;have X:=h.lt;clear h c N;go_enter_d func201,ntmps201;go_wp2_with fail;refine p.out.mono ?_;rintro e G ⟨rfl,hb⟩;have B:=zc (g.out.behind hb);have U:=zc hb;clear c0 V c2 c3 c4 c5 X hb;obtain⟨c0,V,c2,c3,c4,c5⟩:=B.out.c6;have X:=B.out.lt;have b:=B.out.zpe;cases I with
 | nil=>
  go_wp2;go_end0;exact⟨rfl,B.out.behind (zk G _),zo8.zo7 (U.out.alloc U.out.size _)⟩
 | cons k I=>
  have l:=a.out k (by simp);unfold zpY at l hm;go_wp2_with fail;obtain⟨A,E⟩:=zh (G.alloc (yg k.1 k.2))
  have H:Below G.heap.size G A:=by rw[E];exact zk G _
  have Y:Kx A G.heap.size k.1 k.2:=by rw[E];exact Kx.new G k.1 k.2
  obtain⟨m0,O⟩:=zh G.heap.size
  rw[<-E];rw[<-O]at Y ⊢;have D:=zc (B.out.behind H);have M:=zc (zj U.out H U.out.size);have T:=zc Y;have J:Hid (Hg.zrQ (A.alloc (.cells #[.int .i64 k.1] 2)).drew (some ⟨A.heap.size,0,none⟩) 1 [k.1]):=zc ⟨rfl,by omega,fun j hj=>by
   obtain rfl:j=0:=by omega
   have r:(A.alloc (.cells #[.int .i64 k.1] 2)).heap[A.heap.size]?=_:=heap_alloc_new A _;exact⟨A.heap.size,0,rfl,by simp,by show(A.alloc (.cells #[.int .i64 k.1] 2)).cell? ⟨A.heap.size,0,none⟩=_;unfold World.cell?;rw[r];rfl⟩⟩
  clear E H Y O c0 V c2 c3 c4 c5 X b;obtain⟨c0,V,c2,c3,c4,c5⟩:=D.out.c6;have X:=D.out.lt;have b:=D.out.zpe;obtain⟨k0,k1⟩:=T.out.c2;have h0:=T.out.lt;go_region_with
   ((go_at_call 235;refine(Hg.zsl min (some ⟨A.heap.size,0,none⟩) 1 1 [k.1] _ J.out).mono ?_;rintro e w4 ⟨rfl,n,rfl⟩;rw[zl1]))
  all_goals
   go_wp2;go_end0;have R:=zp (zk A (.cells #[.int .i64 k.1] 2)) (1+n);have Z:zo8 (fun z=>z=q) w _:=zo8.zo7 (zj M.out R M.out.size);exact⟨rfl,(D.out.behind R).setM (max min k.1),Z.setCell (.inl rfl) _⟩
theorem QS.get_none{w:World}{F:Nat->Prop}{q m t:Nat}{g:Int->Option Nat}{A:Int}{D:Bool}{x:Qu}(h:QS w F q m t g A D x){i:Int}(B:x.get i=none):g i=none:=by
 cases hg:g i with
 | none=>rfl
 | some b=>obtain⟨e,he,hid⟩:=h.ge i b hg;exact absurd hid (Go.Proofs.YtmgekibncmnmiaaGreatDoor.get_none B e he)
theorem zev(e:En)(w:World)(F:Nat->Prop)(q:Nat)(x:Qu)(h:yA w F q x)(he:e.Ok)(hg:x.get e.id=none)(hlen:x.l.length<128):
 Calls prog 184 #[.pointer (some ⟨q,0,none⟩),.agg (xy e)] w fun z w'=>z=.returned (.int .i64 0)/\yA w' (Ext F w w') q ({ x with l:=vE e x.l }:Qu).raise/\zo8 F w w':=by
 obtain⟨m,t,g,K,ov,hq⟩:=h;obtain⟨y,hy⟩:∃y,y=({ x with l:=vE e x.l }:Qu).raise:=⟨_,rfl⟩
 rw[<-hy];have HY:=zc hy;obtain⟨Hj,k2,Ho,Ht⟩:=he;have HE:Hid e.Ok:=zc ⟨Hj,k2,Ho,Ht⟩;have HQ:=zc hq;have HG:=zc hg;have h9:=hq.get_none hg;have hI:zpY e.id:=by unfold zpY;omega
 obtain⟨w1,P⟩:=zh (w.alloc (.cells (xy e) 80))
 have u:Below w.heap.size w w1:=by rw[P];exact zk w _
 have H0:Ex w1 w.heap.size e:=by rw[P];exact Ex.new w e
 have O:=zc (hq.kept (.zo7 u));have Y:=zc H0;have Hc:=zc u;have Hk:∀n,(Instr.lookup 213 (.map (some m)) (.int .i64 e.id) false).run prog (w1.drewN n)=.ok (.pointer none) (w1.drewN n):=fun n=>by have:=(O.out.mp.of (w':=w1.drewN n) rfl).look hI;rw[h9]at this;exact this
 have Hi:∀n ty,(Builtin.len_ #[213] ty #[.map (some m)]).run prog (w1.drewN n)=.ok (.int .i64 x.l.length) (w1.drewN n):=fun n ty=>(O.out.mp.of (w':=w1.drewN n) rfl).len ty;have h7:((x.l.length:Int) == 128)=false:=beq_eq_false_iff_ne.2 (by omega);have hx:uZ e.w=true:=by simp[uZ];omega
 have Hg:=zc hx;have HI:=zc hI;have Hz:=zc h9;have p:=zc hlen;obtain⟨c0,C,c2,c3,c4,c5⟩:=O.out.qx.c6;have H:=O.out.qx.lt;have M:=O.out.qx.zpe;obtain⟨B,hB⟩:=zh w.heap.size
 rw[<-hB]at Y;have k0:=zc hB;obtain⟨e0,e1,e2,e3⟩:=Y.out.c4;have h4:=Y.out.lt;have Hr:=Y.out.zpe;clear hy hq hg h9 hI u H0 hlen hx;go_enter_defers func184,ntmps184;go_wp2_with fail;rw[<-hB];rw[show w.alloc (.cells (xy e) 80)=w1 from P.symm];clear P hB;refine(zjB _ _).mono ?_;rintro z J ⟨rfl,hw⟩;obtain rfl:=hw.symm;rw[Hg.out];go_wp2_with fail;go_quiet (fail);go_wp2_with fail;obtain⟨J,Z⟩:=zh ((w1.drewN nq).drew)
 have h8:zY F w1 J:=by rw[Z];exact fun k _ _=>rfl
 have A:=zc (O.out.kept h8);have G:Hid (Ex J B e):=zc (by rw[Z];exact Y.out);have H5:Hid (Below w.heap.size w J):=zc (by rw[Z];exact zp Hc.out (nq+1));clear h8 Hk Hi c0 C c2 c3 c4 c5 H M e0 e1 e2 e3 h4 Hr h7 O Y Hc;obtain⟨c0,C,c2,c3,c4,c5⟩:=A.out.qx.c6;have H:=A.out.qx.lt;obtain⟨e0,e1,e2,e3⟩:=G.out.c4;have h4:=G.out.lt;refine zI 6 (by kernel_rfl) (by kernel_rfl) J Z ?_;clear Z;simp only[List.take_succ_cons,List.take_zero,List.drop_succ_cons,List.drop_zero]
 repeat still_step
 refine wpStill_nil ?_;obtain⟨D,H9,hv,Hf⟩:=A.out.mp.ex;have hc:=zc H9;have ht:=zc hv;have hz:=zc Hf;clear H9 hv Hf;refine wpList_mapUpdate_own _ rfl _ _ _ 213 rfl 3 290 xw underlying213 zst m x.l.length D (by rfl) hc.out (by have:=p.out;unfold maxLen;omega) _ _ _ (by rfl) (by rfl) (vF HI.out) (.lit (.int .i64 B)) [] (znA B) ?_;intro U d V;have He:=zc (qD.stored HI.out Hz.out hc.out ht.out hz.out d);have c:zo8 (fun z=>z=m) J U:=(zo8.refl (fun z=>z=m) J).grown V fun k E=>.inl (by cases E;rfl);have hn:=zc c;have W:=zc (A.out.qx.of (c.block q A.out.qx.lt (A.out.qx.zpH A.out.mp)))
 have hj:=zc (G.out.of (c.block B G.out.lt (G.out.zpH A.out.mp)));have Hu:=zc (A.out.rb.small.kept (w':=U) (zY.zpK c fun k E e=>A.out.mp.zpk (e▸E.2)));clear d V hc ht hz c c0 C c2 c3 c4 c5 H e0 e1 e2 e3 h4;obtain⟨c0,C,c2,c3,c4,c5⟩:=W.out.c6;have H:=W.out.lt;have M:=W.out.zpe;go_wp2_with fail;go_region_held3 (fun w'=>w'.cell? ⟨q,1,none⟩=some (.pointer (some ⟨t,0,none⟩))) (go_keep)
  (first
   | (
    go_at_call 204;refine(zcN B e U.drew hj.out).mono ?_;rintro z X ⟨rfl,hl⟩;have R:=zc hl;have T:=zc ((show Qx U.drew q m t x.cur x.min K ov from W.out).behind hl);clear hl c0 C c2 c3 c4 c5 H M;obtain⟨c0,C,c2,c3,c4,c5⟩:=T.out.c6;have H:=T.out.lt;have M:=T.out.zpe)
   | (
    go_at_call 205;refine(zcm e.v e.id X _ t (x.l.map En.key) (Hu.out.kept (w':=X) (zY.zo7 (w:=U.drew) R.out)) ?_ ?_).mono ?_
    ·rintro hm;obtain⟨a,r,E⟩:=List.mem_map.1 hm;exact Go.Proofs.YtmgekibncmnmiaaGreatDoor.get_none HG.out a r (congrArg Prod.snd E)
    ·have:=p.out;simp;omega
    rintro z w5 ⟨rfl,H8,L⟩;have Hd:=zc H8;have H6:=zc L;have j:=zc (T.out.of (L.block q T.out.lt (fun E=>A.out.qx.zpk E.2)));have Ha:=zc (((show Ex U.drew B e from hj.out).behind R.out).of (L.block B ((show Ex U.drew B e from hj.out).behind R.out).lt (fun E=>G.out.zpk E.2)));clear H8 L c0 C c2 c3 c4 c5 H M;obtain⟨c0,C,c2,c3,c4,c5⟩:=j.out.c6;have H:=j.out.lt;have M:=j.out.zpe))
 go_wp2_with fail;obtain⟨I,N⟩:=zh w5.drew
 have S:Hid (Qx I q m t x.cur x.min K ov):=zc (by rw[N];exact j.out);have Hb:Hid (Ex I B e):=zc (by rw[N];exact Ha.out);have Hh:Hid (Rb I (Ext (fun k=>F k/\Tb J k) X w5) t (qE e.key (x.l.map En.key))):=zc (by rw[N];exact Hd.out.kept (fun k _ _=>rfl));have h6:Hid (zo8 (fun k=>F k/\Tb J k) X I):=zc (by rw[N];exact H6.out.drew);have ho:Hid (I.heap.size=w5.heap.size):=zc (by rw[N];rfl);have k7:=A.out.ld;clear c0 C c2 c3 c4 c5 H M Hd H6 j Ha;obtain⟨c0,C,c2,c3,c4,c5⟩:=S.out.c6;have H:=S.out.lt;have M:=S.out.zpe;obtain⟨e0,e1,e2,e3⟩:=Hb.out.c4;have h4:=Hb.out.lt
 refine zI 9 (by kernel_rfl) (by kernel_rfl) I N ?_;clear N;simp only[List.take_succ_cons,List.take_zero,List.drop_succ_cons,List.drop_zero]
 repeat still_step
 refine wpStill_nil ?_;go_wp2;have hh:=zc (A.out.ok.put HE.out HG.out p.out);have Hv:Hid (Qx (I.setCell ⟨q,4,none⟩ (.int .u64 (IntKind.u64.wrap (K+e.w)))) q m t x.cur x.min (IntKind.u64.wrap (K+e.w)) ov):=zc (S.out.zpm _);have H2:Hid (Rb (I.setCell ⟨q,4,none⟩ (.int .u64 (IntKind.u64.wrap (K+e.w)))) (Ext (fun k=>F k/\Tb J k) X w5) t (qE e.key (x.l.map En.key))):=zc (Hh.out.kept fun k E Q=>Below.heap_setCell _ _ _ _ (by
  show k≠q;rintro rfl;rcases Q with Q | Q
  ·exact A.out.qx.zpk Q.2
  ·have:=T.out.lt;omega))
 refine leaves_cons (f:=201) (args:=#[.pointer (some ⟨q,0,none⟩)]) (by simp) (by simp[go_sem]) ?_;refine(zcO .returning _ _ q m t x.cur x.min _ ov (qE e.key (x.l.map En.key)) Hv.out H2.out ?_ ?_).mono ?_
 ·intro k E;rw[<-qT]at E;obtain⟨a,r,rfl⟩:=List.mem_map.1 E;exact(hh.out.zpR a r).v
 ·exact hh.out.min
 rintro z u' w8 ⟨rfl,rfl,Hy,s⟩;have hy:=HY.out;have Hs:zo8 F X (I.setCell ⟨q,4,none⟩ (.int .u64 (IntKind.u64.wrap (K+e.w)))):=(h6.out.mono fun k E=>E.1).setCell (.inl A.out.oq) _;have hr:zo8 F X w8:=Hs.trans s fun k E=>.inl (E▸A.out.oq);have h0:zo8 F J X:=(hn.out.mono fun k E=>E▸A.out.om).trans (have h:=zo8.zo7 (F:=F) R.out;⟨h.os,h.tape,h.output,h.size,h.block⟩:zo8 F U X) fun k E=>.inl E;have hT:zo8 F w w8:=((zo8.zo7 H5.out).trans h0 fun k E=>.inl E).trans hr fun k E=>.inl E;refine⟨_,results_tmp rfl _ _ _,rfl,?_,hT⟩;have ka:=H5.out.size;have h8:=h0.size;have k5:=s.size;have k9:=h6.out.size;have k8:=R.out.size
 have k6:=hn.out.size;have H7:(I.setCell ⟨q,4,none⟩ (.int .u64 (IntKind.u64.wrap (K+e.w)))).heap.size=I.heap.size:=by simp[World.setCell]
 have Hl:U.drew.heap.size=U.heap.size:=rfl;have k4:=ho.out;have h5:y.l=vE e x.l:=by rw[hy,qt]
 have k3:y.cur=x.cur:=by rw[hy,qU]
 have Hw:y.min=za6 x.min (qE e.key (x.l.map En.key)):=by rw[hy,zaG,qT]
 have hB:w.heap.size<=B:=by rw[k0.out];exact zg _
 have hold:∀k,k<J.heap.size->k≠m->k≠q->¬Tb J k->w8.heap[k]?=J.heap[k]?:=by intro k E h1 h2 h3;have a1:U.heap[k]?=J.heap[k]?:=hn.out.block k E h1;have a2:X.heap[k]?=U.heap[k]?:=R.out.block k (by rw[Hl];omega);have a3:I.heap[k]?=X.heap[k]?:=h6.out.block k (by omega) (fun e=>h3 e.2);have a4:(I.setCell ⟨q,4,none⟩ (.int .u64 (IntKind.u64.wrap (K+e.w)))).heap[k]?=I.heap[k]?:=Below.heap_setCell _ _ _ _ (by exact h2);have a5:=s.block k (by rw[H7];omega) h2;rw[a5,a4,a3,a2,a1]
 refine⟨m,t,yL g e.id (some B),IntKind.u64.wrap (K+e.w),ov,⟨?_,?_,?_,?_,?_,zaj _,.inl A.out.om,.inl A.out.oq,by rw[hy];exact hh.out.raise⟩⟩
 ·rw[k3,Hw];exact Hy
 ·rw[h5,vM];refine He.out.of ?_;have Hp:m<U.heap.size:=He.out.lt;have k1:¬Tb J m:=A.out.mp.zpk;have H4:m≠q:=fun e=>A.out.qx.zpH A.out.mp e.symm;have a2:X.heap[m]?=U.heap[m]?:=R.out.block m Hp;have a3:I.heap[m]?=X.heap[m]?:=h6.out.block m (by omega) (fun e=>k1 e.2);have a4:(I.setCell ⟨q,4,none⟩ (.int .u64 (IntKind.u64.wrap (K+e.w)))).heap[m]?=I.heap[m]?:=Below.heap_setCell _ _ _ _ (by exact H4);have a5:=s.block m (by rw[H7];omega) H4;rw[a5,a4,a3,a2]
 ·rw[h5,qT];refine(H2.out.kept (zY.zpK s fun k E e=>?_)).mono fun k E Q=>?_
  ·subst e;rcases E with E | E
   ·exact A.out.qx.zpk E.2
   ·have:=T.out.lt;omega
  ·rcases Q with Q | Q
   ·exact .inl Q.1
   ·exact .inr ⟨by omega,by omega⟩
 ·intro a r;rw[h5]at r;rcases(yI e x.l a).1 r with rfl | r
  ·have Hn:=G.out.lt;refine⟨B,qR _ _ _,.inr ⟨hB,by omega⟩,G.out.of (hold B Hn (G.out.zpH A.out.mp) (G.out.zrh A.out.qx) G.out.zpk)⟩
  ·obtain⟨b,u,Hq,o⟩:=A.out.en a r;have h7:a.id≠e.id:=Go.Proofs.YtmgekibncmnmiaaGreatDoor.get_none HG.out a r;refine⟨b,by rw[yO _ _ h7];exact u,.inl Hq,o.of (hold b o.lt (o.zpH A.out.mp) (o.zrh A.out.qx) o.zpk)⟩
 ·intro k b E;rw[h5];by_cases H3:k=e.id
  ·exact⟨e,(yI e x.l e).2 (.inl rfl),H3.symm⟩
  ·rw[yO _ _ H3]at E;obtain⟨a,r,hi⟩:=A.out.ge k b E;exact⟨a,(yI e x.l a).2 (.inr r),hi⟩
abbrev zgj(e:En):Obj:=.cells (xy e) 80
abbrev En.zero:En:=⟨0,0,0,0⟩
theorem Ex.ztw{w:World}{b:Nat}{a:En}(h:Ex w b a)(e:En):Ex ((((w.setCell ⟨b,0,none⟩ (.int .i64 e.id)).setCell ⟨b,1,none⟩ (.int .u64 e.w)).setCell ⟨b,2,none⟩ (.int .i64 e.v)).setCell ⟨b,3,none⟩ (.int .u64 e.rem)) b e:=by have D:(w.setCell ⟨b,0,none⟩ (.int .i64 e.id)).heap[b]?=_:=zi h;have B:=zi (i:=1) (u:=.int .u64 e.w) D;have A:=zi (i:=2) (u:=.int .i64 e.v) B;exact zi (i:=3) (u:=.int .u64 e.rem) A
theorem qV{F:Nat->Prop}{b:Nat}{a w:World}{u0 u1 u2 u3:Value}(h:zo8 F a w)(hb:F b∨a.heap.size<=b):zo8 F a ((((w.setCell ⟨b,0,none⟩ u0).setCell ⟨b,1,none⟩ u1).setCell ⟨b,2,none⟩ u2).setCell ⟨b,3,none⟩ u3):=(((h.setCell (by exact hb) _).setCell (by exact hb) _).setCell (by exact hb) _).setCell (by exact hb) _
theorem QS.zso{w:World}{F:Nat->Prop}{q m t:Nat}{g:Int->Option Nat}{A:Int}{G:Bool}{x:Qu}(h:QS w F q m t g A G x){i:Int}{e:En}(E:x.get i=some e):∃b,g i=some b/\F b/\Ex w b e:=by obtain⟨D,B⟩:=yh E;obtain⟨b,hb⟩:=h.en e D;rw[B]at hb;exact⟨b,hb⟩
theorem za7(i:Int)(e:En)(w:World)(F:Nat->Prop)(q:Nat)(x:Qu)(h:yA w F q x)(hg:x.get i=some e):
 Calls prog 185 #[.pointer (some ⟨q,0,none⟩),.int .i64 i] w fun z w'=>z=.returned (.tuple #[.agg (xy e),.int .i64 0])/\yA w' F q (x.drop i)/\zo8 F w w':=by
 obtain⟨m,t,g,ld,ov,hq⟩:=h;obtain⟨y,hy⟩:∃y,y=({ l:=zpq i x.l,cur:=if x.cur=i then -1 else x.cur,min:=x.min }:Qu).raise:=⟨_,rfl⟩
 have ki:x.drop i=y:=by rw[hy];unfold Qu.drop;rw[hg]
 rw[ki];have HY:=zc hy;obtain⟨ho,hid⟩:=yh hg;have K3:=hq.ok.zpR e ho;obtain⟨Kc,Ki,Kd,Ke⟩:=K3;have hI:zpY i:=by unfold zpY;rw[<-hid];omega
 obtain⟨b,k8,ko,kn⟩:=hq.zso hg;have HQ:=zc hq;have HG:=zc hg;have He:=zc hid;have j:=zc ho;have HI:=zc hI;have K1:=zc k8;have Kg:=zc ko;have H9:=hq.ok.len;have ke:=zc H9;obtain⟨w1,Hc⟩:=zh (w.alloc (zgj En.zero))
 have T:Below w.heap.size w w1:=by rw[Hc];exact zk w _
 have Hl:Ex w1 w.heap.size En.zero:=by rw[Hc];exact Ex.new w En.zero
 have hx:=zc (hq.kept (.zo7 T));have Hj:=zc (kn.behind T);have k1:=zc T;have K0:(Instr.lookup 213 (.map (some m)) (.int .i64 i) false).run prog w1=.ok (.pointer (some ⟨b,0,none⟩)) w1:=by have:=hx.out.mp.look hI;rw[k8]at this;exact this
 obtain⟨c0,c1,c2,c3,c4,c5⟩:=hx.out.qx.c6;have O:=hx.out.qx.lt;have p:=hx.out.qx.zpe;obtain⟨R,hR⟩:=zh w.heap.size
 rw[<-hR]at Hl;have H0:=zc hR;have Hr:=zc Hl;obtain⟨e0,e1,e2,e3⟩:=Hj.out.c4;have Hi:=Hj.out.lt;have kq:=Hl.lt;clear hy hq hg hI T kn ki hid ho k8 ko H9 Hl;go_enter_defers func185,ntmps185;go_upto_region 1 with(fail)
 rw[<-hR];rw[show w.alloc (.cells #[.int .i64 0,.int .u64 0,.int .i64 0,.int .u64 0] 80)=w1 from Hc.symm];clear Hc hR;go_upto_region 5 with(fail)
 obtain⟨G,Ha⟩:=zh (w1.alloc (zgj e))
 have s:Below w1.heap.size w1 G:=by rw[Ha];exact zk w1 _
 have Hv:Ex G w1.heap.size e:=by rw[Ha];exact Ex.new w1 e
 obtain⟨L,hL⟩:=zh w1.heap.size
 rw[show w1.alloc (.cells #[.int .i64 e.id,.int .u64 e.w,.int .i64 e.v,.int .u64 e.rem] 80)=G from Ha.symm,<-hL];rw[<-hL]at Hv;have A:=zc (hx.out.kept (.zo7 s));have Kh:=zc (Hj.out.behind s);have Hf:=zc (zj k1.out s k1.out.size);have Q:=zc (Hr.out.behind s);have Hh:=zc Hv;have K8:Hid (w.heap.size<L):=zc (by have h1:=Hr.out.lt;have h2:=H0.out;omega);clear Ha hL s Hv K0 c0 c1 c2 c3 c4 c5 O p e0 e1 e2 e3 Hi kq hx Hj k1 Hr;obtain⟨c0,c1,c2,c3,c4,c5⟩:=A.out.qx.c6;have O:=A.out.qx.lt;obtain⟨D,ku,km,kz⟩:=A.out.mp.ex;have Hu:=zc ku;have kk:=zc km;have kp:=zc kz;clear ku km kz
 go_wp2_with (at_delete;refine wpList_delete_own _ rfl _ _ 213 3 rfl 290 xw underlying213 zst m x.l.length D (by rfl) Hu.out _ _ (by rfl) (vF HI.out) ?_);intro U h6 h5;have Hk:=zc (qD.dropped HI.out K1.out Hu.out kk.out kp.out h6);have H2:zo8 (fun z=>z=m) G U:=(zo8.refl (fun z=>z=m) G).grown h5.grown fun k B=>.inl (by cases B;rfl);have S:=zc H2;have Hg:=zc (A.out.qx.of (H2.block q A.out.qx.lt (A.out.qx.zpH A.out.mp)));have k3:=zc (Hh.out.of (H2.block L Hh.out.lt (Hh.out.zpH A.out.mp)));have kh:=zc (A.out.rb.small.kept (w':=U) (zY.zpK H2 fun k B e=>A.out.mp.zpk (e▸B.2)))
 clear h6 h5 Hu kk kp H2 c0 c1 c2 c3 c4 c5 O;obtain⟨c0,c1,c2,c3,c4,c5⟩:=Hg.out.c6;have O:=Hg.out.lt;have p:=Hg.out.zpe;go_wp2_with fail;go_region_held3 (fun w'=>w'.cell? ⟨q,1,none⟩=some (.pointer (some ⟨t,0,none⟩))) (go_keep)
  (first
   | (
    go_at_call 204;refine(zcN L e U.drew k3.out).mono ?_;rintro z d ⟨rfl,k9⟩;have N:=zc k9;have H7:=zc ((show Qx U.drew q m t x.cur x.min ld ov from Hg.out).behind k9);clear k9 c0 c1 c2 c3 c4 c5 O p;obtain⟨c0,c1,c2,c3,c4,c5⟩:=H7.out.c6;have O:=H7.out.lt;have p:=H7.out.zpe)
   | (
    go_at_call 203;refine(zcn e.v e.id d _ t (x.l.map En.key) (kh.out.kept (w':=d) (zY.zo7 (w:=U.drew) N.out)) ?_ ?_).mono ?_
    ·exact List.mem_map.2 ⟨e,j.out,rfl⟩
    ·have:=ke.out;simp;omega
    rintro z w5 ⟨rfl,ks,Hb⟩;have ky:=zc ks;have kr:=zc Hb;have H5:=zc (H7.out.of (Hb.block q H7.out.lt (fun B=>A.out.qx.zpk B.2)));have kv:=zc (((show Ex U.drew L e from k3.out).behind N.out).of (Hb.block L ((show Ex U.drew L e from k3.out).behind N.out).lt (fun B=>Hh.out.zpk B.2)));clear ks Hb c0 c1 c2 c3 c4 c5 O p;obtain⟨c0,c1,c2,c3,c4,c5⟩:=H5.out.c6;have O:=H5.out.lt;have p:=H5.out.zpe))
 go_wp2_with fail;obtain⟨w6,W⟩:=zh w5.drew
 have h8:Hid (Qx w6 q m t x.cur x.min ld ov):=zc (by rw[W];exact H5.out);have H3:Hid (Ex w6 L e):=zc (by rw[W];exact kv.out);have kl:Hid (Rb w6 (fun k=>F k/\Tb G k) t ((x.l.map En.key).erase e.key)):=zc (by rw[W];exact ky.out.kept (fun k _ _=>rfl));have ka:Hid (zo8 (fun k=>F k/\Tb G k) d w6):=zc (by rw[W];exact kr.out.drew);have Kb:Hid (w6.heap.size=w5.heap.size):=zc (by rw[W];rfl);have K2:=A.out.ld;clear c0 c1 c2 c3 c4 c5 O p ky kr H5 kv;obtain⟨c0,c1,c2,c3,c4,c5⟩:=h8.out.c6;have O:=h8.out.lt;have p:=h8.out.zpe;obtain⟨e0,e1,e2,e3⟩:=H3.out.c4;have Hi:=H3.out.lt;refine zI 9 (by kernel_rfl) (by kernel_rfl) w6 W ?_
 clear W;simp only[List.take_succ_cons,List.take_zero,List.drop_succ_cons,List.drop_zero]
 repeat still_step
 refine wpStill_nil ?_;go_upto_region 8 with(fail)
 obtain⟨ln,Ho⟩:=zh (IntKind.u64.wrap (ld-e.w))
 have kt:Hid (0<=ln/\ln<=18446744073709551615):=zc (by rw[Ho];exact zaj _);rw[<-Ho];obtain⟨w7,hh⟩:=zh (w6.setCell ⟨q,4,none⟩ (.int .u64 ln))
 have hl:Hid (Ex w6 R En.zero):=zc (by have Hd:U.drew.heap.size=U.heap.size:=rfl;have kj:=S.out.size;have h3:=Q.out.of (S.out.block R Q.out.lt (Q.out.zpH A.out.mp));have h4:Ex d R En.zero:=(show Ex U.drew R En.zero from h3).behind N.out;exact h4.of (ka.out.block R h4.lt (fun B=>Q.out.zpk B.2)))
 have hc:Hid (Qx w7 q m t x.cur x.min ln ov):=zc (by rw[hh];exact h8.out.zpm _);have k5:Hid (Ex w7 L e):=zc (by rw[hh];exact H3.out.zpP (H3.out.zrh h8.out));have hz:Hid (Ex w7 R En.zero):=zc (by rw[hh];exact hl.out.zpP (hl.out.zrh h8.out));have H8:Hid (Rb w7 (fun k=>F k/\Tb G k) t ((x.l.map En.key).erase e.key)):=zc (by rw[hh];exact kl.out.kept fun k B hf=>Below.heap_setCell _ _ _ _ (by show k≠q;rintro rfl;exact A.out.qx.zpk hf.2))
 have kx:Hid (zo8 (fun k=>(F k/\Tb G k)∨k=q) d w7):=zc (by rw[hh];exact(ka.out.mono fun k B=>.inl B).setCell (.inl (.inr rfl)) _);rw[<-hh];clear hh Ho c0 c1 c2 c3 c4 c5 O p e0 e1 e2 e3 Hi K2 h8 H3 kl ka hl;obtain⟨c0,c1,c2,c3,c4,c5⟩:=hc.out.c6;have O:=hc.out.lt;have p:=hc.out.zpe;obtain⟨e0,e1,e2,e3⟩:=k5.out.c4;have Hi:=k5.out.lt;obtain⟨r0,r1,r2,r3⟩:=hz.out.c4;have kq:=hz.out.lt;have Kf:=hz.out.zpe;have n1:¬L=q:=k5.out.zrh hc.out;have n2:¬R=q:=hz.out.zrh hc.out;have n3:¬q=L:=fun e=>n1 e.symm;have n4:¬q=R:=fun e=>n2 e.symm;have n5:¬L=R:=by have:=K8.out;have:=H0.out;omega
 have n6:¬R=L:=fun e=>n5 e.symm;by_cases r:x.cur=i
 ·have K7:(x.cur == i)=true:=beq_iff_eq.2 r;have hn:=zc r;clear r;go_wp2;obtain⟨n,H⟩:=zh (w7.setCell ⟨q,2,none⟩ (.int .i64 (-1)))
  have k7:y.cur= -1:=by rw[HY.out,qU];simp[hn.out]
  have k4:Qx n q m t y.cur x.min ln ov:=by rw[H,k7];exact hc.out.zpG (-1)
  have Hq:Ex n R En.zero:=by rw[H];exact hz.out.zpP n2
  have hv:Rb n (fun k=>F k/\Tb G k) t ((x.l.map En.key).erase e.key):=by rw[H];exact H8.out.kept fun k B hf=>Below.heap_setCell _ _ _ _ (by show k≠q;rintro rfl;exact A.out.qx.zpk hf.2)
  have H6:zo8 (fun k=>(F k/\Tb G k)∨k=q) d n:=by rw[H];exact kx.out.setCell (.inl (.inr rfl)) _
  have kb:n.heap.size=w7.heap.size:=by rw[H];simp[World.setCell]
  rw[<-H];clear H;have Hy:=A.out.ok.zpq i;have kd:=j.out;have h0:∀k,(F k/\Tb G k)->k≠q:=fun k B e=>A.out.qx.zpk (e▸B.2);have hj:¬Tb G R:=Q.out.zpk;have P:=((((k4.zpP n4 (o:=0) (u:=.int .i64 e.id)).zpP n4 (o:=1) (u:=.int .u64 e.w)).zpP n4 (o:=2) (u:=.int .i64 e.v)).zpP n4 (o:=3) (u:=.int .u64 e.rem))
  have X:=Hq.ztw e;have J:zo8 (fun k=>((F k/\Tb G k)∨k=q)∨k=R) d _:=qV (b:=R) (u0:=.int .i64 e.id) (u1:=.int .u64 e.w) (u2:=.int .i64 e.v) (u3:=.int .u64 e.rem) (H6.mono fun k B=>.inl B) (.inl (.inr rfl));have I:Rb ((((n.setCell ⟨R,0,none⟩ (.int .i64 e.id)).setCell ⟨R,1,none⟩ (.int .u64 e.w)).setCell ⟨R,2,none⟩ (.int .i64 e.v)).setCell ⟨R,3,none⟩ (.int .u64 e.rem)) (fun k=>F k/\Tb G k) t ((x.l.map En.key).erase e.key):=
   hv.kept (zY.zpK (qV (F:=fun k=>k=R) (zo8.refl _ n) (.inl rfl)) fun k B e=>hj (e▸B.2))
  obtain⟨M,Y⟩:=zh (((((n.setCell ⟨R,0,none⟩ (.int .i64 e.id)).setCell ⟨R,1,none⟩ (.int .u64 e.w)).setCell ⟨R,2,none⟩ (.int .i64 e.v)).setCell ⟨R,3,none⟩ (.int .u64 e.rem)))
  have kg:M.heap.size=w7.heap.size:=by rw[Y,<-kb];simp[World.setCell]
  rw[<-Y]at P X J I ⊢;clear Y;refine leaves_cons (f:=201) (args:=#[.pointer (some ⟨q,0,none⟩)]) (by simp) (by simp[go_sem]) ?_;refine(zcO .returning _ _ q m t y.cur x.min _ ov _ P I ?_ A.out.ok.min).mono ?_
  ·intro k B;obtain⟨a,C,rfl⟩:=List.mem_map.1 (List.mem_of_mem_erase B);exact(A.out.ok.zpR a C).v
  rintro z u' h9 ⟨rfl,rfl,ht,E⟩;have hr:Ex h9 R e:=X.of (E.block R X.lt n2);obtain⟨g0,g1,g2,g3⟩:=hr.c4;have Hd:U.drew.heap.size=U.heap.size:=rfl;have K6:=Hf.out.size;have kj:=S.out.size;have K5:=N.out.size;have Ka:=H6.size;have kf:=E.size;have hT:zo8 F w h9:=by
   have Hs:zo8 F G d:=(S.out.mono fun k B=>B▸A.out.om).trans (have h:=zo8.zo7 (F:=F) N.out;⟨h.os,h.tape,h.output,h.size,h.block⟩:zo8 F U d) fun k B=>.inl B;have h2:zo8 F w d:=(zo8.zo7 Hf.out).trans Hs fun k B=>.inl B;have h4:zo8 F w M:=h2.trans J fun k B=>by
    rcases B with(B | rfl) | rfl
    ·exact .inl B.1
    ·exact .inl A.out.oq
    ·exact .inr (by rw[H0.out];exact zg _)
   exact h4.trans E fun k B=>.inl (B▸A.out.oq)
  refine⟨.tuple #[.agg (xy e),.int .i64 0],by simp[results,results185,go_sem,g0,g1,g2,g3],rfl,?_,hT⟩;have hy:=HY.out;have K:y.l=zpq i x.l:=by rw[hy,qt]
  have V:(zpq i x.l).map En.key=(x.l.map En.key).erase e.key:=by rw[<-He.out];exact qy A.out.ok.ids j.out
  have k2:y.min=za6 x.min ((x.l.map En.key).erase e.key):=by rw[hy,zaG,<-V]
  have hlen:(zpq i x.l).length+1=x.l.length:=by rw[<-He.out];exact uE A.out.ok.ids j.out
  have hold:∀k,k<G.heap.size->k≠m->k≠q->k≠R->¬Tb G k->h9.heap[k]?=G.heap[k]?:=by
   intro k B h1 h2 k0 h3;have a1:U.heap[k]?=G.heap[k]?:=S.out.block k B h1;have a2:d.heap[k]?=U.heap[k]?:=N.out.block k (by rw[Hd];omega);have a3:M.heap[k]?=d.heap[k]?:=J.block k (by omega) (fun e=>by
    rcases e with(e | e) | e
    ·exact h3 e.2
    ·exact h2 e
    ·exact k0 e)
   have a5:=E.block k (by omega) h2;rw[a5,a3,a2,a1]
  refine⟨m,t,yL g i none,ln,ov,⟨?_,?_,?_,?_,?_,kt.out,A.out.om,A.out.oq,by rw[hy];exact Hy.raise⟩⟩
  ·rw[k2];exact ht
  ·rw[K];have e1:(zpq i x.l).length=x.l.length-1:=by omega
   rw[e1];refine Hk.out.of ?_;have Ht:m<U.heap.size:=Hk.out.lt;have k6:¬Tb G m:=A.out.mp.zpk;have H4:m≠q:=fun e=>A.out.qx.zpH A.out.mp e.symm;have Hz:m≠R:=fun e=>Q.out.zpH A.out.mp e.symm;have a2:d.heap[m]?=U.heap[m]?:=N.out.block m Ht;have a3:M.heap[m]?=d.heap[m]?:=J.block m (by omega) (fun e=>by
    rcases e with(e | e) | e
    ·exact k6 e.2
    ·exact H4 e
    ·exact Hz e)
   have a5:=E.block m (by omega) H4;rw[a5,a3,a2]
  ·rw[K,V];exact(I.kept (zY.zpK E fun k B e=>h0 k B e)).mono fun k B hf=>hf.1
  ·intro a C;rw[K]at C;obtain⟨C,Hn⟩:=ya.1 C;obtain⟨c,T,s,Z⟩:=A.out.en a C;have Hp:c≠R:=by
    have:=(HQ.out.en a C)
    obtain⟨c',kc,K4,Hw⟩:=this;have K9:c'=c:=by rw[kc]at T;exact Option.some.inj T
    have:=Hw.lt;have:=H0.out;omega
   exact⟨c,by rw[yO _ _ Hn];exact T,s,Z.of (hold c Z.lt (Z.zpH A.out.mp) (Z.zrh A.out.qx) Hp Z.zpk)⟩
  ·intro k c B;rw[K];by_cases h7:k=i
   ·subst h7;rw[qR]at B;cases B
   ·rw[yO _ _ h7]at B;obtain⟨a,C,hi⟩:=A.out.ge k c B;exact⟨a,ya.2 ⟨C,by rw[hi];exact h7⟩,hi⟩
 ·have K7:(x.cur == i)=false:=beq_eq_false_iff_ne.2 r;have hn:=zc r;clear r;go_wp2;obtain⟨n,H⟩:=zh w7
  have k7:y.cur=x.cur:=by rw[HY.out,qU];simp[hn.out]
  have k4:Qx n q m t y.cur x.min ln ov:=by rw[H,k7];exact hc.out
  have Hq:Ex n R En.zero:=by rw[H];exact hz.out
  have hv:Rb n (fun k=>F k/\Tb G k) t ((x.l.map En.key).erase e.key):=by rw[H];exact H8.out
  have H6:zo8 (fun k=>(F k/\Tb G k)∨k=q) d n:=by rw[H];exact kx.out
  have kb:n.heap.size=w7.heap.size:=by rw[H]
  rw[<-H];clear H;have Hy:=A.out.ok.zpq i;have kd:=j.out;have h0:∀k,(F k/\Tb G k)->k≠q:=fun k B e=>A.out.qx.zpk (e▸B.2);have hj:¬Tb G R:=Q.out.zpk;have P:=((((k4.zpP n4 (o:=0) (u:=.int .i64 e.id)).zpP n4 (o:=1) (u:=.int .u64 e.w)).zpP n4 (o:=2) (u:=.int .i64 e.v)).zpP n4 (o:=3) (u:=.int .u64 e.rem))
  have X:=Hq.ztw e;have J:zo8 (fun k=>((F k/\Tb G k)∨k=q)∨k=R) d _:=qV (b:=R) (u0:=.int .i64 e.id) (u1:=.int .u64 e.w) (u2:=.int .i64 e.v) (u3:=.int .u64 e.rem) (H6.mono fun k B=>.inl B) (.inl (.inr rfl));have I:Rb ((((n.setCell ⟨R,0,none⟩ (.int .i64 e.id)).setCell ⟨R,1,none⟩ (.int .u64 e.w)).setCell ⟨R,2,none⟩ (.int .i64 e.v)).setCell ⟨R,3,none⟩ (.int .u64 e.rem)) (fun k=>F k/\Tb G k) t ((x.l.map En.key).erase e.key):=
   hv.kept (zY.zpK (qV (F:=fun k=>k=R) (zo8.refl _ n) (.inl rfl)) fun k B e=>hj (e▸B.2))
  obtain⟨M,Y⟩:=zh (((((n.setCell ⟨R,0,none⟩ (.int .i64 e.id)).setCell ⟨R,1,none⟩ (.int .u64 e.w)).setCell ⟨R,2,none⟩ (.int .i64 e.v)).setCell ⟨R,3,none⟩ (.int .u64 e.rem)))
  have kg:M.heap.size=w7.heap.size:=by rw[Y,<-kb];simp[World.setCell]
  rw[<-Y]at P X J I ⊢;clear Y;refine leaves_cons (f:=201) (args:=#[.pointer (some ⟨q,0,none⟩)]) (by simp) (by simp[go_sem]) ?_;refine(zcO .returning _ _ q m t y.cur x.min _ ov _ P I ?_ A.out.ok.min).mono ?_
  ·intro k B;obtain⟨a,C,rfl⟩:=List.mem_map.1 (List.mem_of_mem_erase B);exact(A.out.ok.zpR a C).v
  rintro z u' h9 ⟨rfl,rfl,ht,E⟩;have hr:Ex h9 R e:=X.of (E.block R X.lt n2);obtain⟨g0,g1,g2,g3⟩:=hr.c4;have Hd:U.drew.heap.size=U.heap.size:=rfl;have K6:=Hf.out.size;have kj:=S.out.size;have K5:=N.out.size;have Ka:=H6.size;have kf:=E.size;have hT:zo8 F w h9:=by
   have Hs:zo8 F G d:=(S.out.mono fun k B=>B▸A.out.om).trans (have h:=zo8.zo7 (F:=F) N.out;⟨h.os,h.tape,h.output,h.size,h.block⟩:zo8 F U d) fun k B=>.inl B;have h2:zo8 F w d:=(zo8.zo7 Hf.out).trans Hs fun k B=>.inl B;have h4:zo8 F w M:=h2.trans J fun k B=>by
    rcases B with(B | rfl) | rfl
    ·exact .inl B.1
    ·exact .inl A.out.oq
    ·exact .inr (by rw[H0.out];exact zg _)
   exact h4.trans E fun k B=>.inl (B▸A.out.oq)
  refine⟨.tuple #[.agg (xy e),.int .i64 0],by simp[results,results185,go_sem,g0,g1,g2,g3],rfl,?_,hT⟩;have hy:=HY.out;have K:y.l=zpq i x.l:=by rw[hy,qt]
  have V:(zpq i x.l).map En.key=(x.l.map En.key).erase e.key:=by rw[<-He.out];exact qy A.out.ok.ids j.out
  have k2:y.min=za6 x.min ((x.l.map En.key).erase e.key):=by rw[hy,zaG,<-V]
  have hlen:(zpq i x.l).length+1=x.l.length:=by rw[<-He.out];exact uE A.out.ok.ids j.out
  have hold:∀k,k<G.heap.size->k≠m->k≠q->k≠R->¬Tb G k->h9.heap[k]?=G.heap[k]?:=by
   intro k B h1 h2 k0 h3;have a1:U.heap[k]?=G.heap[k]?:=S.out.block k B h1;have a2:d.heap[k]?=U.heap[k]?:=N.out.block k (by rw[Hd];omega);have a3:M.heap[k]?=d.heap[k]?:=J.block k (by omega) (fun e=>by
    rcases e with(e | e) | e
    ·exact h3 e.2
    ·exact h2 e
    ·exact k0 e)
   have a5:=E.block k (by omega) h2;rw[a5,a3,a2,a1]
  refine⟨m,t,yL g i none,ln,ov,⟨?_,?_,?_,?_,?_,kt.out,A.out.om,A.out.oq,by rw[hy];exact Hy.raise⟩⟩
  ·rw[k2];exact ht
  ·rw[K];have e1:(zpq i x.l).length=x.l.length-1:=by omega
   rw[e1];refine Hk.out.of ?_;have Ht:m<U.heap.size:=Hk.out.lt;have k6:¬Tb G m:=A.out.mp.zpk;have H4:m≠q:=fun e=>A.out.qx.zpH A.out.mp e.symm;have Hz:m≠R:=fun e=>Q.out.zpH A.out.mp e.symm;have a2:d.heap[m]?=U.heap[m]?:=N.out.block m Ht;have a3:M.heap[m]?=d.heap[m]?:=J.block m (by omega) (fun e=>by
    rcases e with(e | e) | e
    ·exact k6 e.2
    ·exact H4 e
    ·exact Hz e)
   have a5:=E.block m (by omega) H4;rw[a5,a3,a2]
  ·rw[K,V];exact(I.kept (zY.zpK E fun k B e=>h0 k B e)).mono fun k B hf=>hf.1
  ·intro a C;rw[K]at C;obtain⟨C,Hn⟩:=ya.1 C;obtain⟨c,T,s,Z⟩:=A.out.en a C;have Hp:c≠R:=by
    have:=(HQ.out.en a C)
    obtain⟨c',kc,K4,Hw⟩:=this;have K9:c'=c:=by rw[kc]at T;exact Option.some.inj T
    have:=Hw.lt;have:=H0.out;omega
   exact⟨c,by rw[yO _ _ Hn];exact T,s,Z.of (hold c Z.lt (Z.zpH A.out.mp) (Z.zrh A.out.qx) Hp Z.zpk)⟩
  ·intro k c B;rw[K];by_cases h7:k=i
   ·subst h7;rw[qR]at B;cases B
   ·rw[yO _ _ h7]at B;obtain⟨a,C,hi⟩:=A.out.ge k c B;exact⟨a,ya.2 ⟨C,by rw[hi];exact h7⟩,hi⟩
theorem ub(w:World)(F:Nat->Prop)(q:Nat)(x:Qu)(h:yA w F q x):Calls prog 112 #[.pointer (some ⟨q,0,none⟩)] w fun z w'=>z=.returned (.int .i64 x.cur)/\w'=w:=by obtain⟨m,t,g,ld,ov,A⟩:=h;obtain⟨c0,c1,c2,c3,c4,c5⟩:=A.qx.c6;have hl:=A.qx.lt;clear A;go_enter func112,ntmps112;go_wp2;go_ret;exact⟨rfl,rfl⟩
theorem zew(w:World)(F:Nat->Prop)(q:Nat)(x:Qu)(h:yA w F q x):Calls prog 131 #[.pointer (some ⟨q,0,none⟩)] w fun z w'=>z=.returned (.int .i64 x.min)/\w'=w:=by obtain⟨m,t,g,ld,ov,A⟩:=h;obtain⟨c0,c1,c2,c3,c4,c5⟩:=A.qx.c6;have hl:=A.qx.lt;clear A;go_enter func131,ntmps131;go_wp2;go_ret;exact⟨rfl,rfl⟩
theorem zl2(g:Int):0<=zgb g/\zgb g<=1099511627776:=by unfold zgb;split;omega;split <;> omega
theorem zby(I bb:Nat)(a b:En)(g:Int)(w:World)(M:Ex w I a)(hb:Ex w bb b)(N: -9223372036854775808<=b.v/\b.v<=9223372036854775807):
 Calls prog 194 #[.pointer (some ⟨I,0,none⟩),.pointer (some ⟨bb,0,none⟩),.int .i64 g] w fun z w'=>z=.returned (.bool (zqD a b g))/\Below w.heap.size w w':=by
 obtain⟨r,B⟩:=zh (zqD a b g)
 rw[<-B];have HR:=zc B;obtain⟨a0,a1,a2,a3⟩:=M.c4;obtain⟨b0,b1,b2,b3⟩:=hb.c4;have h1:=M.lt;have h0:=hb.lt;obtain⟨H,E⟩:=zh (zgb g)
 have O:=zc (show H=zaY g 0 1099511627776 from E);have A:=zl2 g;rw[<-E]at A;have R:=zc N;have D:=zc A;obtain⟨S,J⟩:=zh (vZ b.v H)
 have HS:=zc J;have hle:zqD a b g=decide (a.v<=S):=by unfold zqD;rw[J,E]
 rw[hle]at B;have G:=zc B;clear M hb B E J hle N A;go_enter func194,ntmps194;go_wp2_with fail;go_region_held3 (fun w'=>w'.cell? ⟨I,2,none⟩=some (.int .i64 a.v)/\w'.cell? ⟨bb,2,none⟩=some (.int .i64 b.v)) (go_keep)
  (first
   | (go_at_call 189;refine(zbv g 0 1099511627776 _).mono ?_;rintro z T ⟨rfl,rfl⟩;rw[<-O.out])
   | (go_at_call 153;refine(zfg b.v H _ R.out ⟨by have:=D.out;omega,by have:=D.out;omega⟩).mono ?_;rintro z T ⟨rfl,rfl⟩;rw[<-HS.out]))
 go_wp2;go_ret;rw[G.out];exact⟨rfl,by go_grown⟩
theorem zh3{x:Qu}(h:x.Ok):(x.first=match x.l with
 | []=>none
 | a::r=>if a.id=x.cur then r.head? else some a):=by
 unfold Qu.first;cases hl:x.l with
 | nil=>rfl
 | cons a r=>
  simp only;by_cases B:a.id=x.cur
  ·rw[if_pos B,List.find?_cons_of_neg (by simp[ua,B])];cases r with
   | nil=>rfl
   | cons b r=>
    have A:=h.ids;rw[hl]at A;simp only[List.map_cons,List.nodup_cons,List.mem_cons,not_or]at A;rw[List.find?_cons_of_pos (by have:=A.1.1;simp[ua];rw[<-B];exact fun e=>this e.symm)];rfl
  ·rw[if_neg B,List.find?_cons_of_pos (by simp[ua,B])]
theorem zkf{x:Qu}(h:x.Ok){a:En}{r:List En}(B:x.l=a::r):(x.l.map En.key).find? (fun k=>decide (zqk a.key k))=(r.map En.key).head? :=by
 rw[B,List.map_cons,List.find?_cons_of_neg (by simp[yP])];cases r with
 | nil=>rfl
 | cons b r=>
  have A:=h.ord;rw[B]at A;simp only[List.map_cons,List.pairwise_cons]at A;have:=A.1 b.key (by simp);rw[List.map_cons,List.find?_cons_of_pos (by simpa using this)];rfl
def zak(g:Int->Option Nat)(o:Option En):Option Addr:=match o with
 | none=>none
 | some a=>(g a.id).map fun b=>⟨b,0,none⟩
theorem zN{w:World}{F:Nat->Prop}{q m t:Nat}{g:Int->Option Nat}{B:Int}{H:Bool}{x:Qu}(h:QS w F q m t g B H x){a:En}(D:a∈x.l):∃b,zak g (some a)=some ⟨b,0,none⟩/\g a.id=some b/\F b/\Ex w b a:=by obtain⟨b,A,E,G⟩:=h.en a D;exact⟨b,by simp[zak,A],A,E,G⟩
theorem yn(w:World)(F:Nat->Prop)(q m t:Nat)(g:Int->Option Nat)(ld:Int)(ov:Bool)(x:Qu)(hq:QS w F q m t g ld ov x):
 Calls prog 193 #[.pointer (some ⟨q,0,none⟩)] w fun z w'=>z=.returned (.pointer (zak g x.first))/\Below w.heap.size w w':=by
 obtain⟨f,hf⟩:=zh x.first
 rw[<-hf];have HF:=zc hf;have X:=zc (zf7 w F t (x.l.map En.key) hq.rb);have HQ:=zc hq;have h2:=zc (zh3 hq.ok);obtain⟨c0,H,c2,c3,c4,c5⟩:=hq.qx.c6;have A:=hq.qx.lt;clear hf hq;cases hl:x.l with
 | nil=>
  rw[hl]at X h2;have o:f=none:=by rw[HF.out,h2.out]
  subst o;clear hl;go_enter func193,ntmps193;go_wp2_with fail;refine X.out.mono ?_;rintro z U ⟨rfl,hb⟩;have v:=zc hb;have D:=zc (HQ.out.kept (.zo7 hb));clear hb c0 H c2 c3 c4 c5 A;obtain⟨c0,H,c2,c3,c4,c5⟩:=D.out.qx.c6;have A:=D.out.qx.lt;go_wp2_with fail;go_quiet (fail);go_wp2;go_ret;exact⟨rfl,zp (v.out.alloc v.out.size _) _⟩
 | cons a r=>
  have HL:=zc hl;have Z:=h2.out;rw[hl]at X Z;simp only at Z;have hg:zpY a.id:=by have:=(HQ.out.ok.zpR a (by rw[hl];simp)).id;unfold zpY;omega
  have H2:=zc hg;clear hl hg;by_cases hc:a.id=x.cur
  ·rw[if_pos hc]at Z;have W:Hid (f=r.head?):=zc (by rw[HF.out,Z]);have hh:=zc (zkf HQ.out.ok HL.out);have H0:(a.key.2 == x.cur)=true:=beq_iff_eq.2 hc;have HC:=zc hc;clear hc Z;go_enter func193,ntmps193;go_wp2_with fail;refine X.out.mono ?_;rintro z U ⟨rfl,hb⟩;have v:=zc hb;have D:=zc (HQ.out.kept (.zo7 hb));clear hb c0 H c2 c3 c4 c5 A;obtain⟨c0,H,c2,c3,c4,c5⟩:=D.out.qx.c6;have A:=D.out.qx.lt;go_upto_region 2 with(fail)
   obtain⟨p,N⟩:=zh (U.alloc (yg a.key.1 a.key.2))
   have h:Below U.heap.size U p:=by rw[N];exact zk U _
   have j:Kx p U.heap.size a.key.1 a.key.2:=by rw[N];exact Kx.new U _ _
   obtain⟨K,hK⟩:=zh U.heap.size
   rw[<-hK]at j ⊢;rw[show U.alloc (.cells #[.int .i64 a.key.1,.int .i64 a.key.2] 289)=p from N.symm];have HK:=zc (show w.heap.size<=K by rw[hK];exact v.out.size);have M:=zc j;have S:=zc (zj v.out h v.out.size);have J:=zc (D.out.kept (.zo7 h));clear N h j hK c0 H c2 c3 c4 c5 A v D;obtain⟨c0,H,c2,c3,c4,c5⟩:=J.out.qx.c6;have A:=J.out.qx.lt;obtain⟨u,s⟩:=M.out.c2;have B:=M.out.lt;have G:=M.out.zpe;go_quiet (fail);cases r with
   | nil=>
    have o:f=none:=W.out;subst o;have y:(x.l.map En.key).find? (fun k=>decide (zqk a.key k))=none:=hh.out;have Q:=zc y;clear y;go_upto_region 3 with(fail)
    obtain⟨V,E⟩:=zh (p.drewN nq)
    have T:Hid (QS V F q m t g ld ov x):=zc (by rw[E];exact J.out.kept fun k _ _=>rfl);have L:Hid (Below w.heap.size w V):=zc (by rw[E];exact zp S.out nq);have O:Hid (Kx V K a.key.1 a.key.2):=zc (by rw[E];exact M.out);rw[<-E];clear E c0 H c2 c3 c4 c5 A u s B G;obtain⟨c0,H,c2,c3,c4,c5⟩:=T.out.qx.c6;have A:=T.out.qx.lt;obtain⟨u,s⟩:=O.out.c2;have B:=O.out.lt;have G:=O.out.zpe;go_region_with
     ((
      go_at_call 230;refine(zer a.key.1 a.key.2 V.drew F t (x.l.map En.key) (T.out.rb.kept (fun k _ _=>rfl))).mono ?_;rintro z w5 ⟨rfl,R⟩;have h5:Hid (Below w.heap.size w w5):=zc (zj (zv L.out) R L.out.size);have C:=zc ((T.out.kept (w':=V.drew) fun k _ _=>rfl).kept (.zo7 R));have Y:=zc ((show Kx V.drew K a.key.1 a.key.2 from O.out).behind R);clear R c0 H c2 c3 c4 c5 A u s B G;obtain⟨c0,H,c2,c3,c4,c5⟩:=C.out.qx.c6;have A:=C.out.qx.lt;obtain⟨u,s⟩:=Y.out.c2;have B:=Y.out.lt;have G:=Y.out.zpe;rw[show(a.key.1,a.key.2)=a.key from rfl,Q.out]))
    all_goals
     go_wp2;go_ret;exact⟨rfl,(yy h5.out HK.out)⟩
   | cons b r=>
    have o:f=some b:=W.out;subst o;have y:(x.l.map En.key).find? (fun k=>decide (zqk a.key k))=some b.key:=hh.out;have Q:=zc y;have h4:b∈x.l:=by rw[HL.out];simp
    have h7:zpY b.id:=by have:=(J.out.ok.zpR b h4).id;unfold zpY;omega
    have hv:=zc h7;obtain⟨pb,h6,hi,ht,ho⟩:=zN J.out h4;have hy:=zc h6;have hn:=zc hi;clear y h4 h7 h6 hi ht ho;go_upto_region 3 with(fail)
    obtain⟨V,E⟩:=zh (p.drewN nq)
    have T:Hid (QS V F q m t g ld ov x):=zc (by rw[E];exact J.out.kept fun k _ _=>rfl);have L:Hid (Below w.heap.size w V):=zc (by rw[E];exact zp S.out nq);have O:Hid (Kx V K a.key.1 a.key.2):=zc (by rw[E];exact M.out);rw[<-E];clear E c0 H c2 c3 c4 c5 A u s B G;obtain⟨c0,H,c2,c3,c4,c5⟩:=T.out.qx.c6;have A:=T.out.qx.lt;obtain⟨u,s⟩:=O.out.c2;have B:=O.out.lt;have G:=O.out.zpe;go_region_with
     ((
      go_at_call 230;refine(zer a.key.1 a.key.2 V.drew F t (x.l.map En.key) (T.out.rb.kept (fun k _ _=>rfl))).mono ?_;rintro z w5 ⟨rfl,R⟩;have h5:Hid (Below w.heap.size w w5):=zc (zj (zv L.out) R L.out.size);have C:=zc ((T.out.kept (w':=V.drew) fun k _ _=>rfl).kept (.zo7 R));have Y:=zc ((show Kx V.drew K a.key.1 a.key.2 from O.out).behind R);clear R c0 H c2 c3 c4 c5 A u s B G;obtain⟨c0,H,c2,c3,c4,c5⟩:=C.out.qx.c6;have A:=C.out.qx.lt;obtain⟨u,s⟩:=Y.out.c2;have B:=Y.out.lt;have G:=Y.out.zpe;rw[show(a.key.1,a.key.2)=a.key from rfl,Q.out]))
    all_goals
     go_upto_region 6 with(fail)
     obtain⟨c,I⟩:=zh ((w5.setCell ⟨K,0,none⟩ (.int .i64 b.key.1)).setCell ⟨K,1,none⟩ (.int .i64 b.key.2))
     have h9:Kx c K b.key.1 b.key.2:=by rw[I];have h1:(w5.setCell ⟨K,0,none⟩ (.int .i64 b.key.1)).heap[K]?=_:=zi Y.out;exact zi h1
     have h3:Below w.heap.size w c:=by rw[I];exact yy h5.out HK.out
     have d:=zc (HQ.out.kept (.zo7 h3));have h0:=zc h3;have P:=zc h9;rw[<-I];clear I h9 h3 c0 H c2 c3 c4 c5 A u s B G;obtain⟨c0,H,c2,c3,c4,c5⟩:=d.out.qx.c6;have A:=d.out.qx.lt;obtain⟨u,s⟩:=P.out.c2;have B:=P.out.lt;have hk:∀n,(Instr.lookup 213 (.map (some m)) (.int .i64 b.key.2) false).run prog (c.drewN n)=.ok (.pointer (some ⟨pb,0,none⟩)) (c.drewN n):=fun n=>by have:=(d.out.mp.of (w':=c.drewN n) rfl).look hv.out;rw[hn.out]at this;exact this
     go_quiet (fail);go_wp2;go_ret;exact⟨by rw[hy.out];rfl,zp h0.out _⟩
  ·rw[if_neg hc]at Z;have o:f=some a:=by rw[HF.out,Z]
   subst o;have H0:(a.key.2 == x.cur)=false:=beq_eq_false_iff_ne.2 hc;have h8:a∈x.l:=by rw[HL.out];simp
   obtain⟨pa,hj,ha,hx,hz⟩:=zN HQ.out h8;have H3:=zc hj;have hr:=zc ha;clear hc Z h8 hj ha hx hz;go_enter func193,ntmps193;go_wp2_with fail;refine X.out.mono ?_;rintro z U ⟨rfl,hb⟩;have v:=zc hb;have D:=zc (HQ.out.kept (.zo7 hb));clear hb c0 H c2 c3 c4 c5 A;obtain⟨c0,H,c2,c3,c4,c5⟩:=D.out.qx.c6;have A:=D.out.qx.lt;go_upto_region 2 with(fail)
   obtain⟨p,N⟩:=zh (U.alloc (yg a.key.1 a.key.2))
   have h:Below U.heap.size U p:=by rw[N];exact zk U _
   have j:Kx p U.heap.size a.key.1 a.key.2:=by rw[N];exact Kx.new U _ _
   obtain⟨K,hK⟩:=zh U.heap.size
   rw[<-hK]at j ⊢;rw[show U.alloc (.cells #[.int .i64 a.key.1,.int .i64 a.key.2] 289)=p from N.symm];have HK:=zc (show w.heap.size<=K by rw[hK];exact v.out.size);have M:=zc j;have S:=zc (zj v.out h v.out.size);have J:=zc (D.out.kept (.zo7 h));clear N h j hK c0 H c2 c3 c4 c5 A v D;obtain⟨c0,H,c2,c3,c4,c5⟩:=J.out.qx.c6;have A:=J.out.qx.lt;obtain⟨u,s⟩:=M.out.c2;have B:=M.out.lt;have G:=M.out.zpe;go_quiet (fail);go_upto_region 6 with(fail)
   obtain⟨c,I⟩:=zh (p.drewN nq)
   have d:Hid (QS c F q m t g ld ov x):=zc (by rw[I];exact J.out.kept fun k _ _=>rfl);have h0:Hid (Below w.heap.size w c):=zc (by rw[I];exact zp S.out nq);have P:Hid (Kx c K a.key.1 a.key.2):=zc (by rw[I];exact M.out);rw[<-I];clear I c0 H c2 c3 c4 c5 A u s B G;obtain⟨c0,H,c2,c3,c4,c5⟩:=d.out.qx.c6;have A:=d.out.qx.lt;obtain⟨u,s⟩:=P.out.c2;have B:=P.out.lt;have hk:∀n,(Instr.lookup 213 (.map (some m)) (.int .i64 a.key.2) false).run prog (c.drewN n)=.ok (.pointer (some ⟨pa,0,none⟩)) (c.drewN n):=fun n=>by have:=(d.out.mp.of (w':=c.drewN n) rfl).look H2.out;rw[hr.out]at this;exact this
   go_quiet (fail);go_wp2;go_ret;exact⟨by rw[H3.out];rfl,zp h0.out _⟩
theorem qW{x:Qu}{o:En}(h:x.first=some o):o∈x.l:=List.mem_of_find?_eq_some h
theorem Qu.Ok.setCur{x:Qu}(h:x.Ok){o:En}(A:o∈x.l):({ x with cur:=o.id }:Qu).Ok:=⟨h.zpR,h.ids,h.ord,.inr ⟨o,A,rfl⟩,h.min,h.len⟩
theorem QS.setCur{w:World}{F:Nat->Prop}{q m t:Nat}{g:Int->Option Nat}{E:Int}{D:Bool}{x:Qu}(h:QS w F q m t g E D x){o:En}(I:o∈x.l):QS (w.setCell ⟨q,2,none⟩ (.int .i64 o.id)) F q m t g E D { x with cur:=o.id }:=by have hs:∀k,k≠q->(w.setCell ⟨q,2,none⟩ (.int .i64 o.id)).heap[k]?=w.heap[k]?:=fun k A=>Below.heap_setCell _ _ _ _ (by exact A);refine⟨h.qx.zpG o.id,h.mp.of (hs m (fun e=>h.qx.zpH h.mp e.symm)),(h.rb.small.kept fun k _ A=>hs k (fun e=>h.qx.zpk (e▸A.2))).mono fun k _ A=>A.1,?_,h.ge,h.ld,h.om,h.oq,h.ok.setCur I⟩;intro e he;obtain⟨b,H,G,B⟩:=h.en e he;exact⟨b,H,G,B.of (hs b (B.zrh h.qx))⟩
theorem Qu.Ok.curI{x:Qu}(h:x.Ok):zpY x.cur:=by
 unfold zpY;rcases h.cur with A | ⟨e,he,A⟩
 ·omega
 ·have:=(h.zpR e he).id;omega
theorem QS.zpL{w:World}{F:Nat->Prop}{q m t:Nat}{g:Int->Option Nat}{A:Int}{D:Bool}{x:Qu}(h:QS w F q m t g A D x):∀n,(Instr.lookup 213 (.map (some m)) (.int .i64 x.cur) false).run prog (w.drewN n)=.ok (.pointer (zak g (x.get x.cur))) (w.drewN n):=by
 intro n;have:=(h.mp.of (w':=w.drewN n) rfl).look h.ok.curI;rw[this];cases hg:x.get x.cur with
 | none=>rw[h.get_none hg];rfl
 | some e=>obtain⟨h1,B⟩:=yh hg;simp only[zak];rw[B]
def xk(w:World)(F:Nat->Prop)(q:Nat)(y:Qu)(z:Ending)(w':World):Prop:=z=.returned (.int .i64 y.cur)/\yA w' F q y/\zo8 (fun k=>k=q) w w'
theorem zal{w w':World}{F:Nat->Prop}{q m t:Nat}{g:Int->Option Nat}{A:Int}{B:Bool}{x y:Qu}(h:QS w F q m t g A B x)(hb:Below w.heap.size w w')(D:y=x):xk w F q y (.returned (.int .i64 x.cur)) w':=by subst D;exact⟨rfl,⟨m,t,g,A,B,h.kept (.zo7 hb)⟩,zo8.zo7 hb⟩
theorem za8{w w':World}{F:Nat->Prop}{q m t:Nat}{g:Int->Option Nat}{A:Int}{B:Bool}{x y:Qu}{o:En}(h:QS w F q m t g A B x)(D:o∈x.l)(hb:Below w.heap.size w w')(E:y={ x with cur:=o.id }):xk w F q y (.returned (.int .i64 o.id)) (w'.setCell ⟨q,2,none⟩ (.int .i64 o.id)):=by subst E;have G:zo8 (fun k=>k=q) w w':=zo8.zo7 hb;exact⟨rfl,⟨m,t,g,A,B,(h.kept (.zo7 hb)).setCur D⟩,G.setCell (.inl rfl) _⟩
theorem zgk(I:Int)(w:World)(F:Nat->Prop)(q m t:Nat)(g:Int->Option Nat)(T:Int)(R:Bool)(x:Qu)(B:QS w F q m t g T R x)(G:x.first=none)(M:zak g (x.get x.cur)=none):
 Calls prog 169 #[.pointer (some ⟨q,0,none⟩),.int .i64 I] w (xk w F q (x.pick I)):=by
 obtain⟨y,H⟩:=zh ((x.pick I))
 rw[<-H];have X:Hid (y=x):=zc (by rw[H];unfold Qu.pick;rw[G]);have D:=zc (yn w F q m t g T R x B);rw[G]at D;have N:=zc B;obtain⟨c0,O,c2,c3,c4,c5⟩:=B.qx.c6;have E:=B.qx.lt;have J:=zc M;clear B G H M;go_enter func169,ntmps169;go_wp2_with fail;refine D.out.mono ?_;rintro z U ⟨rfl,hb⟩;have V:=zc hb;have A:=zc (N.out.kept (.zo7 hb));clear hb c0 O c2 c3 c4 c5 E;obtain⟨c0,O,c2,c3,c4,c5⟩:=A.out.qx.c6;have E:=A.out.qx.lt;have h0:=A.out.qx.zpe;have h1:∀n,(Instr.lookup 213 (.map (some m)) (.int .i64 x.cur) false).run prog (U.drewN n)=.ok (.pointer none) (U.drewN n):=fun n=>by
  have:=A.out.zpL n;rw[J.out]at this;exact this
 go_wp2_with fail;go_quiet (fail);go_wp2;go_ret;exact zal N.out (zp V.out nq) X.out
theorem zgl(I:Int)(w:World)(F:Nat->Prop)(q m t:Nat)(g:Int->Option Nat)(T:Int)(R:Bool)(x:Qu)(B:QS w F q m t g T R x)(p:Addr)(G:x.first=none)(M:zak g (x.get x.cur)=(some p)):
 Calls prog 169 #[.pointer (some ⟨q,0,none⟩),.int .i64 I] w (xk w F q (x.pick I)):=by
 obtain⟨y,H⟩:=zh ((x.pick I))
 rw[<-H];have X:Hid (y=x):=zc (by rw[H];unfold Qu.pick;rw[G]);have D:=zc (yn w F q m t g T R x B);rw[G]at D;have N:=zc B;obtain⟨c0,O,c2,c3,c4,c5⟩:=B.qx.c6;have E:=B.qx.lt;have J:=zc M;clear B G H M;go_enter func169,ntmps169;go_wp2_with fail;refine D.out.mono ?_;rintro z U ⟨rfl,hb⟩;have V:=zc hb;have A:=zc (N.out.kept (.zo7 hb));clear hb c0 O c2 c3 c4 c5 E;obtain⟨c0,O,c2,c3,c4,c5⟩:=A.out.qx.c6;have E:=A.out.qx.lt;have h0:=A.out.qx.zpe;have h1:∀n,(Instr.lookup 213 (.map (some m)) (.int .i64 x.cur) false).run prog (U.drewN n)=.ok (.pointer (some p)) (U.drewN n):=fun n=>by
  have:=A.out.zpL n;rw[J.out]at this;exact this
 go_wp2_with fail;go_quiet (fail);go_wp2;go_ret;exact zal N.out (zp V.out nq) X.out
theorem zkg(T:Int)(w:World)(F:Nat->Prop)(q m t:Nat)(g:Int->Option Nat)(d:Int)(c:Bool)(x:Qu)(E:QS w F q m t g d c x)(o:En)(N:x.first=some o)(D:x.get x.cur=none):
 Calls prog 169 #[.pointer (some ⟨q,0,none⟩),.int .i64 T] w (xk w F q (x.pick T)):=by
 obtain⟨y,O⟩:=zh ((x.pick T))
 rw[<-O];have j:Hid (y={ x with cur:=o.id }):=zc (by rw[O];unfold Qu.pick;rw[N,D]);have H:=zc (yn w F q m t g d c x E);rw[N]at H;have Y:=zc E;obtain⟨c0,a,c2,c3,c4,c5⟩:=E.qx.c6;have J:=E.qx.lt;have B:=qW N;have b:=zc B;obtain⟨Z,M,I,_,_⟩:=zN E B;have R:=zc I;have U:=zc M;have X:=zc D;clear E N O D B M I;go_enter func169,ntmps169;go_wp2_with fail;refine H.out.mono ?_;rintro z V ⟨rfl,hb⟩;have f:=zc hb;have A:=zc (Y.out.kept (.zo7 hb));rw[U.out];have G:Hid (Ex V Z o):=zc (by
  obtain⟨p,hp,D,_,h⟩:=zN A.out b.out;have:p=Z:=by rw[R.out]at D;exact(Option.some.inj D).symm
  exact this▸h)
 clear hb c0 a c2 c3 c4 c5 J;obtain⟨c0,a,c2,c3,c4,c5⟩:=A.out.qx.c6;have J:=A.out.qx.lt;have h0:=A.out.qx.zpe;have h2:∀n,(Instr.lookup 213 (.map (some m)) (.int .i64 x.cur) false).run prog (V.drewN n)=.ok (.pointer none) (V.drewN n):=fun n=>by have:=A.out.zpL n;rw[X.out]at this;exact this
 go_wp2_with fail;go_quiet (fail);obtain⟨e0,e1,e2,e3⟩:=G.out.c4;have h1:=G.out.lt;go_wp2;go_ret;exact za8 Y.out b.out (zp f.out nq) j.out
theorem zkh(a:Int)(w:World)(F:Nat->Prop)(q m t:Nat)(g:Int->Option Nat)(ld:Int)(P:Bool)(x:Qu)(J:QS w F q m t g ld P x)(o c:En)(j:x.first=some o)(A:x.get x.cur=some c)(W:zqD c o a=true):
 Calls prog 169 #[.pointer (some ⟨q,0,none⟩),.int .i64 a] w (xk w F q (x.pick a)):=by
 obtain⟨y,L⟩:=zh ((x.pick a))
 rw[<-L];have HY:Hid (y=x):=zc (by rw[L];unfold Qu.pick;rw[j,A];simp only[W,if_true]);have Y:=zc (yn w F q m t g ld P x J);rw[j]at Y;have s:=zc J;obtain⟨c0,h,c2,c3,c4,c5⟩:=J.qx.c6;have E:=J.qx.lt;have I:=qW j;have HO:=zc I;obtain⟨u,f,Z,_,_⟩:=zN J I;have Q:=zc Z;have h2:=zc f;have M:=(yh A).1;have r:=(yh A).2;have HC:=zc M;obtain⟨l,X,d,_,_⟩:=zN J M;have C:=zc d;have h1:=zc X;have h3:=zc A;have HN:=zc W;clear J j L A W I f Z M r X d;go_enter func169,ntmps169;go_wp2_with fail;refine Y.out.mono ?_
 rintro z w2 ⟨rfl,hb⟩;have HB:=zc hb;have B:=zc (s.out.kept (.zo7 hb));rw[h2.out];clear hb c0 h c2 c3 c4 c5 E;obtain⟨c0,h,c2,c3,c4,c5⟩:=B.out.qx.c6;have E:=B.out.qx.lt;have T:=B.out.qx.zpe;have S:∀n,(Instr.lookup 213 (.map (some m)) (.int .i64 x.cur) false).run prog (w2.drewN n)=.ok (.pointer (some ⟨l,0,none⟩)) (w2.drewN n):=fun n=>by have:=B.out.zpL n;rw[h3.out]at this;rw[h1.out]at this;exact this
 go_wp2_with fail;go_quiet (fail);obtain⟨R,D⟩:=zh (w2.drewN nq)
 have H:Hid (QS R F q m t g ld P x):=zc (by rw[D];exact B.out.kept fun k _ _=>rfl);have V:Hid (Below w.heap.size w R):=zc (by rw[D];exact zp HB.out nq);have U:Hid (Ex R u o):=zc (by
  obtain⟨p,hp,A,_,K⟩:=zN H.out HO.out;have:p=u:=by rw[Q.out]at A;exact(Option.some.inj A).symm
  exact this▸K)
 have h0:Hid (Ex R l c):=zc (by
  obtain⟨p,hp,A,_,K⟩:=zN H.out HC.out;have:p=l:=by rw[C.out]at A;exact(Option.some.inj A).symm
  exact this▸K)
 rw[<-D];clear D S c0 h c2 c3 c4 c5 E T;go_wp2_with fail;refine(zby l u c o a _ h0.out U.out (H.out.ok.zpR o HO.out).v).mono ?_;rintro z w4 ⟨rfl,N⟩;rw[HN.out];have b:=zc (zj V.out N V.out.size);have O:=zc (s.out.kept (.zo7 b.out));have G:=zc (U.out.behind N);clear N;obtain⟨c0,h,c2,c3,c4,c5⟩:=O.out.qx.c6;have E:=O.out.qx.lt;have T:=O.out.qx.zpe;obtain⟨e0,e1,e2,e3⟩:=G.out.c4;have h4:=G.out.lt;go_wp2;go_ret;exact zal s.out b.out HY.out
theorem zki(a:Int)(w:World)(F:Nat->Prop)(q m t:Nat)(g:Int->Option Nat)(ld:Int)(Q:Bool)(x:Qu)(J:QS w F q m t g ld Q x)(o c:En)(j:x.first=some o)(A:x.get x.cur=some c)(hn:zqD c o a=false):
 Calls prog 169 #[.pointer (some ⟨q,0,none⟩),.int .i64 a] w (xk w F q (x.pick a)):=by
 obtain⟨y,P⟩:=zh ((x.pick a))
 rw[<-P];have HY:Hid (y={ x with cur:=o.id }):=zc (by rw[P];unfold Qu.pick;rw[j,A];simp only[hn];rfl);have Y:=zc (yn w F q m t g ld Q x J);rw[j]at Y;have s:=zc J;obtain⟨c0,h,c2,c3,c4,c5⟩:=J.qx.c6;have E:=J.qx.lt;have I:=qW j;have L:=zc I;obtain⟨u,f,Z,_,_⟩:=zN J I;have S:=zc Z;have h2:=zc f;have M:=(yh A).1;have r:=(yh A).2;have HC:=zc M;obtain⟨l,X,d,_,_⟩:=zN J M;have C:=zc d;have h1:=zc X;have h3:=zc A;have HN:=zc hn;clear J j P A hn I f Z M r X d;go_enter func169,ntmps169;go_wp2_with fail
 refine Y.out.mono ?_;rintro z w2 ⟨rfl,hb⟩;have HB:=zc hb;have B:=zc (s.out.kept (.zo7 hb));rw[h2.out];clear hb c0 h c2 c3 c4 c5 E;obtain⟨c0,h,c2,c3,c4,c5⟩:=B.out.qx.c6;have E:=B.out.qx.lt;have T:=B.out.qx.zpe;have W:∀n,(Instr.lookup 213 (.map (some m)) (.int .i64 x.cur) false).run prog (w2.drewN n)=.ok (.pointer (some ⟨l,0,none⟩)) (w2.drewN n):=fun n=>by have:=B.out.zpL n;rw[h3.out]at this;rw[h1.out]at this;exact this
 go_wp2_with fail;go_quiet (fail);obtain⟨R,D⟩:=zh (w2.drewN nq)
 have H:Hid (QS R F q m t g ld Q x):=zc (by rw[D];exact B.out.kept fun k _ _=>rfl);have V:Hid (Below w.heap.size w R):=zc (by rw[D];exact zp HB.out nq);have U:Hid (Ex R u o):=zc (by
  obtain⟨p,hp,A,_,K⟩:=zN H.out L.out;have:p=u:=by rw[S.out]at A;exact(Option.some.inj A).symm
  exact this▸K)
 have h0:Hid (Ex R l c):=zc (by
  obtain⟨p,hp,A,_,K⟩:=zN H.out HC.out;have:p=l:=by rw[C.out]at A;exact(Option.some.inj A).symm
  exact this▸K)
 rw[<-D];clear D W c0 h c2 c3 c4 c5 E T;go_wp2_with fail;refine(zby l u c o a _ h0.out U.out (H.out.ok.zpR o L.out).v).mono ?_;rintro z w4 ⟨rfl,N⟩;rw[HN.out];have b:=zc (zj V.out N V.out.size);have O:=zc (s.out.kept (.zo7 b.out));have G:=zc (U.out.behind N);clear N;obtain⟨c0,h,c2,c3,c4,c5⟩:=O.out.qx.c6;have E:=O.out.qx.lt;have T:=O.out.qx.zpe;obtain⟨e0,e1,e2,e3⟩:=G.out.c4;have h4:=G.out.lt;go_wp2;go_ret;exact za8 s.out L.out b.out HY.out
theorem ve(A:Int)(w:World)(F:Nat->Prop)(q:Nat)(x:Qu)(h:yA w F q x):Calls prog 169 #[.pointer (some ⟨q,0,none⟩),.int .i64 A] w (xk w F q (x.pick A)):=by
 obtain⟨m,t,g,B,E,D⟩:=h;cases hf:x.first with
 | none=>
  cases hg:zak g (x.get x.cur)with
  | none=>exact zgk A w F q m t g B E x D hf hg
  | some p=>exact zgl A w F q m t g B E x D p hf hg
 | some o=>
  cases hg:x.get x.cur with
  | none=>exact zkg A w F q m t g B E x D o hf hg
  | some c=>
   cases hn:zqD c o A
   ·exact zki A w F q m t g B E x D o c hf hg hn
   ·exact zkh A w F q m t g B E x D o c hf hg hn
theorem zfh(E:Int)(w:World)(F:Nat->Prop)(q m t:Nat)(g:Int->Option Nat)(M:Int)(J:Bool)(x:Qu)(B:QS w F q m t g M J x)(H:x.first=none)(R:zak g (x.get x.cur)=none):
 Calls prog 145 #[.pointer (some ⟨q,0,none⟩),.int .i64 E] w (xk w F q (x.yield E)):=by
 obtain⟨y,I⟩:=zh ((x.yield E))
 rw[<-I];have b:Hid (y=x.pick E):=zc (by rw[I];unfold Qu.yield;rw[H]);have D:=zc (yn w F q m t g M J x B);rw[H]at D;have V:=zc B;obtain⟨c0,U,c2,c3,c4,c5⟩:=B.qx.c6;have G:=B.qx.lt;have O:=zc R;clear B H I R;go_enter func145,ntmps145;go_wp2_with fail;refine D.out.mono ?_;rintro z N ⟨rfl,hb⟩;have Z:=zc hb;have A:=zc (V.out.kept (.zo7 hb));clear hb c0 U c2 c3 c4 c5 G;obtain⟨c0,U,c2,c3,c4,c5⟩:=A.out.qx.c6;have G:=A.out.qx.lt;have h0:=A.out.qx.zpe;have h1:∀n,(Instr.lookup 213 (.map (some m)) (.int .i64 x.cur) false).run prog (N.drewN n)=.ok (.pointer none) (N.drewN n):=fun n=>by
  have:=A.out.zpL n;rw[O.out]at this;exact this
 go_wp2_with fail;go_quiet (fail);go_wp2_with fail;refine(ve E (N.drewN nq) F q x ⟨m,t,g,M,J,A.out.kept fun k _ _=>rfl⟩).mono ?_;rintro z w5 ⟨rfl,T,t5⟩;have X:=zc T;have a:=zc t5;clear T t5;go_wp2;go_ret;rw[b.out];exact⟨rfl,X.out,(zo8.zo7 (zp Z.out nq)).trans a.out fun k Y=>.inl Y⟩
theorem zfi(E:Int)(w:World)(F:Nat->Prop)(q m t:Nat)(g:Int->Option Nat)(M:Int)(J:Bool)(x:Qu)(B:QS w F q m t g M J x)(p:Addr)(H:x.first=none)(R:zak g (x.get x.cur)=(some p)):
 Calls prog 145 #[.pointer (some ⟨q,0,none⟩),.int .i64 E] w (xk w F q (x.yield E)):=by
 obtain⟨y,I⟩:=zh ((x.yield E))
 rw[<-I];have b:Hid (y=x.pick E):=zc (by rw[I];unfold Qu.yield;rw[H]);have D:=zc (yn w F q m t g M J x B);rw[H]at D;have V:=zc B;obtain⟨c0,U,c2,c3,c4,c5⟩:=B.qx.c6;have G:=B.qx.lt;have O:=zc R;clear B H I R;go_enter func145,ntmps145;go_wp2_with fail;refine D.out.mono ?_;rintro z N ⟨rfl,hb⟩;have Z:=zc hb;have A:=zc (V.out.kept (.zo7 hb));clear hb c0 U c2 c3 c4 c5 G;obtain⟨c0,U,c2,c3,c4,c5⟩:=A.out.qx.c6;have G:=A.out.qx.lt;have h0:=A.out.qx.zpe;have h1:∀n,(Instr.lookup 213 (.map (some m)) (.int .i64 x.cur) false).run prog (N.drewN n)=.ok (.pointer (some p)) (N.drewN n):=fun n=>by
  have:=A.out.zpL n;rw[O.out]at this;exact this
 go_wp2_with fail;go_quiet (fail);go_wp2_with fail;refine(ve E (N.drewN nq) F q x ⟨m,t,g,M,J,A.out.kept fun k _ _=>rfl⟩).mono ?_;rintro z w5 ⟨rfl,T,t5⟩;have X:=zc T;have a:=zc t5;clear T t5;go_wp2;go_ret;rw[b.out];exact⟨rfl,X.out,(zo8.zo7 (zp Z.out nq)).trans a.out fun k Y=>.inl Y⟩
theorem zh4(H:Int)(w:World)(F:Nat->Prop)(q m t:Nat)(g:Int->Option Nat)(T:Int)(R:Bool)(x:Qu)(D:QS w F q m t g T R x)(o:En)(M:x.first=some o)(N:x.get x.cur=none):
 Calls prog 145 #[.pointer (some ⟨q,0,none⟩),.int .i64 H] w (xk w F q (x.yield H)):=by
 obtain⟨y,O⟩:=zh ((x.yield H))
 rw[<-O];have h:Hid (y=x.pick H):=zc (by rw[O];unfold Qu.yield;rw[M,N]);have E:=zc (yn w F q m t g T R x D);rw[M]at E;have a:=zc D;obtain⟨c0,Z,c2,c3,c4,c5⟩:=D.qx.c6;have I:=D.qx.lt;have B:=qW M;have HO:=zc B;obtain⟨po,J,G,_,_⟩:=zN D B;have h1:=zc G;have U:=zc J;have X:=zc N;clear D M O N B J G;go_enter func145,ntmps145;go_wp2_with fail;refine E.out.mono ?_;rintro z V ⟨rfl,hb⟩;have d:=zc hb;have A:=zc (a.out.kept (.zo7 hb));rw[U.out];clear hb c0 Z c2 c3 c4 c5 I;obtain⟨c0,Z,c2,c3,c4,c5⟩:=A.out.qx.c6;have I:=A.out.qx.lt;have h0:=A.out.qx.zpe
 have h2:∀n,(Instr.lookup 213 (.map (some m)) (.int .i64 x.cur) false).run prog (V.drewN n)=.ok (.pointer none) (V.drewN n):=fun n=>by have:=A.out.zpL n;rw[X.out]at this;exact this
 go_wp2_with fail;go_quiet (fail);go_wp2_with fail;refine(ve H (V.drewN nq) F q x ⟨m,t,g,T,R,A.out.kept fun k _ _=>rfl⟩).mono ?_;rintro z w5 ⟨rfl,Y,t5⟩;have b:=zc Y;have f:=zc t5;clear Y t5;go_wp2;go_ret;rw[h.out];exact⟨rfl,b.out,(zo8.zo7 (zp d.out nq)).trans f.out fun k c=>.inl c⟩
theorem zh5(a:Int)(w:World)(F:Nat->Prop)(q m t:Nat)(g:Int->Option Nat)(ld:Int)(P:Bool)(x:Qu)(J:QS w F q m t g ld P x)(o c:En)(j:x.first=some o)(A:x.get x.cur=some c)(W:zqD o c a=true):
 Calls prog 145 #[.pointer (some ⟨q,0,none⟩),.int .i64 a] w (xk w F q (x.yield a)):=by
 obtain⟨y,L⟩:=zh ((x.yield a))
 rw[<-L];have HY:Hid (y={ x with cur:=o.id }):=zc (by rw[L];unfold Qu.yield;rw[j,A];simp only[W,if_true]);have Y:=zc (yn w F q m t g ld P x J);rw[j]at Y;have s:=zc J;obtain⟨c0,h,c2,c3,c4,c5⟩:=J.qx.c6;have E:=J.qx.lt;have I:=qW j;have HO:=zc I;obtain⟨u,f,Z,_,_⟩:=zN J I;have Q:=zc Z;have h2:=zc f;have M:=(yh A).1;have r:=(yh A).2;have HC:=zc M;obtain⟨l,X,d,_,_⟩:=zN J M;have C:=zc d;have h1:=zc X;have h3:=zc A;have HN:=zc W;clear J j L A W I f Z M r X d;go_enter func145,ntmps145;go_wp2_with fail
 refine Y.out.mono ?_;rintro z w2 ⟨rfl,hb⟩;have HB:=zc hb;have B:=zc (s.out.kept (.zo7 hb));rw[h2.out];clear hb c0 h c2 c3 c4 c5 E;obtain⟨c0,h,c2,c3,c4,c5⟩:=B.out.qx.c6;have E:=B.out.qx.lt;have T:=B.out.qx.zpe;have S:∀n,(Instr.lookup 213 (.map (some m)) (.int .i64 x.cur) false).run prog (w2.drewN n)=.ok (.pointer (some ⟨l,0,none⟩)) (w2.drewN n):=fun n=>by have:=B.out.zpL n;rw[h3.out]at this;rw[h1.out]at this;exact this
 go_wp2_with fail;go_quiet (fail);obtain⟨R,D⟩:=zh (w2.drewN nq)
 have H:Hid (QS R F q m t g ld P x):=zc (by rw[D];exact B.out.kept fun k _ _=>rfl);have V:Hid (Below w.heap.size w R):=zc (by rw[D];exact zp HB.out nq);have U:Hid (Ex R u o):=zc (by
  obtain⟨p,hp,A,_,K⟩:=zN H.out HO.out;have:p=u:=by rw[Q.out]at A;exact(Option.some.inj A).symm
  exact this▸K)
 have h0:Hid (Ex R l c):=zc (by
  obtain⟨p,hp,A,_,K⟩:=zN H.out HC.out;have:p=l:=by rw[C.out]at A;exact(Option.some.inj A).symm
  exact this▸K)
 rw[<-D];clear D S c0 h c2 c3 c4 c5 E T;go_wp2_with fail;refine(zby u l o c a _ U.out h0.out (H.out.ok.zpR c HC.out).v).mono ?_;rintro z w4 ⟨rfl,N⟩;rw[HN.out];have b:=zc (zj V.out N V.out.size);have O:=zc (s.out.kept (.zo7 b.out));have G:=zc (U.out.behind N);clear N;obtain⟨c0,h,c2,c3,c4,c5⟩:=O.out.qx.c6;have E:=O.out.qx.lt;have T:=O.out.qx.zpe;obtain⟨e0,e1,e2,e3⟩:=G.out.c4;have h4:=G.out.lt;go_wp2;go_ret;exact za8 s.out HO.out b.out HY.out
theorem zh6(M:Int)(w:World)(F:Nat->Prop)(q m t:Nat)(g:Int->Option Nat)(l:Int)(s:Bool)(x:Qu)(N:QS w F q m t g l s x)(o c:En)(j:x.first=some o)(A:x.get x.cur=some c)(hn:zqD o c M=false):
 Calls prog 145 #[.pointer (some ⟨q,0,none⟩),.int .i64 M] w (xk w F q (x.yield M)):=by
 obtain⟨y,L⟩:=zh ((x.yield M))
 rw[<-L];have HY:Hid (y=x.pick M):=zc (by rw[L];unfold Qu.yield;rw[j,A];simp only[hn];rfl);have a:=zc (yn w F q m t g l s x N);rw[j]at a;have HQ:=zc N;obtain⟨c0,h,c2,c3,c4,c5⟩:=N.qx.c6;have E:=N.qx.lt;have J:=qW j;have HO:=zc J;obtain⟨S,V,f,_,_⟩:=zN N J;have u:=zc f;have h2:=zc V;have O:=(yh A).1;have Q:=(yh A).2;have HC:=zc O;obtain⟨r,Z,U,_,_⟩:=zN N O;have W:=zc U;have h1:=zc Z;have P:=zc A;have HN:=zc hn;clear N j L A hn J V f O Q Z U;go_enter func145,ntmps145;go_wp2_with fail;refine a.out.mono ?_
 rintro z w2 ⟨rfl,hb⟩;have HB:=zc hb;have B:=zc (HQ.out.kept (.zo7 hb));rw[h2.out];clear hb c0 h c2 c3 c4 c5 E;obtain⟨c0,h,c2,c3,c4,c5⟩:=B.out.qx.c6;have E:=B.out.qx.lt;have X:=B.out.qx.zpe;have C:∀n,(Instr.lookup 213 (.map (some m)) (.int .i64 x.cur) false).run prog (w2.drewN n)=.ok (.pointer (some ⟨r,0,none⟩)) (w2.drewN n):=fun n=>by have:=B.out.zpL n;rw[P.out]at this;rw[h1.out]at this;exact this
 go_wp2_with fail;go_quiet (fail);obtain⟨T,D⟩:=zh (w2.drewN nq)
 have I:Hid (QS T F q m t g l s x):=zc (by rw[D];exact B.out.kept fun k _ _=>rfl);have Y:Hid (Below w.heap.size w T):=zc (by rw[D];exact zp HB.out nq);have d:Hid (Ex T S o):=zc (by
  obtain⟨p,hp,A,_,K⟩:=zN I.out HO.out;have:p=S:=by rw[u.out]at A;exact(Option.some.inj A).symm
  exact this▸K)
 have h0:Hid (Ex T r c):=zc (by
  obtain⟨p,hp,A,_,K⟩:=zN I.out HC.out;have:p=r:=by rw[W.out]at A;exact(Option.some.inj A).symm
  exact this▸K)
 rw[<-D];clear D C c0 h c2 c3 c4 c5 E X;go_wp2_with fail;refine(zby S r o c M _ d.out h0.out (I.out.ok.zpR c HC.out).v).mono ?_;rintro z w4 ⟨rfl,R⟩;rw[HN.out];have b:=zc (zj Y.out R Y.out.size);have G:=zc (HQ.out.kept (.zo7 b.out));have H:=zc (d.out.behind R);clear R;obtain⟨c0,h,c2,c3,c4,c5⟩:=G.out.qx.c6;have E:=G.out.qx.lt;have X:=G.out.qx.zpe;obtain⟨e0,e1,e2,e3⟩:=H.out.c4;have h3:=H.out.lt;go_wp2_with fail;refine(ve M w4 F q x ⟨m,t,g,l,s,G.out⟩).mono ?_;rintro z w5 ⟨rfl,h5,t5⟩;have H5:=zc h5;have T5:=zc t5;clear h5 t5;go_wp2;go_ret;rw[HY.out]
 exact⟨rfl,H5.out,(zo8.zo7 b.out).trans T5.out fun k hk=>.inl hk⟩
theorem zgm(A:Int)(w:World)(F:Nat->Prop)(q:Nat)(x:Qu)(h:yA w F q x):Calls prog 145 #[.pointer (some ⟨q,0,none⟩),.int .i64 A] w (xk w F q (x.yield A)):=by
 obtain⟨m,t,g,B,E,D⟩:=h;cases hf:x.first with
 | none=>
  cases hg:zak g (x.get x.cur)with
  | none=>exact zfh A w F q m t g B E x D hf hg
  | some p=>exact zfi A w F q m t g B E x D p hf hg
 | some o=>
  cases hg:x.get x.cur with
  | none=>exact zh4 A w F q m t g B E x D o hf hg
  | some c=>
   cases hn:zqD o c A
   ·exact zh6 A w F q m t g B E x D o c hf hg hn
   ·exact zh5 A w F q m t g B E x D o c hf hg hn
end
structure Gr where
 up:Int
 deep:Int
 q:Qu
 own:En
 on:Bool
 st:Bool
structure Hm where
 credit:Int
 gran:Int
 gs:Nat->Option Gr
def Hm.set(h:Hm)(g:Nat)(x:Gr):Hm:={ h with gs:=fun k=>if k=g then some x else h.gs k }
def Gr.zpb(x:Gr)(q:Qu):Gr:={ x with q:=q }
def vj:Gr:=⟨-1,0,Qu.new,⟨0,0,0,0⟩,false,false⟩
def Hm.new(credit gran:Int):Hm:=⟨credit,gran,fun k=>if k=0 then some vj else none⟩
def zam(g:Nat)(u:Nat)(deep:Int):Gr:=⟨u,deep+1,Qu.new,⟨2*g+1,1024,0,0⟩,false,false⟩
def Gr.zpM(x:Gr)(min credit:Int):En:={ x.own with v:=zah x.own.v min credit }
def Gr.zpr(x:Gr):Bool:=!x.st && !x.q.l.isEmpty
def Gr.zqj(x:Gr)(min credit:Int):Gr:={ x with own:=x.zpM min credit,on:=true }
def Gr.go(x:Gr)(e:En):Gr:={ x with own:=e,on:=false }
def Gr.zpX(x:Gr)(q:Qu)(g:Nat):En:=(q.get (2*g+1)).getD x.own
def Hm.settle:Nat->Hm->Nat->Hm
 | 0,h,_=>h
 | n+1,h,g=>match h.gs g with
  | none=>h
  | some x=>if x.up<0 then h else match h.gs x.up.toNat with
   | none=>h
   | some u=>
    if x.zpr=x.on then h
    else if x.zpr=true then
     Hm.settle n ((h.set x.up.toNat (u.zpb (u.q.put (x.zpM u.q.min h.credit)))).set g (x.zqj u.q.min h.credit)) x.up.toNat
    else
     Hm.settle n ((h.set x.up.toNat (u.zpb (u.q.drop (2*g+1)))).set g (x.go (x.zpX u.q g))) x.up.toNat
def Qu.has(x:Qu)(i:Int):Prop:=∃e∈x.l,e.id=i
theorem zbz{x:Qu}{i:Int}:x.has i↔x.get i≠none:=by
 constructor
 ·rintro⟨e,he,A⟩ h;exact get_none h e he A
 ·intro h;cases hg:x.get i with
  | none=>exact absurd hg h
  | some e=>exact⟨e,(yh hg).1,(yh hg).2⟩
structure Hm.Ok(h:Hm):Prop where
 root:∃x,h.gs 0=some x/\x.up= -1/\x.deep=0
 zq4:∀g x,h.gs g=some x->g<32
 up:∀g x,h.gs g=some x->g≠0->∃(u:Nat) (y:Gr),x.up=u/\h.gs u=some y/\x.deep=y.deep+1
 deep:∀g x,h.gs g=some x->0<=x.deep/\x.deep<=8
 own:∀g x,h.gs g=some x->g≠0->x.own.Ok/\x.own.id=2*g+1
 q:∀g x,h.gs g=some x->x.q.Ok/\∀e∈x.q.l,e.id<128
 ztb:∀g x (c:Nat),h.gs g=some x->x.q.has (2*c+1)->∃y,h.gs c=some y/\y.up=g
 on:∀(g:Nat) x (c:Nat) y,h.gs g=some x->h.gs c=some y->y.up=g->(x.q.has (2*c+1)↔y.on=true)
structure yV(h h':Hm):Prop where
 cr:h'.credit=h.credit
 gr:h'.gran=h.gran
 gs:∀g,(h.gs g=none/\h'.gs g=none)∨∃x y,h.gs g=some x/\h'.gs g=some y/\y.up=x.up/\y.deep=x.deep
theorem yV.refl(h:Hm):yV h h:=⟨rfl,rfl,fun g=>by cases hg:h.gs g with
 | none=>exact .inl ⟨rfl,rfl⟩
 | some x=>exact .inr ⟨x,x,rfl,rfl,rfl,rfl⟩⟩
theorem yV.trans{a b c:Hm}(h:yV a b)(A:yV b c):yV a c:=⟨A.cr.trans h.cr,A.gr.trans h.gr,fun g=>by
 rcases h.gs g with⟨D,B⟩ | ⟨x,y,D,B,H,G⟩
 ·rcases A.gs g with⟨g1,g2⟩ | ⟨x',E,g1,g2,g3,g4⟩
  ·exact .inl ⟨D,g2⟩
  ·rw[B]at g1;cases g1
 ·rcases A.gs g with⟨g1,g2⟩ | ⟨x',E,g1,g2,g3,g4⟩
  ·rw[B]at g1;cases g1
  ·rw[B]at g1;cases g1;exact .inr ⟨x,E,D,g2,g3.trans H,g4.trans G⟩⟩
def Hm.even(h:Hm)(g:Nat)(i:Int):Prop:=∃x,h.gs g=some x/\x.q.has (2*i)
theorem Hm.Ok.turn{h B:Hm}(H:h.Ok)(N:yV h B)
 (X:∀g y,B.gs g=some y->g≠0->y.own.Ok/\y.own.id=2*g+1)
 (T:∀g y,B.gs g=some y->y.q.Ok/\∀e∈y.q.l,e.id<128)
 (U:∀g y (c:Nat),B.gs g=some y->y.q.has (2*c+1)->∃z,B.gs c=some z/\z.up=g)
 (O:∀(g:Nat) x (c:Nat) y,B.gs g=some x->B.gs c=some y->y.up=g->(x.q.has (2*c+1)↔y.on=true)):B.Ok:=by
 have back:∀g y,B.gs g=some y->∃x,h.gs g=some x/\y.up=x.up/\y.deep=x.deep:=fun g y D=>by
  rcases N.gs g with⟨g1,g2⟩ | ⟨x,z,g1,g2,g3,g4⟩
  ·rw[D]at g2;cases g2
  ·rw[D]at g2;cases g2;exact⟨x,g1,g3,g4⟩
 have A:∀g x,h.gs g=some x->∃y,B.gs g=some y/\y.up=x.up/\y.deep=x.deep:=fun g x E=>by
  rcases N.gs g with⟨g1,g2⟩ | ⟨x',z,g1,g2,g3,g4⟩
  ·rw[E]at g1;cases g1
  ·rw[E]at g1;cases g1;exact⟨z,g2,g3,g4⟩
 refine⟨?_,?_,?_,?_,X,T,U,O⟩
 ·obtain⟨x,E,hu,hd⟩:=H.root;obtain⟨y,D,I,G⟩:=A 0 x E;exact⟨y,D,by rw[I,hu],by rw[G,hd]⟩
 ·intro g y D;obtain⟨x,E,_⟩:=back g y D;exact H.zq4 g x E
 ·intro g y D J;obtain⟨x,E,I,G⟩:=back g y D;obtain⟨u,z,hu,V,hd⟩:=H.up g x E J;obtain⟨R,M,f1,f2⟩:=A u z V;exact⟨u,R,by rw[I,hu],M,by rw[G,f2,hd]⟩
 ·intro g y D;obtain⟨x,E,I,G⟩:=back g y D;rw[G];exact H.deep g x E
theorem zw(h:Hm)(g:Nat)(x:Gr):(h.set g x).gs g=some x:=by simp[Hm.set]
theorem zo(h:Hm){g k:Nat}(x:Gr)(A:k≠g):(h.set g x).gs k=h.gs k:=by simp[Hm.set,A]
theorem yV.set{h:Hm}{g:Nat}{x y:Gr}(A:h.gs g=some x)(hu:y.up=x.up)(hd:y.deep=x.deep):yV h (h.set g y):=⟨rfl,rfl,fun k=>by
 by_cases e:k=g
 ·subst e;exact .inr ⟨x,y,A,zw _ _ _,hu,hd⟩
 ·rw[zo h y e];exact(yV.refl h).gs k⟩
theorem Hm.Ok.set{h:Hm}(M:h.Ok){g:Nat}{x y:Gr}(R:h.gs g=some x)(hu:y.up=x.up)(hd:y.deep=x.deep)(N:y.on=x.on)(I:g≠0->y.own.Ok/\y.own.id=2*g+1)
 (X:y.q.Ok) (V:∀e∈y.q.l,e.id<128) (Y:∀c:Nat,y.q.has (2*c+1)↔x.q.has (2*c+1)):(h.set g y).Ok:=by
 have E:∀k z,(h.set g y).gs k=some z->∃B,h.gs k=some B/\B.up=z.up/\B.on=z.on/\∀c:Nat,z.q.has (2*c+1)↔B.q.has (2*c+1):=fun k z A=>by
  by_cases e:k=g
  ·subst e;rw[zw]at A;cases A;exact⟨x,R,hu.symm,N.symm,Y⟩
  ·rw[zo h y e]at A;exact⟨z,A,rfl,rfl,fun c=>Iff.rfl⟩
 have O:∀k z,h.gs k=some z->∃B,(h.set g y).gs k=some B/\B.up=z.up:=fun k z A=>by
  by_cases e:k=g
  ·subst e;rw[R]at A;cases A;exact⟨y,zw _ _ _,hu⟩
  ·exact⟨z,by rw[zo h y e];exact A,rfl⟩
 refine M.turn (yV.set R hu hd) ?_ ?_ ?_ ?_
 ·intro k z A J;by_cases e:k=g
  ·subst e;rw[zw]at A;cases A;exact I J
  ·rw[zo h y e]at A;exact M.own k z A J
 ·intro k z A;by_cases e:k=g
  ·subst e;rw[zw]at A;cases A;exact⟨X,V⟩
  ·rw[zo h y e]at A;exact M.q k z A
 ·intro k z c A Z;obtain⟨B,H,_,_,T⟩:=E k z A;obtain⟨v,U,G⟩:=M.ztb k B c H ((T c).1 Z);obtain⟨v',D,e⟩:=O c v U;exact⟨v',D,e.trans G⟩
 ·intro k z c v A U G;obtain⟨B,H,_,_,T⟩:=E k z A;obtain⟨v',D,f1,f2,_⟩:=E c v U;rw[T c,M.on k B c v' H D (f1.trans G),f2]
theorem vk{h:Hm}{g:Nat}{x y:Gr}(B:h.gs g=some x)(A:∀i,y.q.has (2*i)↔x.q.has (2*i))(k:Nat)(i:Int):(h.set g y).even k i↔h.even k i:=by
 unfold Hm.even;by_cases e:k=g
 ·subst e;rw[zw,B];simp[A]
 ·rw[zo h y e]
theorem Hm.Ok.step{h:Hm}(O:h.Ok){g u:Nat}{x y x' B:Gr}(Z:h.gs g=some x)(U:x.up=u)(Y:h.gs u=some y)(T:g≠u)
 (V:x'.up=x.up) (n:x'.deep=x.deep) (m:x'.q=x.q) (r:x'.own.Ok/\x'.own.id=2*g+1)
 (a:B.up=y.up) (K:B.deep=y.deep) (p:B.own=y.own) (P:B.on=y.on) (s:B.q.Ok) (F:∀e∈B.q.l,e.id<128)
 (C:∀c:Nat,c≠g->(B.q.has (2*c+1)↔y.q.has (2*c+1))) (o:B.q.has (2*g+1)↔x'.on=true):((h.set u B).set g x').Ok:=by
 have zpS:((h.set u B).set g x').gs g=some x':=zw _ _ _;have D:((h.set u B).set g x').gs u=some B:=by rw[zo _ _ (Ne.symm T),zw]
 have E:∀k,k≠g->k≠u->((h.set u B).set g x').gs k=h.gs k:=fun k L G=>by rw[zo _ _ L,zo _ _ G]
 have t:yV h ((h.set u B).set g x'):=(yV.set Y a K).trans (yV.set (by rw[zo _ _ T];exact Z) V n);have N:∀k z,((h.set u B).set g x').gs k=some z->∃H,h.gs k=some H/\H.up=z.up/\(k≠g->H.on=z.on)/\∀c:Nat,¬(c=g/\k=u)->(z.q.has (2*c+1)↔H.q.has (2*c+1)):=fun k z A=>by
  by_cases e:k=g
  ·subst e;rw[zpS]at A;cases A;exact⟨x,Z,V.symm,fun h=>absurd rfl h,fun c _=>by rw[m]⟩
  ·by_cases G:k=u
   ·subst G;rw[D]at A;cases A;exact⟨y,Y,a.symm,fun _=>P.symm,fun c j=>C c fun e=>j ⟨e,rfl⟩⟩
   ·rw[E k e G]at A;exact⟨z,A,rfl,fun _=>rfl,fun c _=>Iff.rfl⟩
 have d:∀k z,h.gs k=some z->∃H,((h.set u B).set g x').gs k=some H/\H.up=z.up:=fun k z A=>by
  by_cases e:k=g
  ·subst e;rw[Z]at A;cases A;exact⟨x',zpS,V⟩
  ·by_cases G:k=u
   ·subst G;rw[Y]at A;cases A;exact⟨B,D,a⟩
   ·exact⟨z,by rw[E k e G];exact A,rfl⟩
 refine O.turn t ?_ ?_ ?_ ?_
 ·intro k z A J;by_cases e:k=g
  ·subst e;rw[zpS]at A;cases A;exact r
  ·by_cases G:k=u
   ·subst G;rw[D]at A;cases A;rw[p];exact O.own k y Y J
   ·rw[E k e G]at A;exact O.own k z A J
 ·intro k z A;by_cases e:k=g
  ·subst e;rw[zpS]at A;cases A;rw[m];exact O.q k x Z
  ·by_cases G:k=u
   ·subst G;rw[D]at A;cases A;exact⟨s,F⟩
   ·rw[E k e G]at A;exact O.q k z A
 ·intro k z c A j;by_cases e:c=g/\k=u
  ·obtain⟨rfl,rfl⟩:=e;exact⟨x',zpS,V.trans U⟩
  ·obtain⟨H,R,_,_,f⟩:=N k z A;obtain⟨v,X,I⟩:=O.ztb k H c R ((f c e).1 j);obtain⟨v',M,b⟩:=d c v X;exact⟨v',M,b.trans I⟩
 ·intro k z c v A X I;by_cases e:c=g
  ·subst e;rw[zpS]at X;cases X;have:(k:Int)=u:=by rw[<-I,V,U]
   have:k=u:=by omega
   subst this;rw[D]at A;cases A;exact o
  ·obtain⟨H,R,_,_,f⟩:=N k z A;obtain⟨v',M,f1,f2,_⟩:=N c v X;rw[f c fun b=>e b.1,O.on k H c v' R M (f1.trans I),f2 e]
theorem zb1(x:Qu)(i:Int):x.raise.has i↔x.has i:=by unfold Qu.has;rw[qt]
theorem zbA{x:Qu}{e:En}(hx:x.Ok)(he:e.Ok)(A:x.get e.id=none)(hl:x.l.length<128):x.put e=({ x with l:=vE e x.l }:Qu).raise:=by
 obtain⟨h1,h2,h3,h4⟩:=he;have hm:uZ e.w=true:=by simp[uZ];omega
 unfold Qu.put Qu.zqe;rw[if_pos];rw[if_neg (by omega),if_neg (by rw[hm];simp),if_neg (by omega),if_neg (by rw[A];simp),if_neg (by omega)]
theorem zfj{x:Qu}{e:En}(G:x.Ok)(he:e.Ok)(E:x.get e.id=none)(D:x.l.length<128)(i:Int):(x.put e).has i↔i=e.id∨x.has i:=by
 rw[zbA G he E D,zb1];unfold Qu.has;simp only[yI];constructor
 ·rintro⟨a,rfl | B,A⟩
  ·exact .inl A.symm
  ·exact .inr ⟨a,B,A⟩
 ·rintro(h | ⟨a,B,A⟩)
  ·exact⟨e,.inl rfl,h.symm⟩
  ·exact⟨a,.inr B,A⟩
theorem zh7{x:Qu}{e:En}(D:x.Ok)(he:e.Ok)(B:x.get e.id=none)(A:x.l.length<128):(x.put e).Ok:=by rw[zbA D he B A];exact(D.put he B A).raise
theorem zfk{x y:Qu}(h:∀e∈x.l,e.id<128)(B:∀i,y.has i->x.has i):∀e∈y.l,e.id<128:=fun e he=>by obtain⟨a,A,D⟩:=B e.id ⟨e,he,rfl⟩;rw[<-D];exact h a A
theorem zfl{x:Qu}(A:x.Ok)(i:Int):(x.drop i).Ok:=by
 unfold Qu.drop;split
 ·exact A
 ·exact(A.zpq i).raise
theorem zdc{x:Qu}(hx:x.Ok)(i j:Int):(x.drop i).has j↔j≠i/\x.has j:=by
 unfold Qu.drop;split
 ·rename_i h;constructor
  ·rintro⟨e,he,rfl⟩;exact⟨get_none h e he,e,he,rfl⟩
  ·exact fun h=>h.2
 ·rw[zb1];unfold Qu.has;simp only[ya];constructor
  ·rintro⟨a,⟨A,B⟩,rfl⟩;exact⟨B,a,A,rfl⟩
  ·rintro⟨B,a,A,rfl⟩;exact⟨a,⟨A,B⟩,rfl⟩
theorem zaH(x:Qu)(i w j:Int):(x.zpo i w).has j↔x.has j:=by
 unfold Qu.zpo;split
 ·exact Iff.rfl
 ·split
  ·exact Iff.rfl
  ·unfold Qu.has;simp only[List.mem_map];constructor
   ·rintro⟨b,⟨a,B,rfl⟩,D⟩;refine⟨a,B,?_⟩;rw[<-D];by_cases A:ua i a=true <;> simp[A]
   ·rintro⟨a,B,D⟩;refine⟨_,⟨a,B,rfl⟩,?_⟩;rw[<-D];by_cases A:ua i a=true <;> simp[A]
theorem zbB(x:Qu)(A j:Int):(x.pick A).has j↔x.has j:=by
 have:(x.pick A).l=x.l:=by unfold Qu.pick;repeat' split <;> try rfl
 unfold Qu.has;rw[this]
theorem zb2(x:Qu)(A j:Int):(x.yield A).has j↔x.has j:=by
 unfold Qu.yield;split
 ·split
  ·exact Iff.rfl
  ·exact zbB x A j
 ·exact zbB x A j
theorem zdd{x:Qu}(ns j:Int):(x.zpg ns).has j↔x.has j:=by
 unfold Qu.zpg;split
 ·exact Iff.rfl
 ·rename_i e he;obtain⟨G,E⟩:=yh he;rw[zb1];unfold Qu.has;simp only[yI,ya];constructor
  ·rintro⟨a,rfl | ⟨B,_⟩,A⟩
   ·exact⟨e,G,A⟩
   ·exact⟨a,B,A⟩
  ·rintro⟨a,B,A⟩;by_cases D:a.id=x.cur
   ·exact⟨_,.inl rfl,by show e.id=j;rw[E,<-D,A]⟩
   ·exact⟨a,.inr ⟨B,D⟩,A⟩
theorem zgn:∀(n:Nat) (l:List Nat),l.Nodup->(∀x∈l,x<n)->l.length<=n
 | 0,l,_,h=>by cases l with
  | nil=>simp
  | cons a l=>exact absurd (h a (by simp)) (by omega)
 | n+1,l,hn,h=>by have:=zgn n (l.erase n) (hn.erase n) (fun x B=>by obtain⟨h1,A⟩:=hn.mem_erase_iff.1 B;have:=h x A;omega);rw[List.length_erase]at this;split at this <;> omega
theorem room{x:Qu}(E:x.Ok)(h:∀e∈x.l,e.id<128){i:Int}(hi:0<=i/\i<128)(M:x.get i=none):x.l.length<128:=by
 have B:((x.l.map fun e=>e.id.toNat)++ [i.toNat]).Nodup:=by
  rw[List.nodup_append];refine⟨?_,by simp,?_⟩
  ·have N:=E.ids;rw[show(x.l.map fun e=>e.id.toNat)=(x.l.map En.id).map Int.toNat by simp];refine List.Pairwise.map _ ?_ (List.Pairwise.and_mem.1 N);rintro a b ⟨D,hb,H⟩ e;obtain⟨G,A,rfl⟩:=List.mem_map.1 D;obtain⟨J,I,rfl⟩:=List.mem_map.1 hb;have:=(E.zpR G A).id;have:=(E.zpR J I).id;exact H (by omega)
  ·intro a D b hb e;obtain⟨G,A,rfl⟩:=List.mem_map.1 D;simp at hb;have:=(E.zpR G A).id;exact get_none M G A (by omega)
 have hs:∀n∈((x.l.map fun e=>e.id.toNat)++ [i.toNat]),n<128:=by
  intro n B;rcases List.mem_append.1 B with B | B
  ·obtain⟨a,D,rfl⟩:=List.mem_map.1 B;have:=(E.zpR a D).id;have:=h a D;omega
  ·simp at B;omega
 have:=zgn 128 _ B hs;simp at this;omega
theorem zde{v m c:Int}(A: -9223372036854775808<=v/\v<=9223372036854775807): -9223372036854775808<=zah v m c/\zah v m c<=9223372036854775807:=by
 unfold zah;split
 ·exact A
 ·unfold xD;split
  ·rename_i h;unfold uD at h;simp at h;omega
  ·split <;> omega
theorem Gr.zsb{x:Gr}(h:x.own.Ok)(m c:Int):(x.zpM m c).Ok:=⟨h.id,h.w,zde h.v,h.rem⟩
theorem zaI:∀(n:Nat) {h:Hm} (B:h.Ok) (g:Nat),(h.settle n g).Ok/\yV h (h.settle n g)/\∀k i,(h.settle n g).even k i↔h.even k i
 | 0,h,B,g=>⟨B,.refl h,fun k i=>Iff.rfl⟩
 | n+1,h,B,g=>by
  unfold Hm.settle;cases hx:h.gs g with
  | none=>exact⟨B,.refl h,fun k i=>Iff.rfl⟩
  | some x=>
   simp only;by_cases N:x.up<0
   ·rw[if_pos N];exact⟨B,.refl h,fun k i=>Iff.rfl⟩
   ·rw[if_neg N];have Y:g≠0:=by rintro rfl;obtain⟨r,s,hu,_⟩:=B.root;rw[hx]at s;cases s;omega
    obtain⟨u,y,I,G,hd⟩:=B.up g x hx Y;have e:x.up.toNat=u:=by rw[I];rfl
    rw[e,G];simp only;have H:g≠u:=by rintro rfl;rw[hx]at G;cases G;omega
    by_cases hs:x.zpr=x.on
    ·rw[if_pos hs];exact⟨B,.refl h,fun k i=>Iff.rfl⟩
    ·rw[if_neg hs];obtain⟨X,Z⟩:=B.own g x hx Y;obtain⟨D,U⟩:=B.q u y G;have h0:=B.zq4 g x hx;by_cases d:x.zpr=true
     ·rw[if_pos d];have V:x.on=false:=by cases hb:x.on with
       | false=>rfl
       | true=>rw[hb]at hs;exact absurd d hs
      have hw:=Gr.zsb (x:=x) X y.q.min h.credit;have A:(x.zpM y.q.min h.credit).id=2*g+1:=Z;have R:y.q.get (x.zpM y.q.min h.credit).id=none:=by
       rw[A];cases hgg:y.q.get (2*(g:Int)+1)with
       | none=>rfl
       | some a=>
        have:=(B.on u y g x G hx I).1 (zbz.2 (by rw[hgg];simp));rw[V]at this;cases this
      have hlen:=room D U (i:=2*(g:Int)+1) (by omega) (by rw[<-A];exact R);have J:=zfj D hw R hlen;have T:((h.set u (y.zpb (y.q.put (x.zpM y.q.min h.credit)))).set g (x.zqj y.q.min h.credit)).Ok:=by
       refine B.step hx I G H rfl rfl rfl ⟨hw,A⟩ rfl rfl rfl rfl (zh7 D hw R hlen) ?_ ?_ ?_
       ·intro a t;rcases(J a.id).1 ⟨a,t,rfl⟩with O | ⟨b,hb,m⟩
        ·rw[O,A];omega
        ·rw[<-m];exact U b hb
       ·intro c v;show(y.q.put _).has _↔_;rw[J,A];constructor
        ·rintro(O | O)
         ·omega
         ·exact O
        ·exact .inr
       ·show(y.q.put _).has _↔_;rw[J,A];exact⟨fun _=>rfl,fun _=>.inl rfl⟩
      have E:(h.set u (y.zpb (y.q.put (x.zpM y.q.min h.credit)))).gs g=some x:=by rw[zo _ _ H];exact hx
      have l:yV h ((h.set u (y.zpb (y.q.put (x.zpM y.q.min h.credit)))).set g (x.zqj y.q.min h.credit)):=
       (yV.set (y:=y.zpb (y.q.put (x.zpM y.q.min h.credit))) G rfl rfl).trans (yV.set (y:=x.zqj y.q.min h.credit) E rfl rfl)
      obtain⟨o,i2,i3⟩:=zaI n T u;refine⟨o,l.trans i2,fun k i=>?_⟩;have he:∀j,(y.zpb (y.q.put (x.zpM y.q.min h.credit))).q.has (2*j)↔y.q.has (2*j):=by
       intro j;show(y.q.put _).has _↔_;rw[J,A];constructor
       ·rintro(O | O)
        ·omega
        ·exact O
       ·exact .inr
      rw[i3,vk (y:=x.zqj y.q.min h.credit) E (fun i=>Iff.rfl),vk G he]
     ·rw[if_neg d];have f:x.zpr=false:=by simpa using d
      have V:x.on=true:=by cases hb:x.on with
       | true=>rfl
       | false=>rw[hb]at hs;exact absurd f hs
      have M:=zdc D (2*(g:Int)+1);have p:(x.zpX y.q g).Ok/\(x.zpX y.q g).id=2*g+1:=by
       unfold Gr.zpX;cases hgg:y.q.get (2*(g:Int)+1)with
       | none=>exact⟨X,Z⟩
       | some a=>exact⟨D.zpR a (yh hgg).1,(yh hgg).2⟩
      have T:((h.set u (y.zpb (y.q.drop (2*g+1)))).set g (x.go (x.zpX y.q g))).Ok:=by
       refine B.step hx I G H rfl rfl rfl p rfl rfl rfl rfl (zfl D _) (zfk U fun i m=>((M i).1 m).2) ?_ ?_
       ·intro c v;show(y.q.drop _).has _↔_;rw[M];exact⟨fun h=>h.2,fun h=>⟨by omega,h⟩⟩
       ·show(y.q.drop _).has _↔_;rw[M];exact⟨fun h=>absurd rfl h.1,fun h=>by cases h⟩
      have E:(h.set u (y.zpb (y.q.drop (2*g+1)))).gs g=some x:=by rw[zo _ _ H];exact hx
      have l:yV h ((h.set u (y.zpb (y.q.drop (2*g+1)))).set g (x.go (x.zpX y.q g))):=
       (yV.set (y:=y.zpb (y.q.drop (2*g+1))) G rfl rfl).trans (yV.set (y:=x.go (x.zpX y.q g)) E rfl rfl)
      obtain⟨o,i2,i3⟩:=zaI n T u;refine⟨o,l.trans i2,fun k i=>?_⟩;have he:∀j,(y.zpb (y.q.drop (2*g+1))).q.has (2*j)↔y.q.has (2*j):=by intro j;show(y.q.drop _).has _↔_;rw[M];exact⟨fun h=>h.2,fun h=>⟨by omega,h⟩⟩
      rw[i3,vk (y:=x.go (x.zpX y.q g)) E (fun i=>Iff.rfl),vk G he]
def zpQ(w:World)(b A:Nat)(x:Gr):Prop:=w.heap[b]?=some (.cells #[.int .i64 x.up,.int .i64 x.deep,.pointer (some ⟨A,0,none⟩),.int .i64 x.own.id,.int .u64 x.own.w,.int .i64 x.own.v,.int .u64 x.own.rem,.bool x.on,.bool x.st] 138 (0,0))
theorem zpQ.lt{w:World}{b A:Nat}{x:Gr}(h:zpQ w b A x):b<w.heap.size:=(zd h).1
theorem zpQ.c9{w:World}{b A:Nat}{x:Gr}(h:zpQ w b A x):w.cell? ⟨b,0,none⟩=some (.int .i64 x.up)/\w.cell? ⟨b,1,none⟩=some (.int .i64 x.deep)/\w.cell? ⟨b,2,none⟩=some (.pointer (some ⟨A,0,none⟩))/\w.cell? ⟨b,3,none⟩=some (.int .i64 x.own.id)/\w.cell? ⟨b,4,none⟩=some (.int .u64 x.own.w)/\w.cell? ⟨b,5,none⟩=some (.int .i64 x.own.v)/\w.cell? ⟨b,6,none⟩=some (.int .u64 x.own.rem)/\w.cell? ⟨b,7,none⟩=some (.bool x.on)/\w.cell? ⟨b,8,none⟩=some (.bool x.st):=by unfold zpQ at h;refine⟨?_,?_,?_,?_,?_,?_,?_,?_,?_⟩ <;> simp[World.cell?,h]
theorem zpQ.zpe{w:World}{b A:Nat}{x:Gr}(h:zpQ w b A x):∀j,w.frozen? ⟨b,j,none⟩=false:=by intro j;unfold zpQ at h;simp[World.frozen?,h]
theorem zpQ.of{w w':World}{b A:Nat}{x:Gr}(h:zpQ w b A x)(hb:w'.heap[b]?=w.heap[b]?):zpQ w' b A x:=hb.trans h
theorem zpQ.behind{w w':World}{b A:Nat}{x:Gr}(h:zpQ w b A x)(hb:Below w.heap.size w w'):zpQ w' b A x:=h.of (hb.block b h.lt)
theorem zpQ.zsF{w:World}{b A:Nat}{x:Gr}(h:zpQ w b A x)(v:Int):zpQ (w.setCell ⟨b,5,none⟩ (.int .i64 v)) b A { x with own:={ x.own with v:=v } }:=zi h
theorem zpQ.ztv{w:World}{b A:Nat}{x:Gr}(h:zpQ w b A x)(v:Int):zpQ (w.setCell ⟨b,4,none⟩ (.int .u64 v)) b A { x with own:={ x.own with w:=v } }:=zi h
theorem zpQ.zrg{w:World}{b A:Nat}{x:Gr}(h:zpQ w b A x)(v:Int):zpQ (w.setCell ⟨b,6,none⟩ (.int .u64 v)) b A { x with own:={ x.own with rem:=v } }:=zi h
theorem zpQ.zsV{w:World}{b A:Nat}{x:Gr}(h:zpQ w b A x)(v:Bool):zpQ (w.setCell ⟨b,7,none⟩ (.bool v)) b A { x with on:=v }:=zi h
theorem zpQ.setSt{w:World}{b A:Nat}{x:Gr}(h:zpQ w b A x)(v:Bool):zpQ (w.setCell ⟨b,8,none⟩ (.bool v)) b A { x with st:=v }:=zi h
theorem zpQ.zsW{w:World}{b A:Nat}{x:Gr}(h:zpQ w b A x)(e:En):zpQ ((((w.setCell ⟨b,3,none⟩ (.int .i64 e.id)).setCell ⟨b,4,none⟩ (.int .u64 e.w)).setCell ⟨b,5,none⟩ (.int .i64 e.v)).setCell ⟨b,6,none⟩ (.int .u64 e.rem)) b A { x with own:=e }:=by have E:(w.setCell ⟨b,3,none⟩ (.int .i64 e.id)).heap[b]?=_:=zi h;have D:=zi (i:=4) (u:=.int .u64 e.w) E;have B:=zi (i:=5) (u:=.int .i64 e.v) D;exact zi (i:=6) (u:=.int .u64 e.rem) B
structure zra(w:World)(p:Nat)(credit gran:Int)(ps:Nat->Option Nat):Prop where
 ty:∃cs,w.heap[p]?=some (.cells cs 152 (0,0))
 c0:w.cell? ⟨p,0,none⟩=some (.int .i64 credit)
 c1:w.cell? ⟨p,1,none⟩=some (.int .i64 gran)
 cs:∀k,k<32->w.cell? ⟨p,k+2,none⟩=some (.pointer ((ps k).map fun b=>⟨b,0,none⟩))
theorem zra.lt{w:World}{p:Nat}{credit gran:Int}{ps:Nat->Option Nat}(h:zra w p credit gran ps):p<w.heap.size:=by obtain⟨cs,A⟩:=h.ty;exact(zd A).1
theorem zra.zpe{w:World}{p:Nat}{credit gran:Int}{ps:Nat->Option Nat}(h:zra w p credit gran ps):∀j,w.frozen? ⟨p,j,none⟩=false:=by intro j;obtain⟨cs,A⟩:=h.ty;simp[World.frozen?,A]
theorem zra.of{w w':World}{p:Nat}{credit gran:Int}{ps:Nat->Option Nat}(h:zra w p credit gran ps)(hb:w'.heap[p]?=w.heap[p]?):zra w' p credit gran ps:=by
 obtain⟨cs,B⟩:=h.ty;have e:∀j,w'.cell? ⟨p,j,none⟩=w.cell? ⟨p,j,none⟩:=fun j=>by simp[World.cell?,hb]
 exact⟨⟨cs,hb.trans B⟩,by rw[e];exact h.c0,by rw[e];exact h.c1,fun k A=>by rw[e];exact h.cs k A⟩
theorem zra.behind{w w':World}{p:Nat}{credit gran:Int}{ps:Nat->Option Nat}(h:zra w p credit gran ps)(hb:Below w.heap.size w w'):zra w' p credit gran ps:=h.of (hb.block p h.lt)
theorem zra.ztx{w:World}{p b D:Nat}{credit gran:Int}{ps:Nat->Option Nat}{x:Gr}(h:zra w p credit gran ps)(A:zpQ w b D x):p≠b:=by rintro rfl;obtain⟨cs,B⟩:=h.ty;unfold zpQ at A;rw[A]at B;simp at B
structure HS(w:World)(F:Nat->Prop)(p:Nat)(h:Hm)(ps:Nat->Option Nat)(qs tg:Nat->Nat):Prop where
 hx:zra w p h.credit h.gran ps
 zsX:∀g,h.gs g=none->ps g=none
 gx:∀g x,h.gs g=some x->∃b,ps g=some b/\F b/\tg b=0/\zpQ w b (qs g) x/\yA w (fun k=>F k/\tg k=g+1) (qs g) x.q
 inj:∀g g' b,ps g=some b->ps g'=some b->g=g'
 fp:F p
 tp:tg p=0
def zB(w:World)(F:Nat->Prop)(p:Nat)(h:Hm):Prop:=(∃ps qs tg,HS w F p h ps qs tg)/\h.Ok
theorem HS.kept{w w':World}{F:Nat->Prop}{p:Nat}{h:Hm}{ps:Nat->Option Nat}{G E:Nat->Nat}(hs:HS w F p h ps G E)(A:zY F w w'):HS w' F p h ps G E:=
 ⟨hs.hx.of (A p hs.hx.lt hs.fp),hs.zsX,fun g x H=>by obtain⟨b,I,B,O,D,J⟩:=hs.gx g x H;exact⟨b,I,B,O,D.of (A b D.lt B),J.kept fun k N M=>A k N M.1⟩,hs.inj,hs.fp,hs.tp⟩
theorem HS.mono{w:World}{F G:Nat->Prop}{p:Nat}{h:Hm}{ps:Nat->Option Nat}{H E:Nat->Nat}(hs:HS w F p h ps H E)(A:∀k,k<w.heap.size->F k->G k):HS w G p h ps H E:=
 ⟨hs.hx,hs.zsX,fun g x J=>by obtain⟨b,M,I,R,B,N⟩:=hs.gx g x J;exact⟨b,M,A b B.lt I,R,B,N.mono fun k O D=>⟨A k O D.1,D.2⟩⟩,hs.inj,A p hs.hx.lt hs.fp,hs.tp⟩
theorem zB.kept{w w':World}{F:Nat->Prop}{p:Nat}{h:Hm}(G:zB w F p h)(A:zY F w w'):zB w' F p h:=by obtain⟨⟨ps,E,B,hs⟩,D⟩:=G;exact⟨⟨ps,E,B,hs.kept A⟩,D⟩
theorem zB.mono{w:World}{F G:Nat->Prop}{p:Nat}{h:Hm}(E:zB w F p h)(H:∀k,k<w.heap.size->F k->G k):zB w G p h:=by obtain⟨⟨ps,D,A,hs⟩,B⟩:=E;exact⟨⟨ps,D,A,hs.mono H⟩,B⟩
theorem zB.behind{w w':World}{F:Nat->Prop}{p:Nat}{h:Hm}(A:zB w F p h)(hb:Below w.heap.size w w'):zB w' F p h:=A.kept (.zo7 hb)
theorem yA.ex{w:World}{F:Nat->Prop}{q:Nat}{x:Qu}(h:yA w F q x):∃m t A B,Qx w q m t x.cur x.min A B/\F q:=by obtain⟨m,t,g,A,B,D⟩:=h;exact⟨m,t,A,B,D.qx,D.oq⟩
theorem HS.zpt{w w':World}{F:Nat->Prop}{p:Nat}{h:Hm}{ps:Nat->Option Nat}{M D:Nat->Nat}(hs:HS w F p h ps M D){g b:Nat}{x y:Gr}(v:h.gs g=some x)(hb:ps g=some b)
 (N:zo8 (fun k=>k=b∨(F k/\D k=g+1)) w w') (o:zpQ w' b (M g) y) (r:yA w' (Ext (fun k=>F k/\D k=g+1) w w') (M g) y.q):
 HS w' (Ext F w w') p (h.set g y) ps M (fun k=>if k<w.heap.size then D k else g+1):=by
 obtain⟨O,J,u,tb,gb,qb⟩:=hs.gx g x v;obtain rfl:O=b:=by rw[hb]at J;exact(Option.some.inj J).symm
 have h0:∀k,k<w.heap.size->(fun k=>if k<w.heap.size then D k else g+1) k=D k:=fun k I=>by simp[I]
 refine⟨?_,?_,?_,hs.inj,.inl hs.fp,?_⟩
 ·refine hs.hx.of (N.block p hs.hx.lt ?_);rintro(e | ⟨_,e⟩)
  ·exact hs.hx.ztx gb e
  ·rw[hs.tp]at e;omega
 ·intro k I;by_cases e:k=g
  ·subst e;rw[zw]at I;cases I
  ·rw[zo h y e]at I;exact hs.zsX k I
 ·intro k z R;by_cases e:k=g
  ·subst e;rw[zw]at R;cases R;refine⟨O,hb,.inl u,by rw[if_pos gb.lt];exact tb,o,r.mono fun j H A=>?_⟩;rcases A with⟨E,G⟩ | ⟨E,G⟩
   ·by_cases a:j<w.heap.size
    ·exact⟨.inl E,by rw[if_pos a];exact G⟩
    ·exact⟨.inl E,by rw[if_neg a]⟩
   ·exact⟨.inr ⟨E,G⟩,by rw[if_neg (by omega)]⟩
  ·rw[zo h y e]at R;obtain⟨c,Z,n,d,V,s⟩:=hs.gx k z R;have T:c≠O:=fun B=>e (hs.inj k g O (B▸Z) hb);have U:∀j,j<w.heap.size->F j/\D j=k+1->w'.heap[j]?=w.heap[j]?:=fun j H A=>N.block j H (by
    rintro(B | ⟨_,B⟩)
    ·rw[B,tb]at A;omega
    ·rw[A.2]at B;omega)
   refine⟨c,Z,.inl n,by rw[if_pos V.lt];exact d,V.of (N.block c V.lt (by rintro(B | ⟨_,B⟩);exact T B;rw[d]at B;omega)),?_⟩;have h7:=N.size;obtain⟨m,t,Y,l,f,X⟩:=s;have C:QS w' (fun j=>F j/\D j=k+1/\j<w.heap.size) (M k) m t Y l f z.q:=(X.mono fun j H A=>⟨A.1,A.2,H⟩).kept fun j H A=>U j H ⟨A.1,A.2.1⟩;exact⟨m,t,Y,l,f,C.mono fun j H A=>⟨.inl A.1,by rw[if_pos A.2.2];exact A.2.1⟩⟩
 ·show(if p<w.heap.size then D p else g+1)=0;rw[if_pos hs.hx.lt];exact hs.tp
theorem Ext.trans{F:Nat->Prop}{a b c:World}(h1:a.heap.size<=b.heap.size)(h2:b.heap.size<=c.heap.size)(k:Nat)(h:Ext (Ext F a b) b c k):Ext F a c k:=by
 rcases h with(h | ⟨B,A⟩) | ⟨B,A⟩
 ·exact .inl h
 ·exact .inr ⟨B,by omega⟩
 ·exact .inr ⟨by omega,A⟩
section
attribute [local go_sem ↓] Go.wp_at_zero Go.wp_at_succ
theorem zra.at{w:World}{p:Nat}{credit gran:Int}{ps:Nat->Option Nat}(h:zra w p credit gran ps){k:Nat}(A:k<32):w.cell? ⟨p,2+k,none⟩=some (.pointer ((ps k).map fun b=>⟨b,0,none⟩)):=by rw[Nat.add_comm];exact h.cs k A
theorem uF(w:World)(p k:Nat)(credit gran:Int)(ps:Nat->Option Nat)(h:zra w p credit gran ps)(B:k<32):
 Calls prog 120 #[.pointer (some ⟨p,0,none⟩),.int .i64 k] w fun z w'=>z=.returned (.pointer ((ps k).map fun b=>⟨b,0,none⟩))/\w'=w:=by
 have D:=h.at B;have hl:=h.lt;obtain⟨v,A⟩:=zh ((ps k).map fun b=>(⟨b,0,none⟩:Addr))
 rw[<-A]at D ⊢;clear h A;go_enter func120,ntmps120;go_wp2;go_ret;exact⟨rfl,rfl⟩
theorem vN(w:World)(p k:Nat)(credit gran:Int)(ps:Nat->Option Nat)(h:zra w p credit gran ps)(D:k<32)(h0:k≠0):
 Calls prog 66 #[.pointer (some ⟨p,0,none⟩),.int .i64 k] w fun z w'=>z=.returned (.pointer ((ps k).map fun b=>⟨b,0,none⟩))/\w'=w:=by
 have A:=zc (uF w p k credit gran ps h D);have hl:=h.lt;have hb:((k:Int) == 0)=false:=beq_eq_false_iff_ne.2 (by omega);obtain⟨v,B⟩:=zh ((ps k).map fun b=>(⟨b,0,none⟩:Addr))
 rw[<-B]at A ⊢;clear h B;go_enter func66,ntmps66;go_wp2_with fail;refine A.out.mono ?_;rintro z w2 ⟨rfl,hw⟩;obtain rfl:=hw.symm;go_wp2;go_ret;exact⟨rfl,rfl⟩
theorem zfm(w:World)(p:Nat):Calls prog 66 #[.pointer (some ⟨p,0,none⟩),.int .i64 0] w fun z w'=>z=.returned (.pointer none)/\w'=w:=by go_enter func66,ntmps66;go_wp2;go_ret;exact⟨rfl,rfl⟩
theorem zaJ(w:World)(k:Nat)(hk:k<32):Calls prog 123 #[.int .i64 k] w fun z w'=>z=.returned (.int .i64 (2*k+1))/\w'=w:=by go_enter func123,ntmps123;go_wp2;go_ret;exact⟨by go_num,rfl⟩
theorem zan(w:World)(k:Nat)(hk:k<64):Calls prog 139 #[.int .i64 k] w fun z w'=>z=.returned (.bool true)/\w'=w:=by
 go_enter func139,ntmps139;go_wp2;go_ret;have hd:decide ((k:Int) <64)=true:=by simp;omega
 simp[hd]
theorem zl3(w:World)(F:Nat->Prop)(p k:Nat)(h:Hm)(x:Gr)(R:zB w F p h)(J:h.gs k=some x):Calls prog 136 #[.pointer (some ⟨p,0,none⟩),.int .i64 k] w fun z w'=>z=.returned (.int .i64 x.q.min)/\w'=w:=by
 obtain⟨⟨ps,O,tg,hs⟩,A⟩:=R;have N:=A.zq4 k x J;obtain⟨b,G,M,T,B,H⟩:=hs.gx k x J;have I:=zc (uF w p k h.credit h.gran ps hs.hx N);rw[G]at I;have D:=zc H;obtain⟨c0,c1,c2,c3,c4,c5,c6,c7,c8⟩:=B.c9;have h0:=B.lt;obtain⟨q,E⟩:=zh (O k)
 rw[<-E]at c2 D;clear hs A G M T B H E;go_enter func136,ntmps136;go_wp2_with fail;refine I.out.mono ?_;rintro z U ⟨rfl,hw⟩;obtain rfl:=hw.symm;go_wp2_with fail;refine(zew w _ q x.q D.out).mono ?_;rintro z U ⟨rfl,hw⟩;obtain rfl:=hw.symm;go_wp2;go_ret;exact⟨rfl,rfl⟩
theorem zeg(w:World)(F:Nat->Prop)(p k:Nat)(h:Hm)(G:zB w F p h)(E:k<32)(H:h.gs k=none):Calls prog 136 #[.pointer (some ⟨p,0,none⟩),.int .i64 k] w fun z w'=>z=.returned (.int .i64 0)/\w'=w:=by obtain⟨⟨ps,qs,tg,hs⟩,A⟩:=G;have B:=hs.zsX k H;have D:=zc (uF w p k h.credit h.gran ps hs.hx E);rw[B]at D;clear hs A B;go_enter func136,ntmps136;go_wp2_with fail;refine D.out.mono ?_;rintro z w2 ⟨rfl,hw⟩;obtain rfl:=hw.symm;go_wp2;go_ret;exact⟨rfl,rfl⟩
theorem zfn(w:World)(F:Nat->Prop)(p k:Nat)(h:Hm)(x:Gr)(N:zB w F p h)(G:h.gs k=some x)(I:k≠0):Calls prog 31 #[.pointer (some ⟨p,0,none⟩),.int .i64 k] w fun z w'=>z=.returned (.bool x.st)/\w'=w:=by obtain⟨⟨ps,qs,tg,hs⟩,A⟩:=N;have J:=A.zq4 k x G;obtain⟨b,D,H,O,B,M⟩:=hs.gx k x G;have E:=zc (vN w p k h.credit h.gran ps hs.hx J I);rw[D]at E;obtain⟨c0,c1,c2,c3,c4,c5,c6,c7,c8⟩:=B.c9;have h6:=B.lt;clear hs A D H O B M;go_enter func31,ntmps31;go_wp2_with fail;refine E.out.mono ?_;rintro z w2 ⟨rfl,hw⟩;obtain rfl:=hw.symm;go_wp2;go_ret;exact⟨rfl,rfl⟩
end
theorem zcJ{P:Program}(w:World){ops:Array Oper}{rest:List Oper}{o:Oper}{a:Act}{Q:Exit->Act->World->Prop}(G:o.guard=none)(t:TypeId)(x:Operand)(D:o.op=Op.load t x)(v0 v:Value)(H:a.eval x=v0)
 (A:(Go.Instr.loadAt t v0).run P w=.ok v w) (E:wpList P ops Q rest (a.put o.dst v) w):wpList P ops Q (o::rest) a w:=by
 refine wpList_plain G fun K B=>?_;unfold Oper.wp;simp[execOp,D,H,A,Result.andThen];exact B _ _ E
theorem zok(fn:Nat->Value)(k:Nat)(h:k<32):(((List.range 32).map fn).toArray)[k]?=some (fn k):=by rw[List.getElem?_toArray,List.getElem?_map,List.getElem?_range h];rfl
section
attribute [local go_sem ↓] Go.wp_at_zero Go.wp_at_succ
theorem zoV(x y p:Nat)(hp:x*y=p)(I:x<18446744073709551616)(H:y<18446744073709551616)(w:World):
 Calls prog 191 #[.int .u64 x,.int .u64 y] w fun e w'=>e=.returned (.tuple #[.int .u64 ((p/18446744073709551616:Nat):Int),.int .u64 ((p%18446744073709551616:Nat):Int)])/\w=w':=by
 obtain⟨bd,J,M,E⟩:=Lib.mul64_hi x y I H;have ba:=Lib.half_mul_le (a:=x/4294967296) (b:=y/4294967296) (by omega) (by omega);have bb:=Lib.half_mul_le (a:=x/4294967296) (b:=y%4294967296) (by omega) (by omega);have bc:=Lib.half_mul_le (a:=x%4294967296) (b:=y/4294967296) (by omega) (by omega);have G:x/4294967296*(y/4294967296) <18446744073709551616:=by omega
 have A:x/4294967296*(y%4294967296) <18446744073709551616:=by omega
 have B:x%4294967296*(y/4294967296) <18446744073709551616:=by omega
 have D:x/4294967296*(y/4294967296)+(x/4294967296*(y%4294967296)+x%4294967296*(y%4294967296) /4294967296) /4294967296<18446744073709551616:=by omega
 have N:x/4294967296*(y/4294967296)+(x/4294967296*(y%4294967296)+x%4294967296*(y%4294967296) /4294967296) /4294967296+((x/4294967296*(y%4294967296)+x%4294967296*(y%4294967296) /4294967296) %4294967296+x%4294967296*(y/4294967296)) /4294967296<18446744073709551616:=by omega
 subst hp;go_enter func191,ntmps191;go_wp2;simp only[Mul64.maskN x I,Mul64.maskN y H,Mul64.divN,Mul64.mulN,Mul64.addN,Mul64.wrapN _ bd,Mul64.wrapN _ A,Mul64.wrapN _ J,Mul64.maskN _ J,Mul64.wrapN _ B,Mul64.wrapN _ M,Mul64.wrapN _ G,Mul64.wrapN _ D,Mul64.wrapN _ N,Mul64.wrapM (x*y)];rw[E];go_ret2;exact⟨rfl,rfl⟩
theorem zoW(A y:Int)(w:World)(D:0<=A/\A<=18446744073709551615)(h2:1<=y/\y<=18446744073709551615):
 Calls prog 142 #[.int .u64 0,.int .u64 A,.int .u64 y] w fun e w'=>e=.returned (.tuple #[.int .u64 (A/y),.int .u64 (A%y)])/\Below w.heap.size w w':=by
 have B:¬y=0:=by omega
 have h3:¬y<=0:=by omega
 have h4:(y == 0)=false:=beq_eq_false_iff_ne.2 B;have hq:=Int.ediv_nonneg D.1 (by omega:0<=y);have h5:A/y<=A:=Int.ediv_le_self _ D.1;have hr:=Int.emod_nonneg A B;have h0:=Int.emod_lt_of_pos A (by omega:0<y);have ht:Int.tdiv A y=A/y:=Int.tdiv_eq_ediv_of_nonneg D.1;have zpZ:Int.tmod A y=A%y:=Int.tmod_eq_emod_of_nonneg D.1;go_enter func142,ntmps142;go_wp2_with fail;go_quiet (fail);go_wp2;go_ret2;exact⟨rfl,zp (Below.refl _ w) _⟩
def Wx(w:World)(b:Nat)(x y:Int):Prop:=w.heap[b]?=some (.cells #[.int .u64 x,.int .u64 y] 238 (0,0))
theorem Wx.c2{w:World}{b:Nat}{x y:Int}(h:Wx w b x y):w.cell? ⟨b,0,none⟩=some (.int .u64 x)/\w.cell? ⟨b,1,none⟩=some (.int .u64 y):=by unfold Wx at h;refine⟨?_,?_⟩ <;> simp[World.cell?,h]
theorem Wx.zpe{w:World}{b:Nat}{x y:Int}(h:Wx w b x y):∀j,w.frozen? ⟨b,j,none⟩=false:=by intro j;unfold Wx at h;simp[World.frozen?,h]
theorem Wx.lt{w:World}{b:Nat}{x y:Int}(h:Wx w b x y):b<w.heap.size:=(zd h).1
theorem Wx.set2{w:World}{b:Nat}{x y:Int}(h:Wx w b x y)(u v:Int):Wx ((w.setCell ⟨b,0,none⟩ (.int .u64 u)).setCell ⟨b,1,none⟩ (.int .u64 v)) b u v:=by have A:(w.setCell ⟨b,0,none⟩ (.int .u64 u)).heap[b]?=_:=zi h;exact zi A
theorem zgo(a b:Nat)(w:World)(O:a<18446744073709551616)(hb:b<18446744073709551616)(h:a*b<18446744073709551616):
 Calls prog 141 #[.int .u64 a,.int .u64 b] w fun e w'=>e=.returned (.agg #[.int .u64 0,.int .u64 ((a*b:Nat):Int)])/\Below w.heap.size w w':=by
 obtain⟨p,hp⟩:∃p,a*b=p:=⟨_,rfl⟩
 rw[hp]at h ⊢;have T:=zc hp;clear hp;have I:p/18446744073709551616=0:=by omega
 have H:p%18446744073709551616=p:=by omega
 have R:=zc I;have N:=zc H;clear I H;go_enter func141,ntmps141;go_upto_region 1 with(fail)
 obtain⟨w1,A⟩:=zh (w.alloc (.cells #[.int .u64 0,.int .u64 0] 238))
 have G:Below w.heap.size w w1:=by rw[A];exact zk w _
 have D:Wx w1 w.heap.size 0 0:=by rw[A];exact heap_alloc_new w _
 obtain⟨m,hm⟩:=zh w.heap.size
 have E:w.heap.size<=m:=by omega
 rw[<-A];rw[<-hm]at D ⊢;have J:=zc E;have B:=zc D;have M:=zc G;clear hm G D A E;obtain⟨c0,c1⟩:=B.out.c2;have hl:=B.out.lt;have hf:=B.out.zpe;go_wp2_with fail;refine(zoV a b p T.out O hb _).mono ?_;rintro z w2 ⟨rfl,hw⟩;obtain rfl:=hw;rw[R.out,N.out];go_wp2;refine bodyPost_ret (v:=.agg #[.int .u64 0,.int .u64 p]) ?_ rfl ⟨rfl,?_⟩
 ·obtain⟨g0,g1⟩:=(B.out.set2 0 p).c2;simp[results,results141,go_sem,g0,g1]
 ·exact yy M.out J.out
theorem zdf(a b c:Nat)(w:World)(T:a<18446744073709551616)(hb:b<18446744073709551616)(hc:1<=c/\c<18446744073709551616)(h:a*b<18446744073709551616):
 Calls prog 91 #[.int .u64 a,.int .u64 b,.int .u64 c] w fun e w'=>e=.returned (.tuple #[.int .u64 ((a*b/c:Nat):Int),.int .u64 ((a*b%c:Nat):Int),.bool true])/\Below w.heap.size w w':=by
 obtain⟨p,hp⟩:∃p,a*b=p:=⟨_,rfl⟩
 have R:=zc (zgo a b w T hb h);rw[hp]at h R ⊢;have h0:¬(c:Int)<=0:=by omega
 clear hp;go_enter func91,ntmps91;go_wp2_with fail;refine R.out.mono ?_;rintro z E ⟨rfl,B⟩;have I:=zc B;have h1:=B.size;clear B;go_upto_region 2 with(fail)
 obtain⟨N,A⟩:=zh (E.alloc (.cells #[.int .u64 0,.int .u64 p] 238))
 have M:Below E.heap.size E N:=by rw[A];exact zk E _
 have D:Wx N E.heap.size 0 p:=by rw[A];exact heap_alloc_new E _
 obtain⟨m,hm⟩:=zh E.heap.size
 rw[<-A];rw[<-hm]at D ⊢;have H:=zc D;have G:=zc (zj I.out M I.out.size);clear hm M D A;obtain⟨c0,c1⟩:=H.out.c2;have hl:=H.out.lt;go_wp2_with fail;refine(zoW p c _ ⟨by omega,by omega⟩ ⟨by omega,by omega⟩).mono ?_;rintro z w4 ⟨rfl,J⟩;have O:=zc (zj G.out J G.out.size);clear J;go_wp2;go_ret3;simp only[];exact⟨by simp,O.out⟩
theorem zbC(a b c:Int)(w:World)(E:0<=a/\a<=18446744073709551615)(hb:0<=b/\b<=18446744073709551615)(hc:1<=c/\c<=18446744073709551615)(h:a*b<=18446744073709551615):
 Calls prog 91 #[.int .u64 a,.int .u64 b,.int .u64 c] w fun e w'=>e=.returned (.tuple #[.int .u64 (a*b/c),.int .u64 (a*b%c),.bool true])/\Below w.heap.size w w':=by
 obtain⟨A,rfl⟩:=Int.eq_ofNat_of_zero_le E.1;obtain⟨B,rfl⟩:=Int.eq_ofNat_of_zero_le hb.1;obtain⟨G,rfl⟩:=Int.eq_ofNat_of_zero_le (by omega:0<=c);have D:A*B<18446744073709551616:=by
  have:((A*B:Nat):Int)<=18446744073709551615:=by rw[Int.natCast_mul];exact h
  omega
 have:=zdf A B G w (by omega) (by omega) ⟨by omega,by omega⟩ D;rw[Int.natCast_ediv,Int.natCast_emod,Int.natCast_mul]at this;exact this
theorem zaK{a b:Int}(A:0<=a/\a<=4294967295)(hb:0<=b/\b<=4294967296):a*b<=18446744073709551615:=by have:=Int.mul_le_mul A.2 hb.2 hb.1 (by omega);omega
def xN(i w:Int)(a:En):En:=if ua i a then{ a with rem:=a.rem*w/a.w,w:=w }else a
theorem zb3(i w:Int)(a:En):(xN i w a).id=a.id:=by unfold xN;split <;> rfl
theorem zdg(i w:Int)(a:En):(xN i w a).key=a.key:=by unfold xN;split <;> rfl
theorem zfo{r n d:Int}(B:0<=r)(A:r<d)(h3:1<=n):0<=r*n/d/\r*n/d<n:=by refine⟨Int.ediv_nonneg (Int.mul_nonneg B (by omega)) (by omega),?_⟩;refine Int.ediv_lt_of_lt_mul (by omega) ?_;rw[Int.mul_comm n d];exact Int.mul_lt_mul_of_pos_right A (by omega)
theorem zkj{i w:Int}{a:En}(h:a.Ok)(B:2<=w)(A:w<=262144):(xN i w a).Ok:=by
 unfold xN;split
 ·exact⟨h.id,⟨B,A⟩,h.v,zfo h.rem.1 h.rem.2 (by omega)⟩
 ·exact h
theorem zl4{x:Qu}{i w:Int}{e:En}(A:x.get i=some e)(h1:2<=w)(h2:w<=262144):x.zpo i w={ x with l:=x.l.map (xN i w) }:=by
 have hm:uZ w=true:=by simp[uZ];omega
 unfold Qu.zpo;rw[A];simp only;rw[if_neg (by rw[hm];simp)];rfl
theorem Qu.Ok.zpo{x:Qu}(h:x.Ok){i w:Int}(G:2<=w)(E:w<=262144):({ x with l:=x.l.map (xN i w) }:Qu).Ok:=by
 have D:(x.l.map (xN i w)).map En.id=x.l.map En.id:=by rw[List.map_map];exact List.map_congr_left fun a _=>zb3 i w a
 have H:(x.l.map (xN i w)).map En.key=x.l.map En.key:=by rw[List.map_map];exact List.map_congr_left fun a _=>zdg i w a
 refine⟨?_,by simp only;rw[D];exact h.ids,by simp only;rw[H];exact h.ord,?_,h.min,by simp only[List.length_map];exact h.len⟩
 ·intro e he;obtain⟨a,A,rfl⟩:=List.mem_map.1 he;exact zkj (h.zpR a A) G E
 ·rcases h.cur with B | ⟨a,A,B⟩
  ·exact .inl B
  ·exact .inr ⟨_,List.mem_map.2 ⟨a,A,rfl⟩,by rw[zb3];exact B⟩
theorem zgp{x:Qu}(h:x.Ok)(i w:Int):(x.zpo i w).Ok:=by
 unfold Qu.zpo;split
 ·exact h
 ·split
  ·exact h
  ·rename_i hm;have:2<=w/\w<=262144:=by simpa[uZ]using hm
   exact h.zpo this.1 this.2
theorem Ex.inj{w:World}{b:Nat}{a e:En}(h:Ex w b a)(A:Ex w b e):a=e:=by unfold Ex at h A;rw[h]at A;simp at A;obtain⟨h1,h2,h3,h4⟩:=A;cases a;cases e;simp_all
theorem QS.zty{w w':World}{F:Nat->Prop}{q m t b:Nat}{g:Int->Option Nat}{y B:Int}{u H:Bool}{x:Qu}(A:QS w F q m t g y u x){e:En}(he:e∈x.l)(I:g e.id=some b)(f:En->En)(hid:∀a,(f a).id=a.id)(G:∀a,(f a).key=a.key)
 (d:∀a∈x.l,a.id≠e.id->f a=a) (s:Ex w' b (f e)) (o:Qx w' q m t x.cur x.min B H) (R:zo8 (fun k=>k=q∨k=b) w w') (Y:0<=B/\B<=18446744073709551615) (Z:({ x with l:=x.l.map f }:Qu).Ok):QS w' F q m t g B H { x with l:=x.l.map f }:=by
 obtain⟨b',M,X,D⟩:=A.en e he;rw[I]at M;cases M;have p:(x.l.map f).map En.key=x.l.map En.key:=by rw[List.map_map];exact List.map_congr_left fun a _=>G a
 have V:m≠q:=fun e=>A.qx.zpH A.mp e.symm;have U:m≠b:=fun e=>D.zpH A.mp e.symm;refine⟨o,?_,?_,?_,?_,Y,A.om,A.oq,Z⟩
 ·simp only[List.length_map];exact A.mp.of (R.block m A.mp.lt (by rintro(h | h);exact V h;exact U h))
 ·simp only[p];refine(A.rb.small.kept (w':=w') (zY.zpK R fun k E h=>?_)).mono fun k _ E=>E.1;rcases h with rfl | rfl
  ·exact A.qx.zpk E.2
  ·exact D.zpk E.2
 ·intro a' j;obtain⟨a,J,rfl⟩:=List.mem_map.1 j;rw[hid];by_cases h:a.id=e.id
  ·obtain rfl:=zjy A.ok.ids J he h;exact⟨b,I,X,s⟩
  ·obtain⟨c,r,n,N⟩:=A.en a J;have O:c≠b:=by rintro rfl;exact h (congrArg En.id (N.inj D))
   refine⟨c,r,n,?_⟩;rw[d a J h];exact N.of (R.block c N.lt (by rintro(T | T);exact N.zrh A.qx T;exact O T))
 ·intro k c E;obtain⟨a,J,v⟩:=A.ge k c E;exact⟨f a,List.mem_map.2 ⟨a,J,rfl⟩,by rw[hid];exact v⟩
theorem zcr(i n:Int)(e:En)(w:World)(F:Nat->Prop)(q:Nat)(x:Qu)(h:yA w F q x)(v:x.get i=some e)(f:2<=n)(L:n<=262144):
 Calls prog 140 #[.pointer (some ⟨q,0,none⟩),.int .i64 i,.int .u64 n] w fun z w'=>z=.returned (.int .i64 0)/\yA w' F q (x.zpo i n)/\zo8 F w w':=by
 obtain⟨m,t,g,c,ov,U⟩:=h;rw[zl4 v f L];obtain⟨D,hid⟩:=yh v;have j:=U.ok.zpR e D;have hj:=zc j;obtain⟨hf,hn,hi,hl⟩:=j;have hI:zpY i:=by unfold zpY;rw[<-hid];omega
 obtain⟨b,X,s,A⟩:=U.zso v;have Z:=zc U;have HG:=zc v;have V:=zc hid;have C:=zc D;have h3:=zc X;have K:=zc s;have HE:=zc A;have h2:(Instr.lookup 213 (.map (some m)) (.int .i64 i) false).run prog w=.ok (.pointer (some ⟨b,0,none⟩)) w:=by have:=U.mp.look hI;rw[X]at this;exact this
 have l:uZ n=true:=by simp[uZ];omega
 have h1:=zc l;obtain⟨c0,S,c2,c3,c4,c5⟩:=U.qx.c6;have T:=U.qx.lt;have M:=U.qx.zpe;obtain⟨P,Q,W,e3⟩:=A.c4;have N:=A.lt;have I:=A.zpe;have n1:¬b=q:=A.zrh U.qx;have n2:¬q=b:=fun e=>n1 e.symm;clear U v hid D X s A l hI;go_enter func140,ntmps140;go_wp2_with fail;refine(zjB _ _).mono ?_;rintro z w2 ⟨rfl,hw⟩;obtain rfl:=hw.symm;rw[h1.out];go_wp2_with fail;clear h2;go_region_with
  ((
   go_at_call 91;refine(zbC e.rem n e.w w.drew ⟨by omega,by omega⟩ ⟨by omega,by omega⟩ ⟨by omega,by omega⟩ (zaK ⟨by omega,by omega⟩ ⟨by omega,by omega⟩)).mono ?_;rintro z w3 ⟨rfl,H⟩;have h5:=zc H;have J:=zc ((show Qx w.drew q m t x.cur x.min c ov from Z.out.qx).behind H);have O:=zc ((show Ex w.drew b e from HE.out).behind H);clear H c0 S c2 c3 c4 c5 T M P Q W e3 N I;obtain⟨c0,S,c2,c3,c4,c5⟩:=J.out.c6;have T:=J.out.lt;have M:=J.out.zpe;obtain⟨P,Q,W,e3⟩:=O.out.c4;have N:=O.out.lt;have I:=O.out.zpe))
 all_goals
  go_upto_region 7 with(fail)
  obtain⟨r,hr⟩:=zh (e.rem*n/e.w)
  rw[<-hr];obtain⟨d,B⟩:=zh (w3.setCell ⟨b,3,none⟩ (.int .u64 r))
  have h7:Hid (Qx d q m t x.cur x.min c ov):=zc (by rw[B];exact J.out.zpP n2);have h6:Hid (Ex d b { e with rem:=r }):=zc (by rw[B];exact O.out.zrg r);have h9:Hid (zo8 (fun k=>k=q∨k=b) w d):=zc (by rw[B];exact(zo8.zo7 (zj (zv (Below.refl _ w)) h5.out (zg _)):zo8 _ w w3).setCell (.inl (.inr rfl)) _);have HR:=zc hr;rw[<-B];clear B hr c0 S c2 c3 c4 c5 T M P Q W e3 N I;obtain⟨Y,E⟩:=zh d.drew
  have G:Hid (Qx Y q m t x.cur x.min c ov):=zc (by rw[E];exact h7.out);have R:Hid (Ex Y b { e with rem:=r }):=zc (by rw[E];exact h6.out);have y:Hid (zo8 (fun k=>k=q∨k=b) w Y):=zc (by rw[E];exact h9.out.drew);have hh:=Z.out.ld;obtain⟨c0,S,c2,c3,c4,c5⟩:=G.out.c6;have T:=G.out.lt;have M:=G.out.zpe;obtain⟨P,Q,W,e3⟩:=R.out.c4;have N:=R.out.lt;have I:=R.out.zpe;refine zI 13 (by kernel_rfl) (by kernel_rfl) Y E ?_;clear E;simp only[List.take_succ_cons,List.take_zero,List.drop_succ_cons,List.drop_zero]
  repeat still_step
  refine wpStill_nil ?_;go_wp2;go_ret;refine⟨rfl,?_,?_⟩
  ·have h8:=(G.out.zpm (IntKind.u64.wrap (c+IntKind.u64.wrap (n-e.w)))).zpP n2 (o:=1) (u:=.int .u64 n);have h4:=(R.out.zpP n1 (o:=4) (u:=.int .u64 (IntKind.u64.wrap (c+IntKind.u64.wrap (n-e.w))))).ztv n;have hT:=(y.out.setCell (.inl (.inl rfl)) (.int .u64 (IntKind.u64.wrap (c+IntKind.u64.wrap (n-e.w)))):zo8 _ w (Y.setCell ⟨q,4,none⟩ _)).setCell (p:=⟨b,1,none⟩) (.inl (.inr rfl)) (.int .u64 n);have hc:xN i n e={ e with rem:=r,w:=n }:=by unfold xN;rw[if_pos (by simp[ua,V.out]),HR.out]
   refine⟨m,t,g,_,ov,Z.out.zty C.out (by rw[V.out];exact h3.out) (xN i n) (zb3 i n) (zdg i n) (fun a ha h0=>?_) (by rw[hc];exact h4) h8 hT (zaj _) (Z.out.ok.zpo f L)⟩;unfold xN;rw[if_neg (by simp[ua];rw[<-V.out];exact h0)]
  ·exact((y.out.mono fun k hk=>by rcases hk with rfl | rfl;exact Z.out.oq;exact K.out).setCell (.inl Z.out.oq) _).setCell (.inl K.out) _
theorem zkk(a b:Int)(ha: -9223372036854775808<=a/\a<=9223372036854775807): -9223372036854775808<=vZ a b/\vZ a b<=9223372036854775807:=by
 unfold vZ;split
 ·rename_i h;unfold uD at h;simp at h;omega
 ·split <;> omega
def zaL(ns:Int)(e:En):En:={ e with v:=vZ e.v ((e.rem+ns*1024) /e.w),rem:=(e.rem+ns*1024) %e.w }
theorem zh8{ns:Int}{e:En}(h:e.Ok):(zaL ns e).Ok:=
 ⟨h.id,h.w,zkk _ _ h.v,Int.emod_nonneg _ (by have:=h.w;omega),Int.emod_lt_of_pos _ (by have:=h.w;omega)⟩
theorem zex{x:Qu}{ns:Int}{e:En}(A:x.get x.cur=some e):x.zpg ns=({ x with l:=vE (zaL ns e) (zpq x.cur x.l) }:Qu).raise:=by unfold Qu.zpg;rw[A];rfl
theorem Qu.Ok.zpg{x:Qu}(h:x.Ok){ns:Int}{e:En}(G:x.get x.cur=some e):({ x with l:=vE (zaL ns e) (_root_.Go.Proofs.YtmgekibncmnmiaaGreatDoor.zpq x.cur x.l) }:Qu).Ok:=by
 obtain⟨D,B⟩:=yh G;have E:∀a∈_root_.Go.Proofs.YtmgekibncmnmiaaGreatDoor.zpq x.cur x.l,a.id≠(zaL ns e).id:=fun a A=>by have:=(ya.1 A).2;show a.id≠e.id;rw[B];exact this
 refine⟨fun a A=>?_,zgc (zc8 h.ids) E,zgd (zc9 h.ord) E,.inr ⟨zaL ns e,(yI _ _ _).2 (.inl rfl),B⟩,h.min,?_⟩
 ·rcases(yI _ _ a).1 A with rfl | A
  ·exact zh8 (h.zpR e D)
  ·exact h.zpR a (ya.1 A).1
 ·have:=uE h.ids D;rw[B]at this;have:=h.len;simp only[vM];omega
theorem zqR{x:Qu}(h:x.Ok)(ns:Int):(x.zpg ns).Ok:=by
 cases hg:x.get x.cur with
 | none=>unfold Qu.zpg;rw[hg];exact h
 | some e=>rw[zex hg];exact(h.zpg hg).raise
theorem zo8.one{a w:World}{q o:Nat}{u:Value}(h:zo8 (fun k=>k=q) a w):zo8 (fun k=>k=q) a (w.setCell ⟨q,o,none⟩ u):=h.setCell (p:=⟨q,o,none⟩) (.inl rfl) u
theorem zo8.zqS{F:Nat->Prop}{a b:World}(h:zo8 F a.drew b):zo8 F a b:=⟨h.os,h.tape,h.output,h.size,h.block⟩
theorem zfp(ns:Int)(e:En)(w:World)(F:Nat->Prop)(q:Nat)(x:Qu)(h:yA w F q x)(hg:x.get x.cur=some e)(Hw:0<=ns)(ka:ns<=1000000000):
 Calls prog 151 #[.pointer (some ⟨q,0,none⟩),.int .u64 ns] w fun z w'=>z=.returned (.int .i64 0)/\yA w' (Ext F w w') q (x.zpg ns)/\zo8 F w w':=by
 obtain⟨m,t,g,ld,ov,hq⟩:=h;obtain⟨y,hy⟩:=zh (x.zpg ns)
 rw[<-hy];rw[zex hg]at hy;have HY:=zc hy;obtain⟨Q,hid⟩:=yh hg;have He:=hq.ok.zpR e Q;have kc:=zc He;obtain⟨kd,ki,k2,kf⟩:=He;have ke:(x.cur == -1)=false:=beq_eq_false_iff_ne.2 (by omega);obtain⟨b,Ht,Hg,K⟩:=hq.zso hg;have R:=zc hq;have HG:=zc hg;have s:=zc hid;have N:=zc Q;have Hd:=zc Ht;have Hr:=zc Hg;have HE:=zc K;have h8:=zc hq.ok.len;have Hy:∀n,(Instr.lookup 213 (.map (some m)) (.int .i64 x.cur) false).run prog (w.drewN n)=.ok (.pointer (some ⟨b,0,none⟩)) (w.drewN n):=fun n=>by
  have:=R.out.zpL n;rw[HG.out]at this;obtain⟨p,hp,Hj,_,_⟩:=zN R.out N.out;have:p=b:=by rw[s.out,Hd.out]at Hj;exact(Option.some.inj Hj).symm
  subst this;have h2:=R.out.zpL n;rw[HG.out,hp]at h2;exact h2
 obtain⟨c0,V,c2,c3,c4,c5⟩:=hq.qx.c6;have E:=hq.qx.lt;have D:=hq.qx.zpe;obtain⟨e0,e1,e2,e3⟩:=K.c4;have M:=K.lt;have n1:¬b=q:=K.zrh hq.qx;have n2:¬q=b:=fun e=>n1 e.symm;obtain⟨d,hd⟩:=zh ((e.rem+ns*1024) /e.w)
 obtain⟨r,hr⟩:=zh ((e.rem+ns*1024) %e.w)
 have kh:0<=d:=by rw[hd];exact Int.ediv_nonneg (by omega) (by omega)
 have kg:d<=e.rem+ns*1024:=by rw[hd];exact Int.ediv_le_self _ (by omega)
 have HD:=zc hd;have HR:=zc hr;have HV:=zc k2;clear hq hg hid Q Ht Hg K hy hd hr;go_enter_defers func151,ntmps151;go_wp2_with fail;go_quiet (fail);go_wp2_with fail;obtain⟨w2,u⟩:=zh (w.drewN nq)
 have k8:Hid (QS w2 F q m t g ld ov x):=zc (by rw[u];exact R.out.kept fun k _ _=>rfl);have k3:Hid (Below w.heap.size w w2):=zc (by rw[u];exact zp (Below.refl _ w) nq);have H8:Hid (Ex w2 b e):=zc (by rw[u];exact HE.out);rw[<-u];clear u Hy c0 V c2 c3 c4 c5 E D e0 e1 e2 e3 M;obtain⟨e0,e1,e2,e3⟩:=H8.out.c4;have M:=H8.out.lt;go_region_held3 (fun w'=>w'.cell? ⟨b,1,none⟩=some (.int .u64 e.w)/\w'.cell? ⟨b,3,none⟩=some (.int .u64 e.rem)) (go_keep)
  ((
   go_at_call 200;refine(Vr.zqR e.w e.rem ns w2.drew (by omega) (by omega) (by omega) (by omega) Hw ka).mono ?_;rintro z G ⟨rfl,n3,rfl⟩;rw[<-HD.out,<-HR.out]))
 all_goals
  obtain⟨G,W⟩:=zh (w2.drewN (1+n3))
  have B:Hid (QS G F q m t g ld ov x):=zc (by rw[W];exact k8.out.kept fun k _ _=>rfl);have Ho:Hid (Below w.heap.size w G):=zc (by rw[W];exact zp k3.out (1+n3));have O:Hid (Ex G b e):=zc (by rw[W];exact H8.out);rw[<-W];clear W e0 e1 e2 e3 M;obtain⟨c0,V,c2,c3,c4,c5⟩:=B.out.qx.c6;have E:=B.out.qx.lt;have D:=B.out.qx.zpe;obtain⟨e0,e1,e2,e3⟩:=O.out.c4;have M:=O.out.lt;obtain⟨bi,Hb⟩:=zh (uD (e.v+d))
  go_wp2_with fail;refine(znG e.v d _ HV.out ⟨by omega,by omega⟩).mono ?_;rintro z w4 ⟨rfl,Hv⟩;obtain rfl:=Hv;rw[<-Hb];clear Hb;cases ov <;> cases bi
  all_goals
   go_upto_region 12 with(fail)
   first
    | (
     obtain⟨J,H⟩:=zh (G.setCell ⟨q,5,none⟩ (.bool true))
     rw[<-H];obtain⟨o,ho⟩:=zh true
     rw[<-ho]at H)
    | (
     obtain⟨J,H⟩:=zh (G.setCell ⟨q,5,none⟩ (.bool false))
     rw[<-H];obtain⟨o,ho⟩:=zh false
     rw[<-ho]at H)
   have hj:Hid (Qx J q m t x.cur x.min ld o):=zc (by rw[H];exact B.out.qx.zsS o);have H6:Hid (Ex J b e):=zc (by rw[H];exact O.out.zpP n1);have Hi:Hid (zo8 (fun k=>k=q) G J):=zc (by rw[H];exact(zo8.refl _ G).one);have k7:Hid (Rb J (fun k=>F k/\Tb G k) t (x.l.map En.key)):=zc (by rw[H];exact B.out.rb.small.kept fun k A X=>Below.heap_setCell _ _ _ _ (by show k≠q;rintro rfl;exact B.out.qx.zpk X.2));clear H ho c0 V c2 c3 c4 c5 E D e0 e1 e2 e3 M;obtain⟨c0,V,c2,c3,c4,c5⟩:=hj.out.c6;have E:=hj.out.lt;have D:=hj.out.zpe;go_region_held3 (fun w'=>w'.cell? ⟨q,1,none⟩=some (.pointer (some ⟨t,0,none⟩))) (go_keep)
    (first
     | (
      go_at_call 204;refine(zcN b e J.drew H6.out).mono ?_;rintro z w6 ⟨rfl,H5⟩;have L:=zc H5;have S:=zc ((show Qx J.drew q m t x.cur x.min ld o from hj.out).behind H5);clear H5 c0 V c2 c3 c4 c5 E D;obtain⟨c0,V,c2,c3,c4,c5⟩:=S.out.c6;have E:=S.out.lt;have D:=S.out.zpe)
     | (
      go_at_call 203;refine(zcn e.v e.id w6 _ t (x.l.map En.key) (k7.out.kept (w':=w6) (zY.zo7 (w:=J.drew) L.out)) ?_ ?_).mono ?_
      ·exact List.mem_map.2 ⟨e,N.out,rfl⟩
      ·have:=h8.out;simp;omega
      rintro z w7 ⟨rfl,Hh,hx⟩;have k1:=zc Hh;have Hq:=zc hx;have hl:=zc (S.out.of (hx.block q S.out.lt (fun A=>B.out.qx.zpk A.2)));have hn:=zc (((show Ex J.drew b e from H6.out).behind L.out).of (hx.block b ((show Ex J.drew b e from H6.out).behind L.out).lt (fun A=>O.out.zpk A.2)));clear Hh hx c0 V c2 c3 c4 c5 E D;obtain⟨c0,V,c2,c3,c4,c5⟩:=hl.out.c6;have E:=hl.out.lt;have D:=hl.out.zpe))
   have kj:Hid (J.drew.heap.size=J.heap.size):=zc rfl;obtain⟨e0,e1,e2,e3⟩:=hn.out.c4;have M:=hn.out.lt;have H3:=hn.out.zpe;go_wp2_with fail;refine(zfg e.v d _ HV.out ⟨by omega,by omega⟩).mono ?_;rintro z w8 ⟨rfl,Hk⟩;obtain⟨v,hv⟩:=zh (vZ e.v d)
   rw[<-hv];have C:Below w7.heap.size w7 w8:=by rw[Hk];exact zk w7 _
   have k4:=zc (hl.out.behind C);have hh:=zc (hn.out.behind C);have kb:=zc (k1.out.behind C);have Hn:=zc C;have Hz:=zc hv;clear Hk C hv c0 V c2 c3 c4 c5 E D e0 e1 e2 e3 M H3;obtain⟨e0,e1,e2,e3⟩:=hh.out.c4;have M:=hh.out.lt;have H3:=hh.out.zpe;go_upto_region 14 with(fail)
   obtain⟨Y,j⟩:=zh ((w8.setCell ⟨b,2,none⟩ (.int .i64 v)).setCell ⟨b,3,none⟩ (.int .u64 r))
   obtain⟨f,X⟩:=zh (zaL ns e)
   have Hc:f={ e with v:=v,rem:=r }:=by rw[X,Hz.out,HR.out,HD.out];rfl
   have Hf:Hid (Ex Y b f):=zc (by rw[j,Hc];exact(hh.out.zsF v).zrg r);have ht:Hid (Qx Y q m t x.cur x.min ld o):=zc (by rw[j];exact(k4.out.zpP n2).zpP n2);have k0:Hid (Rb Y (fun k=>F k/\Tb G k) t ((x.l.map En.key).erase e.key)):=zc (by rw[j];have hs:∀k,F k/\Tb G k->k≠b:=fun k A h=>O.out.zpk (h▸A.2);exact(kb.out.kept fun k A X=>Below.heap_setCell _ _ _ _ (hs k X)).kept fun k A X=>Below.heap_setCell _ _ _ _ (hs k X))
   have Hp:Hid (zo8 (fun k=>k=b) w8 Y):=zc (by rw[j];exact(zo8.refl _ w8).one.one);have HF:=zc X;rw[<-j];clear j X Hc e0 e1 e2 e3 M H3;obtain⟨c0,V,c2,c3,c4,c5⟩:=ht.out.c6;have E:=ht.out.lt;have D:=ht.out.zpe;go_region_held3 (fun w'=>w'.cell? ⟨q,1,none⟩=some (.pointer (some ⟨t,0,none⟩))) (go_keep)
    (first
     | (
      go_at_call 204;refine(zcN b f Y.drew Hf.out).mono ?_;rintro z h5 ⟨rfl,h0⟩;have Z:=zc h0;have I:=zc ((show Qx Y.drew q m t x.cur x.min ld o from ht.out).behind h0);clear h0 c0 V c2 c3 c4 c5 E D;obtain⟨c0,V,c2,c3,c4,c5⟩:=I.out.c6;have E:=I.out.lt;have D:=I.out.zpe)
     | (
      go_at_call 205;refine(zcm f.v f.id h5 _ t ((x.l.map En.key).erase e.key) (k0.out.kept (w':=h5) (zY.zo7 (w:=Y.drew) Z.out)) ?_ ?_).mono ?_
      ·have A:=qy R.out.ok.ids N.out;rw[<-A];intro hm;obtain⟨a,ha,A⟩:=List.mem_map.1 hm;refine(ya.1 ha).2 ?_;have:a.id=f.id:=congrArg Prod.snd A;rw[this,HF.out];rfl
      ·have h1:=h8.out;have h2:=List.length_erase_le (a:=e.key) (l:=x.l.map En.key);simp only[List.length_map]at h2;omega
      rintro z H4 ⟨rfl,h7,h4⟩;have h6:=zc h7;have P:=zc h4;have U:=zc (I.out.of (h4.block q I.out.lt (fun A=>B.out.qx.zpk A.2)));clear h7 h4 c0 V c2 c3 c4 c5 E D;obtain⟨c0,V,c2,c3,c4,c5⟩:=U.out.c6;have E:=U.out.lt;have D:=U.out.zpe))
   go_wp2;have Hl:=R.out.ok.zpg (ns:=ns) HG.out;have H7:qE f.key ((x.l.map En.key).erase e.key)=(vE f (zpq x.cur x.l)).map En.key:=by rw[qT];have:=qy R.out.ok.ids N.out;rw[s.out]at this;rw[this]
   refine leaves_cons (f:=201) (args:=#[.pointer (some ⟨q,0,none⟩)]) (by simp) (by simp[go_sem]) ?_;refine(zcO .returning _ _ q m t x.cur x.min ld o (qE f.key ((x.l.map En.key).erase e.key)) U.out (h6.out.kept fun k _ _=>rfl) ?_ R.out.ok.min).mono ?_
   ·intro k A;rw[H7]at A;obtain⟨a,ha,rfl⟩:=List.mem_map.1 A;rw[HF.out]at ha;exact(Hl.zpR a ha).v
   rintro z u' H0 ⟨rfl,rfl,H9,T⟩;have hy:=HY.out;rw[<-HF.out]at hy;have H2:zo8 (fun k=>(k=q∨k=b)∨(F k/\Tb G k)) G H0:=by
    have t1:zo8 (fun k=>(k=q∨k=b)∨(F k/\Tb G k)) G J:=Hi.out.mono fun k A=>.inl (.inl A);have t2:zo8 (fun k=>(k=q∨k=b)∨(F k/\Tb G k)) J w6:=(zo8.zo7 L.out).zqS;have t3:zo8 (fun k=>(k=q∨k=b)∨(F k/\Tb G k)) w6 w7:=Hq.out.mono fun k A=>.inr A;have t4:zo8 (fun k=>(k=q∨k=b)∨(F k/\Tb G k)) w7 w8:=zo8.zo7 Hn.out;have t5:zo8 (fun k=>(k=q∨k=b)∨(F k/\Tb G k)) w8 Y:=Hp.out.mono fun k A=>.inl (.inr A);have t6:zo8 (fun k=>(k=q∨k=b)∨(F k/\Tb G k)) Y h5:=(zo8.zo7 Z.out).zqS;have t7:zo8 (fun k=>(k=q∨k=b)∨(F k/\Tb G k)) h5 H4:=P.out.mono fun k A=>.inr A;have t8:zo8 (fun k=>(k=q∨k=b)∨(F k/\Tb G k)) H4 H0:=T.mono fun k A=>.inl (.inl A)
    exact((((((t1.trans t2 fun k A=>.inl A).trans t3 fun k A=>.inl A).trans t4 fun k A=>.inl A).trans t5 fun k A=>.inl A).trans t6 fun k A=>.inl A).trans t7 fun k A=>.inl A).trans t8 fun k A=>.inl A
   have hT:zo8 F w H0:=(zo8.zo7 Ho.out).trans (H2.mono fun k A=>by
    rcases A with(rfl | rfl) | A
    ·exact R.out.oq
    ·exact Hr.out
    ·exact A.1) fun k A=>.inl A
   have z1:=Ho.out.size;have z2:=Hi.out.size;have z3:=L.out.size;have z4:=Hq.out.size;have z5:=Hn.out.size;have z6:=Hp.out.size;have z7:=Z.out.size;have z8:=P.out.size;have z9:=T.size;have za:J.drew.heap.size=J.heap.size:=rfl;have zb:Y.drew.heap.size=Y.heap.size:=rfl;have Ha:Ex H0 b f:=by have a1:Ex h5 b f:=(show Ex Y.drew b f from Hf.out).behind Z.out;have a2:Ex H4 b f:=a1.of (P.out.block b a1.lt fun A=>O.out.zpk A.2);exact a2.of (T.block b a2.lt n1)
   have hz:y.l=vE f (zpq x.cur x.l):=by rw[hy,qt]
   have k9:y.cur=x.cur:=by rw[hy,qU]
   have k5:y.min=za6 x.min (qE f.key ((x.l.map En.key).erase e.key)):=by rw[H7,hy,zaG]
   have hc:y.l.length=x.l.length:=by have:=uE R.out.ok.ids N.out;rw[s.out]at this;rw[hz,vM];exact this
   have h9:f.id=e.id:=by rw[HF.out];rfl
   refine⟨_,results_tmp rfl _ _ _,rfl,⟨m,t,g,ld,o,⟨?_,?_,?_,?_,?_,R.out.ld,.inl R.out.om,.inl R.out.oq,by rw[hy,HF.out];exact Hl.raise⟩⟩,hT⟩
   ·rw[k9,k5];exact H9
   ·rw[hc];refine B.out.mp.of (H2.block m B.out.mp.lt ?_);rintro((h | h) | h)
    ·exact B.out.qx.zpH B.out.mp h.symm
    ·exact O.out.zpH B.out.mp h.symm
    ·exact B.out.mp.zpk h.2
   ·rw[hz,<-H7];refine(h6.out.kept (zY.zpK T fun k A h=>?_)).mono fun k A X=>?_
    ·subst h;rcases A with A | A
     ·exact B.out.qx.zpk A.2
     ·have:=I.out.lt;omega
    ·rcases X with X | X
     ·exact .inl X.1
     ·exact .inr ⟨by omega,by omega⟩
   ·intro a ha;rw[hz]at ha;rcases(yI f _ a).1 ha with rfl | ha
    ·exact⟨b,by rw[h9,s.out];exact Hd.out,.inl Hr.out,Ha⟩
    ·obtain⟨Hu,Hs⟩:=ya.1 ha;obtain⟨c,h1,h2,h3⟩:=B.out.en a Hu;have k6:c≠b:=by rintro rfl;have:=h3.inj O.out;rw[this,s.out]at Hs;exact Hs rfl
     refine⟨c,h1,.inl h2,h3.of (H2.block c h3.lt ?_)⟩;rintro((h | h) | h)
     ·exact h3.zrh B.out.qx h
     ·exact k6 h
     ·exact h3.zpk h.2
   ·intro k c A;obtain⟨a,ha,hi⟩:=R.out.ge k c A;rw[hz];by_cases h:a.id=x.cur
    ·refine⟨f,(yI f _ f).2 (.inl rfl),?_⟩;rw[h9,s.out,<-h,hi]
    ·exact⟨a,(yI f _ a).2 (.inr (ya.2 ⟨ha,h⟩)),hi⟩
theorem zl6:(prog.info? 80).map (fun i=>(i.zero,i.size,i.bytes))=some (some (.agg #[.int .i64 0,.int .u64 0,.int .i64 0,.int .u64 0]),4,32):=by kernel_rfl
theorem zoy{l:List (Int×Int)}{k:Nat}{a:Int×Int}(h:l[k]?=some a):(zry l)[2*k]?=some (.int .i64 a.1)/\(zry l)[2*k+1]?=some (.int .i64 a.2):=by
 induction l generalizing k with
 | nil=>simp at h
 | cons b l ih=>
  cases k with
  | zero=>simp at h;subst h;simp[zry]
  | succ k=>
   simp at h;have:=ih h;have e:zry (b::l)=.int .i64 b.1::.int .i64 b.2::zry l:=by simp[zry]
   rw[e,show 2*(k+1)=2*k+1+1 by omega,show 2*k+1+1+1=(2*k+1)+1+1 by omega];simpa using this
theorem uG(w:World)(F:Nat->Prop)(q:Nat)(x:Qu)(h:yA w F q x):
 Calls prog 126 #[.pointer (some ⟨q,0,none⟩)] w fun z w'=>(∃a c,z=.returned (.slice a x.l.length c))/\Below w.heap.size w w':=by
 obtain⟨m,t,g,ld,ov,j⟩:=h;obtain⟨i0,hi,ha,hh,hf⟩:=info_parts zl6;have HQ:=zc j;have K:=zc j.ok.len;have HW:=zc (zkc w F t (x.l.map En.key) j.rb (by have:=j.ok.len;simp;omega));rw[List.length_map]at HW;obtain⟨c0,c1,c2,c3,c4,c5⟩:=j.qx.c6;have f:=j.qx.lt;clear j;go_enter func126,ntmps126;go_wp2_with fail;refine HW.out.mono ?_;rintro z p ⟨a,c,rfl,V,y⟩;have L:=zc V;have H:=zc y;clear V y c0 c1 c2 c3 c4 c5 f;go_wp2_with fail
 go_loopw [3,14] (fun vl i wr=>∃(k:Nat) (ar:Option Addr) (cr:Nat) (cs:List Value),k<=x.l.length/\vl=.slice ar k cr/\i=.int .i64 k/\wr.ownsRow p.heap.size 80 4 (.slice ar k cr) k cs/\Below p.heap.size p wr) (fun _ i _=>x.l.length-(intOf i).toNat)
 case atStart=>exact⟨0,none,0,[],by omega,rfl,rfl,World.ownsRow_nil _ _ _ _,Below.refl _ _⟩
 case round=>
  obtain⟨k,ar,cr,cs,W,rfl,rfl,Y,hb⟩:=hrel;have HO:=zc Y;have r:=zc hb;clear Y hb;have hr:=r.out.size;by_cases h0:k<x.l.length
  ·obtain⟨e,he⟩:∃e,x.l[k]?=some e:=⟨_,List.getElem?_eq_getElem h0⟩
   have U:e∈x.l:=List.mem_of_getElem? he;have s:(x.l.map En.key)[k]?=some e.key:=by rw[List.getElem?_map,he];rfl
   obtain⟨k1,k2⟩:=zoy s;have O:=yY L.out r.out;obtain⟨J,ca,hg⟩:=vX O (by intro h;injection h with h1 h2;omega);injection hg with e1 e2 e3
   subst e1;subst e3;have d:=O.cells (g:=J) rfl;have q1:=d _ _ k1;have q2:=d _ _ k2;have h5:J<wr.heap.size:=(O.lt J (by simp[Value.ownBlock])).2;have h7:wr.cell? ⟨J,k*2,none⟩=some (.int .i64 e.v):=by rw[show(⟨J,k*2,none⟩:Addr)=(⟨J,0,none⟩:Addr).add (2*k)by simp[Addr.add,Nat.mul_comm]];exact q1
   have ho:wr.cell? ⟨J,k*2+1,none⟩=some (.int .i64 e.id):=by rw[show(⟨J,k*2+1,none⟩:Addr)=(⟨J,0,none⟩:Addr).add (2*k+1)by simp[Addr.add,Nat.mul_comm]];exact q2
   have HM:=zc U;clear d q1 q2 k1 k2 s he O U;go_upto_region 7 with(fail)
   obtain⟨A,N⟩:=zh (wr.alloc (yg e.v e.id))
   have T:Below wr.heap.size wr A:=by rw[N];exact zk wr _
   have K5:Kx A wr.heap.size e.v e.id:=by rw[N];exact Kx.new wr e.v e.id
   obtain⟨B,hB⟩:=zh wr.heap.size
   rw[show wr.alloc (Obj.cells #[Value.int IntKind.i64 e.v,Value.int IntKind.i64 e.id] 289)=A from N.symm,<-hB];rw[<-hB]at K5;have M:=zc ((HQ.out.kept (.zo7 (zj H.out r.out H.out.size))).kept (.zo7 T));have u:=zc (yY HO.out T);have n:=zc (zj r.out T r.out.size);have Q:=zc K5;have hn:=zc hB;clear N T K5 hB h7 ho h5;obtain⟨b,S,h6,X⟩:=(HQ.out.kept (.zo7 H.out)).en e HM.out;have Z:=X.behind n.out;have G:=X.lt;have C:=(HQ.out.qx.behind H.out).lt;have hI:zpY e.id:=by unfold zpY;have:=(M.out.ok.zpR e HM.out).id;omega
   have h4:(Instr.lookup 213 (.map (some m)) (.int .i64 e.id) false).run prog A.drew=.ok (.pointer (some ⟨b,0,none⟩)) A.drew:=by have:=(M.out.mp.of (w':=A.drew) rfl).look hI;rw[S]at this;exact this
   obtain⟨c0,c1,c2,c3,c4,c5⟩:=M.out.qx.c6;have f:=M.out.qx.lt;obtain⟨e0,e1,e2,e3⟩:=Z.c4;have R:=Z.lt;obtain⟨k0,k1⟩:=Q.out.c2;have hj:=Q.out.lt;have ht:=n.out.size;have hlen:=K.out;clear S h6 Z hI c1 c2 c3 c4 c5;go_region_held3 (fun w'=>w'.cell? ⟨q,0,none⟩=some (.map (some m))/\w'.cell? ⟨B,1,none⟩=some (.int .i64 e.id)/\w'.cell? ⟨b,0,none⟩=some (.int .i64 e.id)/\w'.cell? ⟨b,1,none⟩=some (.int .u64 e.w)/\w'.cell? ⟨b,2,none⟩=some (.int .i64 e.v)/\w'.cell? ⟨b,3,none⟩=some (.int .u64 e.rem)) (go_keep)
    ((
     refine step_append_lies _ (by rfl) _ _ _ (by rfl) p.heap.size 80 i0 _ 4 32 underlying222 hi ha hh hf rfl (by omega) (.slice ar k cr) k cs (by rfl) (u.out.alloc _)
      ⟨A.heap.size,0,none⟩ 1 1 [.int .i64 e.id,.int .u64 e.w,.int .i64 e.v,.int .u64 e.rem] (by rfl) (by rfl) (World.news_of_block (cs:=xy e) (t:=80) (fr:=(0,0)) (heap_alloc_new A _)) (by simp[Value.oneCell'])
      (by omega) (by unfold maxLen;omega) (by omega) (by first | omega | (simp;omega)) (A.heap.size+1) (by first | rfl | simp) ?_
     intro g2 cap2 w6 I E hl h8;have h3:=zc I;have P:Below p.heap.size p w6:=by refine(zv (n.out.alloc (by omega) (zgj e))).grown E (by simp;omega) ?_;intro k W;exact(u.out.lt k W).1
     have D:∀k o,k<A.heap.size->(k<p.heap.size∨k=B)->w6.cell? ⟨k,o,none⟩=A.cell? ⟨k,o,none⟩:=fun k o W hv=>by have h1:w6.heap[k]?=(A.alloc (zgj e)).drew.heap[k]?:=E.block k (by simp;omega) (fun e'=>by have:=HO.out.lt k e'.symm;have:=hn.out;omega);have h2:(A.alloc (zgj e)).drew.heap[k]?=A.heap[k]?:=Below.heap_alloc _ _ _ W;simp[World.cell?,h1.trans h2]
     have s0:=(D q 0 f (.inl C)).trans c0;have s1:=(D B 1 hj (.inr rfl)).trans k1;have s2:=(D b 0 R (.inl G)).trans e0;have s3:=(D b 1 R (.inl G)).trans e1;have s4:=(D b 2 R (.inl G)).trans e2;have s5:=(D b 3 R (.inl G)).trans e3;have h9:=zc P;clear I E hl h8 P D))
   clear h4;go_wp2_with fail;go_roundw
   case rel=>exact⟨k+1,_,_,_,by omega,rfl,by go_num,h3.out,h9.out⟩
   case measure=>simp[intOf];omega
  ·have hc:k=x.l.length:=by omega
   subst hc;go_wp2;go_ret;exact⟨⟨_,_,rfl⟩,zj H.out r.out H.out.size⟩
end
end Go.Proofs.YtmgekibncmnmiaaGreatDoor
