/- Parts for TopPlaces. Conditions: as stated. -/
import Derived.Deep.RegionHeld3
import Derived.Deep.RegionWith
import Derived.Outline
import Derived.Test.YtmpdpmhpkgbepaaGreatDoorZ01
set_option linter.unusedVariables false
set_option maxRecDepth 100000
set_option maxHeartbeats 4000000
open Go.Value renaming pointer->ze
open Go.Ending renaming returned->zm
open Option renaming some->zo,none->zp
open Go renaming World->zu,Calls->zw
open Go.Proofs.Tryz
namespace Go.Proofs.YtmpdpmhpkgbepaaGreatDoor
open Go Go.RowKit Go.ChangeShapes Go.WideShapes
variable {w w':zu}{b c:Nat}{v i L x j:Int}{l r:Option Addr}{t:Tt}{F:Nat->Prop}
def Tt.pt:Tt->Option Addr
 | .nil=>zp
 | .node b _ _ _ _ _=>zo ⟨b,0,zp⟩
abbrev MM(v i L:Int)(l r:Option Addr):Array Value:=#[.int .i64 v,.int .i64 i,.int .i64 L,ze l,ze r]
def Nx(w:zu)(b:Nat)(v i L:Int)(l r:Option Addr):Prop:=w.heap[b]?=zo (.cells (MM v i L l r) 341 (0,0))
theorem Nx.lt(h:Nx w b v i L l r):b<w.heap.size:=(yx h).1
theorem Nx.c5(h:Nx w b v i L l r):w.cell? ⟨b,0,zp⟩=zo (.int .i64 v)/\w.cell? ⟨b,1,zp⟩=zo (.int .i64 i)/\w.cell? ⟨b,2,zp⟩=zo (.int .i64 L)/\w.cell? ⟨b,3,zp⟩=zo (ze l)/\w.cell? ⟨b,4,zp⟩=zo (ze r):=by unfold Nx at h;refine⟨?_,?_,?_,?_,?_⟩<;>simp[World.cell?,h]
theorem Nx.OH(h:Nx w b v i L l r):∀j,w.frozen? ⟨b,j,zp⟩=false:=by intro j;unfold Nx at h;simp[World.frozen?,h]
theorem Nx.of(h:Nx w b v i L l r)(hb:w'.heap[b]?=w.heap[b]?):Nx w' b v i L l r:=hb.trans h
theorem Nx.PR{o:Nat}{u:Value}(h:Nx w b v i L l r)(A:b≠c):Nx (w.setCell ⟨c,o,zp⟩ u) b v i L l r:=h.of (Below.heap_setCell _ _ _ _ (by exact A))
theorem Nx.OP(h:Nx w b v i L l r)(M:Int):Nx (w.setCell ⟨b,2,zp⟩ (.int .i64 M)) b v i M l r:=yD h
theorem Nx.iE(h:Nx w b v i L l r)(p:Option Addr):Nx (w.setCell ⟨b,3,zp⟩ (ze p)) b v i L p r:=yD h
theorem Nx.iF(h:Nx w b v i L l r)(p:Option Addr):Nx (w.setCell ⟨b,4,zp⟩ (ze p)) b v i L l p:=yD h
def Tt.In(w:zu):Tt->Prop
 | .nil=>True
 | .node b v i L l r=>Nx w b v i L l.pt r.pt/\l.In w/\r.In w
theorem Tt.In.of(h:t.In w)(hb:∀b∈t.bl,b<w.heap.size->w'.heap[b]?=w.heap[b]?):t.In w':=by
 induction t with
 | nil=>trivial
 | node b v i L l r ihl ihr=>
  obtain⟨B,D,E⟩:=h;exact⟨B.of (hb b (by simp[Tt.bl]) B.lt),ihl D (fun c A=>hb c (by simp[Tt.bl,A])),ihr E (fun c A=>hb c (by simp[Tt.bl,A]))⟩
theorem Tt.In.drewN(h:t.In w)(n:Nat):t.In (w.drewN n):=h.of fun _ _ _=>rfl
theorem Tt.In.drew(h:t.In w):t.In w.drew:=h.of fun _ _ _=>rfl
theorem Tt.In.PR(h:t.In w){o:Nat}{u:Value}(A:c∉t.bl):t.In (w.setCell ⟨c,o,zp⟩ u):=h.of fun b hb _=>Below.heap_setCell _ _ _ _ (by show b≠c;rintro rfl;exact A hb)
theorem Tt.In.behind(h:t.In w)(hb:Below w.heap.size w w'):t.In w':=h.of fun b _ A=>hb.block b A
theorem Tt.In.RB(h:t.In w)(B:OA F w w')(D:∀b∈t.bl,¬F b):t.In w':=h.of fun b hb A=>B.block b A (D b hb)
theorem Tt.In.lt(h:t.In w):∀b∈t.bl,b<w.heap.size:=by
 induction t with
 | nil=>intro b hb;simp[Tt.bl]at hb
 | node b v i L l r ihl ihr=>
  intro c A;simp only[Tt.bl,List.mem_cons,List.mem_append]at A;rcases A with rfl|A|A
  .exact h.1.lt
  .exact ihl h.2.1 c A
  .exact ihr h.2.2 c A
theorem yN{l r:Tt}(h:(Tt.node b v i L l r).bl.Nodup):b∉l.bl/\b∉r.bl/\l.bl.Nodup/\r.bl.Nodup/\(∀c∈l.bl,c∉r.bl):=by simp only[Tt.bl,List.nodup_cons,List.mem_append,not_or]at h;obtain⟨⟨G,B⟩,I⟩:=h;obtain⟨D,H,A⟩:=List.nodup_append.1 I;exact⟨G,B,D,H,fun c J E=>A c J c E rfl⟩
theorem ZW(w:zu):zw prog 282 #[ze zp] w fun e w'=>e=zm (.int .i64 0)/\w'=w:=by go_enter func282,ntmps282;go_wp2;go_ret;exact⟨rfl,rfl⟩
theorem Yz(w:zu)(h:Nx w b v i L l r):zw prog 282 #[ze (zo ⟨b,0,zp⟩)] w fun e w'=>e=zm (.int .i64 L)/\w'=w:=by obtain⟨c0,c1,c2,c3,c4⟩:=h.c5;clear h;go_enter func282,ntmps282;go_wp2;go_ret;exact⟨rfl,rfl⟩
theorem Xv(t:Tt)(w:zu)(h:t.In w):zw prog 282 #[ze t.pt] w fun e w'=>e=zm (.int .i64 t.ht)/\w'=w:=by
 cases t with
 | nil=>exact ZW w
 | node b v i L l r=>exact Yz w h.1
theorem DA(w:zu):zw prog 260 #[ze zp] w fun e w'=>e=zm (ze zp)/\∃n,w'=w.drewN n:=by go_enter func260,ntmps260;go_wp2;go_quiet (fail);go_wp2;go_ret;exact⟨rfl,_,rfl⟩
theorem WC{M:Int}{l:Tt}(w:zu)(h:Nx w b v i L l.pt r)(H:l.In w)(D:l.ht≠L):
 zw prog 260 #[ze (zo ⟨b,0,zp⟩)] w fun e w'=>e=zm (ze (zo ⟨b,0,zp⟩))/\∃n,w'=w.drewN n:=by
 obtain⟨c0,c1,c2,J,c4⟩:=h.c5;have N:=yw H;have B:(l.ht == L)=false:=beq_eq_false_iff_ne.2 D;have A:(l.ht != L)=true:=by rw[bne_iff_ne];exact D
 clear h H D;obtain⟨p,E⟩:=yB l.pt
 obtain⟨m,G⟩:=yB l.ht
 have I:Hid (∀W,l.In W->zw prog 282 #[ze p] W fun e w'=>e=zm (.int .i64 m)/\w'=W):=yw (by rw[E,G];exact fun W h=>Xv l W h);rw[<-E]at J;rw[<-G]at B A;clear E G;go_enter func260,ntmps260;go_wp2;go_quiet ((go_at_call 282;exact Calls.quiet_of_same (I.out _ (N.out.drewN _))));go_wp2;go_ret;exact⟨rfl,_,rfl⟩
theorem Nx.drewN(h:Nx w b v i L l r)(n:Nat):Nx (w.drewN n) b v i L l r:=h
theorem WD{p q:Tt}(w:zu)(h:Nx w b v i L (zo ⟨c,0,zp⟩) r)(A:Nx w c x j L p.pt q.pt)(B:b≠c):
 zw prog 260 #[ze (zo ⟨b,0,zp⟩)] w fun e w'=>e=zm (ze (zo ⟨c,0,zp⟩))/\Nx w' b v i L q.pt r/\Nx w' c x j L p.pt (zo ⟨b,0,zp⟩)/\OA (fun k=>k=b∨k=c) w w':=by
 obtain⟨P,G⟩:=yB p.pt
 obtain⟨Q,E⟩:=yB q.pt
 rw[<-G,<-E]at A;rw[<-G,<-E];clear G E;obtain⟨c0,c1,c2,c3,c4⟩:=h.c5;obtain⟨d0,d1,d2,d3,d4⟩:=A.c5;have fb:=h.OH;have fc:=A.OH;have I:=yw h;have H:=yw A;have D:c≠b:=fun e=>B e.symm;clear h A;go_enter func260,ntmps260;go_wp2;go_quiet ((go_at_call 282;exact Calls.quiet_of_same (Yz _ (H.out.drewN _))));go_wp2;go_ret;have J:=((I.out.drewN nq).iE Q).PR (c:=c) (o:=4) (u:=ze (zo ⟨b,0,zp⟩)) B;have A:=((H.out.drewN nq).PR (c:=b) (o:=3) (u:=ze Q) D).iF (zo ⟨b,0,zp⟩);exact⟨rfl,J,A,((OA.refl (fun k=>k=b∨k=c) w).drewN nq |>.setCell (.inl (.inl rfl)) _).setCell (.inl (.inr rfl)) _⟩
theorem OA.mono{G:Nat->Prop}(h:OA F w w')(D:∀k,F k->G k):OA G w w':=⟨h.os,h.tape,h.output,h.size,fun k hk B=>h.block k hk (fun A=>B (D k A))⟩
theorem Ja(t:Tt)(w:zu)(h:t.In w)(f:t.bl.Nodup)(B:t.ht≠0∨t=.nil):
 zw prog 260 #[ze t.pt] w fun e w'=>e=zm (ze (yW t).pt)/\(yW t).In w'/\OA (fun k=>k∈t.bl) w w':=by
 cases t with
 | nil=>exact(DA w).mono fun e w' ⟨D,n,G⟩=>⟨D,trivial,by rw[G];exact(OA.refl _ w).drewN n⟩
 | node b v i L l r=>
  obtain⟨J,H,O⟩:=h;by_cases A:l.ht=L
  .cases l with
   | nil=>rw[vu]at A;subst A;rcases B with B|B;exact absurd rfl B;cases B
   | node c x j M p q=>
    rw[yL]at A;subst A;obtain⟨N,m,V,n4,U⟩:=yN f;obtain⟨d,T,m3,m4,m5⟩:=yN V;obtain⟨Z,g2,o⟩:=H;have I:b≠c:=fun e=>N (by rw[e];simp[Tt.bl]);have Y:∀k∈p.bl,¬(k=b∨k=c):=fun k hk e=>by
     rcases e with rfl|rfl
     .exact N (by simp[Tt.bl,hk])
     .exact d hk
    have X:∀k∈q.bl,¬(k=b∨k=c):=fun k hk e=>by
     rcases e with rfl|rfl
     .exact N (by simp[Tt.bl,hk])
     .exact T hk
    have a:∀k∈r.bl,¬(k=b∨k=c):=fun k hk e=>by
     rcases e with rfl|rfl
     .exact m hk
     .exact U k (by simp[Tt.bl]) hk
    refine(WD w J Z I).mono ?_;rintro e w' ⟨D,R,g,E⟩;rw[vM rfl];exact⟨D,⟨g,g2.RB E Y,R,o.RB E X,O.RB E a⟩,E.mono fun k hk=>by rcases hk with rfl|rfl<;>simp[Tt.bl]⟩
  .rw[xM A];exact(WC (M:=0) w J H A).mono fun e w' ⟨D,n,G⟩=>⟨D,by rw[G];exact Tt.In.drewN (t:=.node b v i L l r) ⟨J,H,O⟩ n,by rw[G];exact(OA.refl _ w).drewN n⟩
theorem WE(w:zu):zw prog 259 #[ze zp] w fun e w'=>e=zm (ze zp)/\∃n,w'=w.drewN n:=by go_enter func259,ntmps259;go_wp2;go_quiet (fail);go_wp2;go_ret;exact⟨rfl,_,rfl⟩
theorem ZX(w:zu)(h:Nx w b v i L l zp):zw prog 259 #[ze (zo ⟨b,0,zp⟩)] w fun e w'=>e=zm (ze (zo ⟨b,0,zp⟩))/\∃n,w'=w.drewN n:=by obtain⟨c0,c1,c2,c3,c4⟩:=h.c5;clear h;go_enter func259,ntmps259;go_wp2;go_quiet (fail);go_wp2;go_ret;exact⟨rfl,_,rfl⟩
theorem ZY{M:Int}{q:Tt}{p:Option Addr}(w:zu)(h:Nx w b v i L l (zo ⟨c,0,zp⟩))(H:Nx w c x j M p q.pt)(I:q.In w)(D:q.ht≠L):
 zw prog 259 #[ze (zo ⟨b,0,zp⟩)] w fun e w'=>e=zm (ze (zo ⟨b,0,zp⟩))/\∃n,w'=w.drewN n:=by
 obtain⟨c0,c1,c2,c3,c4⟩:=h.c5;obtain⟨d0,d1,d2,d3,O⟩:=H.c5;have N:=yw I;have B:(q.ht == L)=false:=beq_eq_false_iff_ne.2 D;have A:(q.ht != L)=true:=by rw[bne_iff_ne];exact D
 clear h H I D;obtain⟨Q,E⟩:=yB q.pt
 obtain⟨m,G⟩:=yB q.ht
 have J:Hid (∀W,q.In W->zw prog 282 #[ze Q] W fun e w'=>e=zm (.int .i64 m)/\w'=W):=yw (by rw[E,G];exact fun W h=>Xv q W h);rw[<-E]at O;rw[<-G]at B A;clear E G;go_enter func259,ntmps259;go_wp2;go_quiet ((go_at_call 282;exact Calls.quiet_of_same (J.out _ (N.out.drewN _))));go_wp2;go_ret;exact⟨rfl,_,rfl⟩
theorem ZZ{d:Nat}{M:Int}{y k:Int}{p s u:Option Addr}(w:zu)(h:Nx w b v i L l (zo ⟨c,0,zp⟩))(B:Nx w c x j M p (zo ⟨d,0,zp⟩))(E:Nx w d y k L s u)(A:b≠c)(hM:0<=M/\M<=1000000):
 zw prog 259 #[ze (zo ⟨b,0,zp⟩)] w fun e w'=>e=zm (ze (zo ⟨c,0,zp⟩))/\Nx w' b v i L l p/\Nx w' c x j (M+1) (zo ⟨b,0,zp⟩) (zo ⟨d,0,zp⟩)/\OA (fun k=>k=b∨k=c) w w':=by
 obtain⟨c0,c1,c2,c3,c4⟩:=h.c5;obtain⟨d0,d1,d2,d3,d4⟩:=B.c5;have fb:=h.OH;have fc:=B.OH;obtain⟨G,I,J⟩:=Qe h B E;have D:c≠b:=fun e=>A e.symm;clear h B E;go_enter func259,ntmps259;go_wp2;go_quiet ((go_at_call 282;exact Calls.quiet_of_same (Yz _ (J.out.drewN _))));go_wp2;go_ret;have H:=((((G.out.drewN nq).iF p).PR (c:=c) (o:=3) (u:=ze (zo ⟨b,0,zp⟩)) A)).PR (c:=c) (o:=2) (u:=.int .i64 (M+1)) A;have B:=(((I.out.drewN nq).PR (c:=b) (o:=4) (u:=ze p) D).iE (zo ⟨b,0,zp⟩)).OP (M+1)
 exact⟨rfl,H,B,(((OA.refl (fun k=>k=b∨k=c) w).drewN nq |>.setCell (.inl (.inl rfl)) _).setCell (.inl (.inr rfl)) _).setCell (.inl (.inr rfl)) _⟩
theorem uW(t:Tt)(w:zu)(h:t.In w)(F:t.bl.Nodup)(A:t.ht≠0∨t=.nil)(T:0<=t.right.ht/\t.right.ht<=1000000):
 zw prog 259 #[ze t.pt] w fun e w'=>e=zm (ze (xc t).pt)/\(xc t).In w'/\OA (fun k=>k∈t.bl) w w':=by
 cases t with
 | nil=>exact(WE w).mono fun e w' ⟨E,n,D⟩=>⟨E,trivial,by rw[D];exact(OA.refl _ w).drewN n⟩
 | node b v i L l r=>
  have B:=h;obtain⟨J,Y,o⟩:=h;cases r with
  | nil=>exact(ZX w J).mono fun e w' ⟨E,n,D⟩=>⟨E,by rw[D];exact B.drewN n,by rw[D];exact(OA.refl _ w).drewN n⟩
  | node c x j M p q=>
   obtain⟨U,g2,R⟩:=o;by_cases G:q.ht=L
   .cases q with
    | nil=>rw[vu]at G;subst G;rcases A with A|A;exact absurd rfl A;cases A
    | node d y k N s u=>
     rw[yL]at G;subst G;obtain⟨P,O,n3,a,Z⟩:=yN F;obtain⟨C,X,m3,m4,m5⟩:=yN a;have I:b≠c:=fun e=>O (by rw[e];simp[Tt.bl]);have g:∀k∈p.bl,¬(k=b∨k=c):=fun k hk e=>by
      rcases e with rfl|rfl
      .exact O (by simp[Tt.bl,hk])
      .exact C hk
     have f:∀z∈(Tt.node d y k N s u).bl,¬(z=b∨z=c):=fun z hk e=>by
      rcases e with rfl|rfl
      .exact O (by rw[Tt.bl];simp[hk])
      .exact X hk
     have m:∀k∈l.bl,¬(k=b∨k=c):=fun k hk e=>by
      rcases e with rfl|rfl
      .exact P hk
      .exact Z k hk (by simp[Tt.bl])
     simp only[yM,yL]at T;refine(ZZ w J U R.1 I T).mono ?_;rintro e w' ⟨E,V,K,H⟩;rw[qI (yL d y k N s u) (by rcases A with A|A;exact A;cases A)];exact⟨E,⟨K,⟨V,Y.RB H m,g2.RB H g⟩,R.RB H f⟩,H.mono fun k hk=>by rcases hk with rfl|rfl<;>simp[Tt.bl]⟩
   .rw[xw (by simpa[yM]using G)];exact(ZY w J U R G).mono fun e w' ⟨E,n,D⟩=>⟨E,by rw[D];exact B.drewN n,by rw[D];exact(OA.refl _ w).drewN n⟩
