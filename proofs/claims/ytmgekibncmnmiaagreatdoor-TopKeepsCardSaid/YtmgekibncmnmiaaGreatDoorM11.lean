/- Parts of the proof of the law TopKeeps: contracts of the functions that it reaches, and plain laws of what they compute. Conditions: those in each statement. -/
import Derived.Deep.RegionHeld3
import Derived.Deep.RegionWith
import Derived.Outline
import Derived.Test.YtmgekibncmnmiaaGreatDoorM01
import Derived.Test.YtmgekibncmnmiaaGreatDoorM02
set_option linter.unusedVariables false
set_option maxRecDepth 100000
set_option maxHeartbeats 4000000
open Go.Proofs.Tryz
namespace Go.Proofs.YtmgekibncmnmiaaGreatDoor
open Go Go.RowKit Go.ChangeShapes Go.WideShapes
def Tt.pt:Tt->Option Addr
 | .nil=>none
 | .node b _ _ _ _ _=>some ⟨b,0,none⟩
abbrev zot(v i L:Int)(l r:Option Addr):Array Value:=#[.int .i64 v,.int .i64 i,.int .i64 L,.pointer l,.pointer r]
def Nx(w:World)(b:Nat)(v i L:Int)(l r:Option Addr):Prop:=w.heap[b]?=some (.cells (zot v i L l r) 341 (0,0))
theorem Nx.lt{w:World}{b:Nat}{v i L:Int}{l r:Option Addr}(h:Nx w b v i L l r):b<w.heap.size:=(zd h).1
theorem Nx.c5{w:World}{b:Nat}{v i L:Int}{l r:Option Addr}(h:Nx w b v i L l r):w.cell? ⟨b,0,none⟩=some (.int .i64 v)/\w.cell? ⟨b,1,none⟩=some (.int .i64 i)/\w.cell? ⟨b,2,none⟩=some (.int .i64 L)/\w.cell? ⟨b,3,none⟩=some (.pointer l)/\w.cell? ⟨b,4,none⟩=some (.pointer r):=by unfold Nx at h;refine⟨?_,?_,?_,?_,?_⟩ <;> simp[World.cell?,h]
theorem Nx.zpe{w:World}{b:Nat}{v i L:Int}{l r:Option Addr}(h:Nx w b v i L l r):∀j,w.frozen? ⟨b,j,none⟩=false:=by intro j;unfold Nx at h;simp[World.frozen?,h]
theorem Nx.of{w w':World}{b:Nat}{v i L:Int}{l r:Option Addr}(h:Nx w b v i L l r)(hb:w'.heap[b]?=w.heap[b]?):Nx w' b v i L l r:=hb.trans h
theorem Nx.zpP{w:World}{b c o:Nat}{v i L:Int}{l r:Option Addr}{u:Value}(h:Nx w b v i L l r)(A:b≠c):Nx (w.setCell ⟨c,o,none⟩ u) b v i L l r:=h.of (Below.heap_setCell _ _ _ _ (by exact A))
theorem Nx.zpm{w:World}{b:Nat}{v i L:Int}{l r:Option Addr}(h:Nx w b v i L l r)(M:Int):Nx (w.setCell ⟨b,2,none⟩ (.int .i64 M)) b v i M l r:=zi h
theorem Nx.ztr{w:World}{b:Nat}{v i L:Int}{l r:Option Addr}(h:Nx w b v i L l r)(p:Option Addr):Nx (w.setCell ⟨b,3,none⟩ (.pointer p)) b v i L p r:=zi h
theorem Nx.zts{w:World}{b:Nat}{v i L:Int}{l r:Option Addr}(h:Nx w b v i L l r)(p:Option Addr):Nx (w.setCell ⟨b,4,none⟩ (.pointer p)) b v i L l p:=zi h
def Tt.In(w:World):Tt->Prop
 | .nil=>True
 | .node b v i L l r=>Nx w b v i L l.pt r.pt/\l.In w/\r.In w
theorem Tt.In.of{w w':World}{t:Tt}(h:t.In w)(hb:∀b∈t.bl,b<w.heap.size->w'.heap[b]?=w.heap[b]?):t.In w':=by
 induction t with
 | nil=>trivial
 | node b v i L l r ihl ihr=>
  obtain⟨B,D,E⟩:=h;exact⟨B.of (hb b (by simp[Tt.bl]) B.lt),ihl D (fun c A=>hb c (by simp[Tt.bl,A])),ihr E (fun c A=>hb c (by simp[Tt.bl,A]))⟩
theorem Tt.In.drewN{w:World}{t:Tt}(h:t.In w)(n:Nat):t.In (w.drewN n):=h.of fun _ _ _=>rfl
theorem Tt.In.drew{w:World}{t:Tt}(h:t.In w):t.In w.drew:=h.of fun _ _ _=>rfl
theorem Tt.In.zpP{w:World}{t:Tt}(h:t.In w){c o:Nat}{u:Value}(A:c∉t.bl):t.In (w.setCell ⟨c,o,none⟩ u):=h.of fun b hb _=>Below.heap_setCell _ _ _ _ (by show b≠c;rintro rfl;exact A hb)
theorem Tt.In.behind{w w':World}{t:Tt}(h:t.In w)(hb:Below w.heap.size w w'):t.In w':=h.of fun b _ A=>hb.block b A
theorem Tt.In.zpW{w w':World}{F:Nat->Prop}{t:Tt}(h:t.In w)(B:zo8 F w w')(D:∀b∈t.bl,¬F b):t.In w':=h.of fun b hb A=>B.block b A (D b hb)
theorem Tt.In.lt{w:World}{t:Tt}(h:t.In w):∀b∈t.bl,b<w.heap.size:=by
 induction t with
 | nil=>intro b hb;simp[Tt.bl]at hb
 | node b v i L l r ihl ihr=>
  intro c A;simp only[Tt.bl,List.mem_cons,List.mem_append]at A;rcases A with rfl | A | A
  ·exact h.1.lt
  ·exact ihl h.2.1 c A
  ·exact ihr h.2.2 c A
theorem zu{b:Nat}{v i L:Int}{l r:Tt}(h:(Tt.node b v i L l r).bl.Nodup):b∉l.bl/\b∉r.bl/\l.bl.Nodup/\r.bl.Nodup/\(∀c∈l.bl,c∉r.bl):=by simp only[Tt.bl,List.nodup_cons,List.mem_append,not_or]at h;obtain⟨⟨G,B⟩,I⟩:=h;obtain⟨D,H,A⟩:=List.nodup_append.1 I;exact⟨G,B,D,H,fun c J E=>A c J c E rfl⟩
theorem zhT(w:World):Calls prog 282 #[.pointer none] w fun e w'=>e=.returned (.int .i64 0)/\w'=w:=by go_enter func282,ntmps282;go_wp2;go_ret;exact⟨rfl,rfl⟩
theorem zab{b:Nat}{v i L:Int}{l r:Option Addr}(w:World)(h:Nx w b v i L l r):Calls prog 282 #[.pointer (some ⟨b,0,none⟩)] w fun e w'=>e=.returned (.int .i64 L)/\w'=w:=by obtain⟨c0,c1,c2,c3,c4⟩:=h.c5;have hl:=h.lt;clear h;go_enter func282,ntmps282;go_wp2;go_ret;exact⟨rfl,rfl⟩
theorem uA(t:Tt)(w:World)(h:t.In w):Calls prog 282 #[.pointer t.pt] w fun e w'=>e=.returned (.int .i64 t.ht)/\w'=w:=by
 cases t with
 | nil=>exact zhT w
 | node b v i L l r=>exact zab w h.1
theorem zlC(w:World):Calls prog 260 #[.pointer none] w fun e w'=>e=.returned (.pointer none)/\∃n,w'=w.drewN n:=by go_enter func260,ntmps260;go_wp2;go_quiet (fail);go_wp2;go_ret;exact⟨rfl,_,rfl⟩
theorem zj0{b:Nat}{v i L M:Int}{l:Tt}{r:Option Addr}(w:World)(h:Nx w b v i L l.pt r)(E:l.In w)(D:l.ht≠L):
 Calls prog 260 #[.pointer (some ⟨b,0,none⟩)] w fun e w'=>e=.returned (.pointer (some ⟨b,0,none⟩))/\∃n,w'=w.drewN n:=by
 obtain⟨c0,c1,c2,c3,c4⟩:=h.c5;have h0:=h.lt;have H:=zc E;have B:(l.ht == L)=false:=beq_eq_false_iff_ne.2 D;have A:(l.ht != L)=true:=by rw[bne_iff_ne];exact D
 clear h E D;obtain⟨p,hp⟩:=zh l.pt
 obtain⟨m,hm⟩:=zh l.ht
 have G:Hid (∀W,l.In W->Calls prog 282 #[.pointer p] W fun e w'=>e=.returned (.int .i64 m)/\w'=W):=zc (by rw[hp,hm];exact fun W h=>uA l W h);rw[<-hp]at c3;rw[<-hm]at B A;clear hp hm;go_enter func260,ntmps260;go_wp2;go_quiet ((go_at_call 282;exact Calls.quiet_of_same (G.out _ (H.out.drewN _))));go_wp2;go_ret;exact⟨rfl,_,rfl⟩
theorem Nx.drewN{w:World}{b:Nat}{v i L:Int}{l r:Option Addr}(h:Nx w b v i L l r)(n:Nat):Nx (w.drewN n) b v i L l r:=h
theorem zj1{b c:Nat}{v i x j L:Int}{p q:Tt}{r:Option Addr}(w:World)(h:Nx w b v i L (some ⟨c,0,none⟩) r)(A:Nx w c x j L p.pt q.pt)(B:b≠c):
 Calls prog 260 #[.pointer (some ⟨b,0,none⟩)] w fun e w'=>e=.returned (.pointer (some ⟨c,0,none⟩))/\Nx w' b v i L q.pt r/\Nx w' c x j L p.pt (some ⟨b,0,none⟩)/\zo8 (fun k=>k=b∨k=c) w w':=by
 obtain⟨P,G⟩:=zh p.pt
 obtain⟨Q,E⟩:=zh q.pt
 rw[<-G,<-E]at A;rw[<-G,<-E];clear G E;obtain⟨c0,c1,c2,c3,c4⟩:=h.c5;obtain⟨d0,d1,d2,d3,d4⟩:=A.c5;have h0:=h.lt;have zre:=A.lt;have fb:=h.zpe;have fc:=A.zpe;have I:=zc h;have H:=zc A;have D:c≠b:=fun e=>B e.symm;have h3:(L == L)=true:=by simp
 clear h A;go_enter func260,ntmps260;go_wp2;go_quiet ((go_at_call 282;exact Calls.quiet_of_same (zab _ (H.out.drewN _))));go_wp2;go_ret;have J:=((I.out.drewN nq).ztr Q).zpP (c:=c) (o:=4) (u:=.pointer (some ⟨b,0,none⟩)) B;have A:=((H.out.drewN nq).zpP (c:=b) (o:=3) (u:=.pointer Q) D).zts (some ⟨b,0,none⟩);exact⟨rfl,J,A,((zo8.refl (fun k=>k=b∨k=c) w).drewN nq |>.setCell (.inl (.inl rfl)) _).setCell (.inl (.inr rfl)) _⟩
theorem zo8.mono{F G:Nat->Prop}{w w':World}(h:zo8 F w w')(E:∀k,F k->G k):zo8 G w w':=⟨h.os,h.tape,h.output,h.size,fun k A D=>h.block k A (fun B=>D (E k B))⟩
theorem zac(t:Tt)(w:World)(h:t.In w)(X:t.bl.Nodup)(D:t.ht≠0∨t=.nil):
 Calls prog 260 #[.pointer t.pt] w fun e w'=>e=.returned (.pointer (zC t).pt)/\(zC t).In w'/\zo8 (fun k=>k∈t.bl) w w':=by
 cases t with
 | nil=>exact(zlC w).mono fun e w' ⟨he,n,hw⟩=>⟨he,trivial,by rw[hw];exact(zo8.refl _ w).drewN n⟩
 | node b v i L l r=>
  obtain⟨I,G,N⟩:=h;by_cases B:l.ht=L
  ·cases l with
   | nil=>rw[xj]at B;subst B;rcases D with D | D;exact absurd rfl D;cases D
   | node c x j M p q=>
    rw[ztQ]at B;subst B;obtain⟨J,Z,T,n4,R⟩:=zu X;obtain⟨m1,m2,m3,m4,m5⟩:=zu T;obtain⟨g1,g2,g3⟩:=G;have H:b≠c:=fun e=>J (by rw[e];simp[Tt.bl]);have hp:∀k∈p.bl,¬(k=b∨k=c):=fun k A e=>by
     rcases e with rfl | rfl
     ·exact J (by simp[Tt.bl,A])
     ·exact m1 A
    have U:∀k∈q.bl,¬(k=b∨k=c):=fun k A e=>by
     rcases e with rfl | rfl
     ·exact J (by simp[Tt.bl,A])
     ·exact m2 A
    have V:∀k∈r.bl,¬(k=b∨k=c):=fun k A e=>by
     rcases e with rfl | rfl
     ·exact Z A
     ·exact R k (by simp[Tt.bl]) A
    refine(zj1 w I g1 H).mono ?_;rintro e w' ⟨he,O,Y,E⟩;rw[xC rfl];exact⟨he,⟨Y,g2.zpW E hp,O,g3.zpW E U,N.zpW E V⟩,E.mono fun k A=>by rcases A with rfl | rfl <;> simp[Tt.bl]⟩
  ·rw[yi B];exact(zj0 (M:=0) w I G B).mono fun e w' ⟨he,n,hw⟩=>⟨he,by rw[hw];exact Tt.In.drewN (t:=.node b v i L l r) ⟨I,G,N⟩ n,by rw[hw];exact(zo8.refl _ w).drewN n⟩
theorem zj2(w:World):Calls prog 259 #[.pointer none] w fun e w'=>e=.returned (.pointer none)/\∃n,w'=w.drewN n:=by go_enter func259,ntmps259;go_wp2;go_quiet (fail);go_wp2;go_ret;exact⟨rfl,_,rfl⟩
theorem zhU{b:Nat}{v i L:Int}{l:Option Addr}(w:World)(h:Nx w b v i L l none):Calls prog 259 #[.pointer (some ⟨b,0,none⟩)] w fun e w'=>e=.returned (.pointer (some ⟨b,0,none⟩))/\∃n,w'=w.drewN n:=by obtain⟨c0,c1,c2,c3,c4⟩:=h.c5;have h0:=h.lt;clear h;go_enter func259,ntmps259;go_wp2;go_quiet (fail);go_wp2;go_ret;exact⟨rfl,_,rfl⟩
theorem zhV{b c:Nat}{v i L x j M:Int}{q:Tt}{l p:Option Addr}(w:World)(h:Nx w b v i L l (some ⟨c,0,none⟩))(D:Nx w c x j M p q.pt)(G:q.In w)(E:q.ht≠L):
 Calls prog 259 #[.pointer (some ⟨b,0,none⟩)] w fun e w'=>e=.returned (.pointer (some ⟨b,0,none⟩))/\∃n,w'=w.drewN n:=by
 obtain⟨c0,c1,c2,c3,c4⟩:=h.c5;obtain⟨d0,d1,d2,d3,d4⟩:=D.c5;have h0:=h.lt;have zre:=D.lt;have I:=zc G;have B:(q.ht == L)=false:=beq_eq_false_iff_ne.2 E;have A:(q.ht != L)=true:=by rw[bne_iff_ne];exact E
 clear h D G E;obtain⟨Q,hp⟩:=zh q.pt
 obtain⟨m,hm⟩:=zh q.ht
 have H:Hid (∀W,q.In W->Calls prog 282 #[.pointer Q] W fun e w'=>e=.returned (.int .i64 m)/\w'=W):=zc (by rw[hp,hm];exact fun W h=>uA q W h);rw[<-hp]at d4;rw[<-hm]at B A;clear hp hm;go_enter func259,ntmps259;go_wp2;go_quiet ((go_at_call 282;exact Calls.quiet_of_same (H.out _ (I.out.drewN _))));go_wp2;go_ret;exact⟨rfl,_,rfl⟩
theorem zhW{b c d:Nat}{v i L x j M:Int}{y k:Int}{p s u:Option Addr}{l:Option Addr}(w:World)(h:Nx w b v i L l (some ⟨c,0,none⟩))(A:Nx w c x j M p (some ⟨d,0,none⟩))(E:Nx w d y k L s u)(B:b≠c)(hM:0<=M/\M<=1000000):
 Calls prog 259 #[.pointer (some ⟨b,0,none⟩)] w fun e w'=>e=.returned (.pointer (some ⟨c,0,none⟩))/\Nx w' b v i L l p/\Nx w' c x j (M+1) (some ⟨b,0,none⟩) (some ⟨d,0,none⟩)/\zo8 (fun k=>k=b∨k=c) w w':=by
 obtain⟨c0,c1,c2,c3,c4⟩:=h.c5;obtain⟨d0,d1,d2,d3,d4⟩:=A.c5;have h0:=h.lt;have zre:=A.lt;have fb:=h.zpe;have fc:=A.zpe;have G:=zc h;have I:=zc A;have J:=zc E;have D:c≠b:=fun e=>B e.symm;have h4:(L == L)=true:=by simp
 clear h A E;go_enter func259,ntmps259;go_wp2;go_quiet ((go_at_call 282;exact Calls.quiet_of_same (zab _ (J.out.drewN _))));go_wp2;go_ret;have H:=((((G.out.drewN nq).zts p).zpP (c:=c) (o:=3) (u:=.pointer (some ⟨b,0,none⟩)) B)).zpP (c:=c) (o:=2) (u:=.int .i64 (M+1)) B;have A:=(((I.out.drewN nq).zpP (c:=b) (o:=4) (u:=.pointer p) D).ztr (some ⟨b,0,none⟩)).zpm (M+1);exact⟨rfl,H,A,(((zo8.refl (fun k=>k=b∨k=c) w).drewN nq |>.setCell (.inl (.inl rfl)) _).setCell (.inl (.inr rfl)) _).setCell (.inl (.inr rfl)) _⟩
theorem qS(t:Tt)(w:World)(h:t.In w)(a:t.bl.Nodup)(A:t.ht≠0∨t=.nil)(O:0<=t.right.ht/\t.right.ht<=1000000):
 Calls prog 259 #[.pointer t.pt] w fun e w'=>e=.returned (.pointer (zH t).pt)/\(zH t).In w'/\zo8 (fun k=>k∈t.bl) w w':=by
 cases t with
 | nil=>exact(zj2 w).mono fun e w' ⟨he,n,hw⟩=>⟨he,trivial,by rw[hw];exact(zo8.refl _ w).drewN n⟩
 | node b v i L l r=>
  have D:=h;obtain⟨I,T,Z⟩:=h;cases r with
  | nil=>exact(zhU w I).mono fun e w' ⟨he,n,hw⟩=>⟨he,by rw[hw];exact D.drewN n,by rw[hw];exact(zo8.refl _ w).drewN n⟩
  | node c x j M p q=>
   obtain⟨g1,g2,g3⟩:=Z;by_cases E:q.ht=L
   ·cases q with
    | nil=>rw[xj]at E;subst E;rcases A with A | A;exact absurd rfl A;cases A
    | node d y k N s u=>
     rw[ztQ]at E;subst E;obtain⟨g,J,n3,V,U⟩:=zu a;obtain⟨m1,m2,m3,m4,m5⟩:=zu V;have H:b≠c:=fun e=>J (by rw[e];simp[Tt.bl]);have hp:∀k∈p.bl,¬(k=b∨k=c):=fun k B e=>by
      rcases e with rfl | rfl
      ·exact J (by simp[Tt.bl,B])
      ·exact m1 B
     have X:∀z∈(Tt.node d y k N s u).bl,¬(z=b∨z=c):=fun z B e=>by
      rcases e with rfl | rfl
      ·exact J (by rw[Tt.bl];simp[B])
      ·exact m2 B
     have Y:∀k∈l.bl,¬(k=b∨k=c):=fun k B e=>by
      rcases e with rfl | rfl
      ·exact g B
      ·exact U k B (by simp[Tt.bl])
     simp only[zt,ztQ]at O;refine(zhW w I g1 g3.1 H O).mono ?_;rintro e w' ⟨he,R,f,G⟩;rw[yQ (ztQ d y k N s u) (by rcases A with A | A;exact A;cases A)];exact⟨he,⟨f,⟨R,T.zpW G Y,g2.zpW G hp⟩,g3.zpW G X⟩,G.mono fun k B=>by rcases B with rfl | rfl <;> simp[Tt.bl]⟩
   ·rw[zV (by simpa[zt]using E)];exact(zhV w I g1 g3 E).mono fun e w' ⟨he,n,hw⟩=>⟨he,by rw[hw];exact D.drewN n,by rw[hw];exact(zo8.refl _ w).drewN n⟩
end Go.Proofs.YtmgekibncmnmiaaGreatDoor
