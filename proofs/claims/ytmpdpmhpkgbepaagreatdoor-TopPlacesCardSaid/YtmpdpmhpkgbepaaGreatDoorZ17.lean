/- Parts for TopPlaces. Conditions: as stated. -/
import Derived.Deep.LoopGhost
import Derived.Test.YtmpdpmhpkgbepaaGreatDoorZ10
import Derived.Test.YtmpdpmhpkgbepaaGreatDoorZ11
set_option linter.unusedVariables false
set_option maxRecDepth 100000
set_option maxHeartbeats 4000000
open Go.Value renaming int->zd,pointer->ze,agg->zg,bool->zh,tuple->zi
open Go.IntKind renaming i64->zj
open Option renaming some->zo,none->zp
open Bool renaming false->zt
open Go renaming World->zu,Calls->zw
open Go.Proofs.Tryz
namespace Go.Proofs.YtmpdpmhpkgbepaaGreatDoor
open Go Go.RowKit Go.ChangeShapes Go.WideShapes
variable {B m:Int}{t b:Nat}{w:zu}{p:Option Addr}
attribute [local go_sem ↓] Go.wp_at_zero Go.wp_at_succ
theorem WG(v i:Int)(b:Nat)(x j L:Int)(l r:Tt)(w:zu)(h:(Tt.node b x j L l r).In w)(hn:(Tt.node b x j L l r).bl.Nodup)(hA:(Tt.node b x j L l r).AA)(hs:L<=100000)(hk:uj (v,i) (x,j)= -1)(hi:Xl (v,i) l=true)
 (ih:∀w,l.In w->zw prog 237 #[ze l.pt,zg #[zd zj v,zd zj i]] w (Ff v i l w)):
 zw prog 237 #[ze (zo ⟨b,0,zp⟩),zg #[zd zj v,zd zj i]] w (Ff v i (.node b x j L l r) w):=by
 have S:Hid (∀n,xx n (v,i) (.node b x j L l r)=xc (yW (.node b x j L (xx n (v,i) l) r))):=yw (by intro n;simp only[xx,hk];rfl);have hg:=yw h;obtain⟨h1,h2,h3⟩:=h;obtain⟨q,d,a,J,O⟩:=h1.c5;have B:=h1.lt;obtain⟨HB,HL,HR,HN,HA,HI,HK,HW⟩:=Qj h1 h2 h3 hn hA ih hk hi;have HS:=yw hs;obtain⟨lp,u⟩:=yB l.pt
 obtain⟨rp,o⟩:=yB r.pt
 have M:=yw u;have P:=yw o;rw[<-u]at J;rw[<-o]at O;clear h1 h2 h3 hn hA ih hk hi u o hs;go_enter func237,ntmps237;go_wp2;obtain⟨T,I⟩:=yB ((w.alloc (xI v i)).drew)
 have g:Below w.heap.size w T:=by rw[I];exact yI (yE w _)
 have f:=yw (HB.out.behind g);have K2:Kx T w.heap.size v i:=by rw[I];exact Kx.new w v i
 obtain⟨m,F⟩:=yB w.heap.size
 rw[<-F]at K2 ⊢;obtain⟨HM,p,Y⟩:=Qe F K2 g;clear F g q d a J O K2 B;obtain⟨q,d,a,J,O⟩:=f.out.c5;obtain⟨k0,W⟩:=p.out.c2;have B:=f.out.lt;have D:=p.out.lt;refine xd 5 (by kernel_rfl) (by kernel_rfl) T I ?_;clear I;simp only[List.take_succ_cons,List.take_zero,List.drop_succ_cons,List.drop_zero]
 repeat still_step
 refine wpStill_nil ?_;go_wp2_with fail;refine(qD _ _ _ _ _).mono ?_;rintro e w3 ⟨rfl,rfl⟩;rw[HK.out];go_wp2_with fail;obtain⟨w4,Z⟩:=yB ((T.alloc (xI v i)).alloc (xI x j))
 have R:Below T.heap.size T w4:=by rw[Z];exact(yE T _).alloc (by simp) _
 rw[<-Z];obtain⟨N,s,H⟩:=Qe (f.out.behind R) (p.out.behind R) (yC Y.out R Y.out.size);clear Z R q d a J O k0 W B D;obtain⟨q,d,a,J,O⟩:=N.out.c5;have fb:=N.out.OH;obtain⟨k0,W⟩:=s.out.c2;have B:=N.out.lt;have D:=s.out.lt;have h6:=yw (HL.out.behind H.out);have h4:=yw (HR.out.behind H.out);rw[<-M.out]at J;rw[<-P.out]at O;go_region_with
  ((
   go_at_call 237;rw[M.out];refine(HI.out w4.drew h6.out.drew).mono ?_;rintro e w5 ⟨n,K,rfl,X,G⟩;obtain⟨h5,hj,hc⟩:=Qe K X G;have E:=N.out.of (G.block b B (yN HN.out).1);have c:=s.out.of (G.block m D (fun F=>Nat.lt_irrefl m (by have:=HL.out.lt m F;rw[<-HM.out]at this;exact this)));have h7:=yw (h4.out.of (w':=w5) fun k hk hl=>G.block k hl (fun h8=>(yN HN.out).2.2.2.2 k h8 hk));clear K X G q d a J O fb k0 W B D;have hh:=yw E;rw[<-M.out,<-P.out]at E;obtain⟨q,d,a,J,O⟩:=E.c5;have fb:=E.OH;obtain⟨k0,W⟩:=c.c2;have B:=E.lt;have D:=c.lt;clear E c
   rw[<-M.out]))
 all_goals
  have A:=yw (Px.left HN.out HA.out HS.out HW.out (yI H.out) hg.out h5.out hj.out hc.out hh.out h7.out);clear q d a J O fb k0 W B D;go_wp2_with fail;obtain⟨w6,z⟩:=yB (w5.setCell ⟨b,3,zp⟩ (ze (xx n (v,i) l).pt))
  rw[<-z]at A ⊢;clear z;obtain⟨y,t⟩:=yB (Tt.node b x j L (xx n (v,i) l) r)
  have HF:=yw (S.out n);rw[<-t]at A HF;have C:zo (⟨b,0,zp⟩:Addr)=y.pt:=by rw[t];rfl
  rw[C];clear C t;refine(Ja y _ A.out.inn A.out.nd (.inl A.out.ht)).mono ?_;rintro e w7 ⟨rfl,V,h0⟩;have h9:=yw V;have hf:=yw h0;clear V h0;go_wp2_with fail;refine(uW (yW y) _ h9.out (((xV y).nodup_iff).2 A.out.nd) (.inl A.out.RJ) A.out.rt).mono ?_;rintro e w8 ⟨rfl,U,Q⟩;have he:=yw U;have ha:=yw Q;clear U Q;go_wp2;go_ret2;exact A.out.close HF.out hf.out ha.out he.out
theorem QA(v i:Int)(b:Nat)(x j L:Int)(l r:Tt)(w:zu)(h:(Tt.node b x j L l r).In w)(hn:(Tt.node b x j L l r).bl.Nodup)(hA:(Tt.node b x j L l r).AA)(hs:L<=100000)(hk:uj (v,i) (x,j)=1)(hi:Xl (v,i) r=true)
 (ih:∀w,r.In w->zw prog 237 #[ze r.pt,zg #[zd zj v,zd zj i]] w (Ff v i r w)):
 zw prog 237 #[ze (zo ⟨b,0,zp⟩),zg #[zd zj v,zd zj i]] w (Ff v i (.node b x j L l r) w):=by
 have S:Hid (∀n,xx n (v,i) (.node b x j L l r)=xc (yW (.node b x j L l (xx n (v,i) r)))):=yw (by intro n;simp only[xx,hk];rfl);have hg:=yw h;obtain⟨h1,h2,h3⟩:=h;obtain⟨q,d,a,J,O⟩:=h1.c5;have B:=h1.lt;obtain⟨HB,HL,HR,HN,HA,HI,HK,HW⟩:=Qj h1 h2 h3 hn hA ih hk hi;have HS:=yw hs;obtain⟨lp,u⟩:=yB l.pt
 obtain⟨rp,o⟩:=yB r.pt
 have P:=yw u;have M:=yw o;rw[<-u]at J;rw[<-o]at O;clear h1 h2 h3 hn hA ih hk hi u o hs;go_enter func237,ntmps237;go_wp2;obtain⟨T,I⟩:=yB ((w.alloc (xI v i)).drew)
 have g:Below w.heap.size w T:=by rw[I];exact yI (yE w _)
 have f:=yw (HB.out.behind g);have K2:Kx T w.heap.size v i:=by rw[I];exact Kx.new w v i
 obtain⟨m,F⟩:=yB w.heap.size
 rw[<-F]at K2 ⊢;obtain⟨HM,p,Y⟩:=Qe F K2 g;clear F g q d a J O K2 B;obtain⟨q,d,a,J,O⟩:=f.out.c5;obtain⟨k0,W⟩:=p.out.c2;have B:=f.out.lt;have D:=p.out.lt;refine xd 5 (by kernel_rfl) (by kernel_rfl) T I ?_;clear I;simp only[List.take_succ_cons,List.take_zero,List.drop_succ_cons,List.drop_zero]
 repeat still_step
 refine wpStill_nil ?_;go_wp2_with fail;refine(qD _ _ _ _ _).mono ?_;rintro e w3 ⟨rfl,rfl⟩;rw[HK.out];go_wp2_with fail;obtain⟨w4,Z⟩:=yB ((T.alloc (xI v i)).alloc (xI x j))
 have R:Below T.heap.size T w4:=by rw[Z];exact(yE T _).alloc (by simp) _
 rw[<-Z];obtain⟨N,s,H⟩:=Qe (f.out.behind R) (p.out.behind R) (yC Y.out R Y.out.size);clear Z R q d a J O k0 W B D;obtain⟨q,d,a,J,O⟩:=N.out.c5;have fb:=N.out.OH;obtain⟨k0,W⟩:=s.out.c2;have B:=N.out.lt;have D:=s.out.lt;have h6:=yw (HL.out.behind H.out);have h4:=yw (HR.out.behind H.out);rw[<-P.out]at J;rw[<-M.out]at O;go_region_with
  ((
   go_at_call 237;rw[M.out];refine(HI.out w4.drew h4.out.drew).mono ?_;rintro e w5 ⟨n,K,rfl,X,G⟩;obtain⟨h5,hj,hc⟩:=Qe K X G;have E:=N.out.of (G.block b B (yN HN.out).2.1);have c:=s.out.of (G.block m D (fun F=>Nat.lt_irrefl m (by have:=HR.out.lt m F;rw[<-HM.out]at this;exact this)));have h7:=yw (h6.out.of (w':=w5) fun k hk hl=>G.block k hl (fun h8=>(yN HN.out).2.2.2.2 k hk h8));clear K X G q d a J O fb k0 W B D;have hh:=yw E;rw[<-P.out,<-M.out]at E;obtain⟨q,d,a,J,O⟩:=E.c5;have fb:=E.OH;obtain⟨k0,W⟩:=c.c2;have B:=E.lt;have D:=c.lt;clear E c
   rw[<-M.out]))
 all_goals
  have A:=yw (Px.right HN.out HA.out HS.out HW.out (yI H.out) hg.out h5.out hj.out hc.out hh.out h7.out);clear q d a J O fb k0 W B D;go_wp2_with fail;obtain⟨w6,z⟩:=yB (w5.setCell ⟨b,4,zp⟩ (ze (xx n (v,i) r).pt))
  rw[<-z]at A ⊢;clear z;obtain⟨y,t⟩:=yB (Tt.node b x j L l (xx n (v,i) r))
  have HF:=yw (S.out n);rw[<-t]at A HF;have C:zo (⟨b,0,zp⟩:Addr)=y.pt:=by rw[t];rfl
  rw[C];clear C t;refine(Ja y _ A.out.inn A.out.nd (.inl A.out.ht)).mono ?_;rintro e w7 ⟨rfl,V,h0⟩;have h9:=yw V;have hf:=yw h0;clear V h0;go_wp2_with fail;refine(uW (yW y) _ h9.out (((xV y).nodup_iff).2 A.out.nd) (.inl A.out.RJ) A.out.rt).mono ?_;rintro e w8 ⟨rfl,U,Q⟩;have he:=yw U;have ha:=yw Q;clear U Q;go_wp2;go_ret2;exact A.out.close HF.out hf.out ha.out he.out
theorem DC(v i:Int)(t:Tt):∀w,t.In w->t.bl.Nodup->t.AA->t.size<=100000->Xl (v,i) t=true->zw prog 237 #[ze t.pt,zg #[zd zj v,zd zj i]] w (Ff v i t w):=by
 induction t with
 | nil=>intro w _ _ _ _ _;exact DB v i w
 | node b x j L l r ihl ihr=>
  intro w h G D hs A;obtain⟨n1,n2,H,I,n5⟩:=yN G;have E:=D.size;rw[yL]at E;simp only[Tt.size]at hs E;simp only[Xl]at A;rcases Qn (v,i) (x,j)with⟨_,e⟩|⟨_,e⟩|⟨_,e⟩
  .rw[if_pos e]at A;exact WG v i b x j L l r w h G D (by omega) e A (fun w' B=>ihl w' B H D.1 (by omega) A)
  .rw[if_neg (by omega),if_neg (by omega)]at A;cases A
  .rw[if_neg (by omega),if_pos e]at A;exact QA v i b x j L l r w h G D (by omega) e A (fun w' B=>ihr w' B I D.2.1 (by omega) A)
def Tt.cU(B:Int):Tt->Prop
 | .nil=>True
 | .node _ _ _ L l r=>1<=L/\L<=B/\l.cU B/\r.cU B
theorem Tt.cU.mono{C:Int}(A:B<=C):∀{t:Tt},t.cU B->t.cU C
 | .nil,_=>trivial
 | .node _ _ _ _ _ _,⟨h1,h2,h3,h4⟩=>⟨h1,by omega,h3.mono A,h4.mono A⟩
theorem Tt.AA.lev:∀{t:Tt},t.AA->t.cU t.ht
 | .nil,_=>trivial
 | .node b v i L l r,⟨h1,h2,h3,h4,h5⟩=>⟨h3,Int.le_refl _,h1.lev.mono (by rw[yL];omega),h2.lev.mono (by rw[yL];omega)⟩
theorem Dg{t:Tt}(h:t.cU B):(yW t).cU B:=by
 cases t with
 | nil=>trivial
 | node b v i L l r=>
  cases l with
  | nil=>exact h
  | node c x j M p q=>
   obtain⟨G,D,⟨J,E,I,A⟩,H⟩:=h;simp only[yW];split
   .exact⟨J,E,I,G,D,A,H⟩
   .exact⟨G,D,⟨J,E,I,A⟩,H⟩
theorem Fh{t:Tt}(h:t.cU B):(xc t).cU (B+1):=by
 have A:=h.mono (show B<=B+1 by omega);cases t with
 | nil=>trivial
 | node b v i L l r=>
  cases r with
  | nil=>exact A
  | node c x j M p q=>
   cases q with
   | nil=>exact A
   | node d y k N s u=>
    simp only[xc];split
    .obtain⟨G,E,I,h4,h5,D,H⟩:=A;obtain⟨g1,g2,g3,g4,g5,g6,g7⟩:=h;exact⟨by omega,by omega,⟨G,E,I,D⟩,H⟩
    .exact A
theorem uH{t:Tt}(h:t.cU B):(t.ht≠0∨t=.nil)/\0<=t.ht/\(0<=B->t.ht<=B):=by
 cases t with
 | nil=>exact⟨.inr rfl,Int.le_refl _,fun h=>h⟩
 | node b v i L l r=>obtain⟨h1,A,h3,h4⟩:=h;exact⟨.inl (by rw[yL];omega),by rw[yL];omega,fun _=>by rw[yL];exact A⟩
theorem DH{t:Tt}(h:t.cU B):(vU t).cU B:=by
 cases t with
 | nil=>trivial
 | node b v i L l r=>
  obtain⟨H,G,E,A⟩:=h;have hl:=(uH E).2;have hr:=(uH A).2;simp only[vU];split
  .rename_i hm;have D:1<=Ys l r:=by unfold Ys;omega
   refine⟨D,by omega,E,?_⟩;split
   .cases r with
    | nil=>trivial
    | node c x j M p q=>exact⟨D,by omega,A.2.2.1,A.2.2.2⟩
   .exact A
  .exact⟨H,G,E,A⟩
theorem Xw{w':zu}{x j L:Int}{l r r':Tt}(h:(Tt.node b x j L l r).In w)(D:(Tt.node b x j L l r).bl.Nodup)(B:r'.bl.Perm r.bl)(H:r'.In w')(A:OA (fun k=>k∈r.bl) w w'):
 (Tt.node b x j L l r').In (w'.setCell ⟨b,4,zp⟩ (ze r'.pt))/\(Tt.node b x j L l r').bl.Nodup/\OA (fun k=>k∈(Tt.node b x j L l r).bl) w (w'.setCell ⟨b,4,zp⟩ (ze r'.pt)):=by
 obtain⟨I,E,n3,n4,G⟩:=yN D;have hb:b∉r'.bl:=fun e=>E (B.mem_iff.1 e);refine⟨De (h.1.of (A.block b h.1.lt E)) (h.2.1.RB A G) H I hb,((List.Perm.cons b (B.append_left l.bl)).nodup_iff).2 D,?_⟩;exact(A.mono fun k hk=>by simp[Tt.bl,hk]).setCell (.inl (by simp[Tt.bl])) _
theorem QB{w':zu}{x j L:Int}{l r r':Tt}(h:(Tt.node b x j L l r).In w)(D:(Tt.node b x j L l r).bl.Nodup)(G:r'.bl.Perm r.bl)(H:r'.In w')(B:r'.pt=r.pt)(A:OA (fun k=>k∈r.bl) w w'):
 (Tt.node b x j L l r').In w'/\(Tt.node b x j L l r').bl.Nodup/\OA (fun k=>k∈(Tt.node b x j L l r).bl) w w':=by
 obtain⟨n1,I,n3,n4,E⟩:=yN D;refine⟨⟨?_,h.2.1.RB A E,H⟩,((List.Perm.cons b (G.append_left l.bl)).nodup_iff).2 D,A.mono fun k hk=>by simp[Tt.bl,hk]⟩;rw[B];exact h.1.of (A.block b h.1.lt I)
theorem Nd(t:Tt)(h:t.isNil=zt):∃b x j L l r,yW t=.node b x j L l r:=by
 cases t with
 | nil=>cases h
 | node b v i L l r=>
  cases l with
  | nil=>exact⟨_,_,_,_,_,_,rfl⟩
  | node c x j M p q=>simp only[yW];split<;>exact⟨_,_,_,_,_,_,rfl⟩
theorem Ua(t:Tt)(h:t.isNil=zt):∃b x j L l r,xc t=.node b x j L l r:=by
 cases t with
 | nil=>cases h
 | node b v i L l r=>
  cases r with
  | nil=>exact⟨_,_,_,_,_,_,rfl⟩
  | node c x j M p q=>
   cases q with
   | nil=>exact⟨_,_,_,_,_,_,rfl⟩
   | node d y k N s u=>simp only[xc];split<;>exact⟨_,_,_,_,_,_,rfl⟩
theorem Io(t:Tt){B:Nat}{H D G:Int}{E A:Tt}(I:yW (vU t)=.node B H D G E A):
 xi t=(xc (.node B H D G E ((yW A).PI (yW (yW A).right)))).PI (xc (xc (.node B H D G E ((yW A).PI (yW (yW A).right)))).right):=by
 unfold xi;simp only[I,yM,uy]
theorem Nf{t:Tt}(h:t.cU B)(hB:B<=900001):0<=t.right.ht/\t.right.ht<=1000000:=by
 cases t with
 | nil=>exact⟨Int.le_refl _,by rw[uk,vu];omega⟩
 | node b v i L l r=>
  have A:=(uH h.2.2.2).2;have h3:=A.2 (by have:=h.1;have:=h.2.1;omega);rw[yM];omega
def DI(b:Nat)(t:Tt)(w w':zu):Prop:=(vU t).In w'/\(vU t).pt=zo ⟨b,0,zp⟩/\OA (fun k=>k∈t.bl) w w'
def DD(w:zu)(k:Int×Int)(e:Ending)(w':zu):Prop:=∃c L l r,e=.returned (ze (zo ⟨c,0,zp⟩))/\Nx w c k.1 k.2 L l r/\w'=w
theorem DE(t:Tt)(w:zu)(h:t.In w)(D:t.isNil=zt):zw prog 257 #[ze t.pt] w (DD w (vo t)):=by
 obtain⟨N,B⟩:=yB t.pt
 rw[<-B];have H:=yw (And.intro h (And.intro D B));obtain⟨k,hk⟩:=yB (vo t)
 rw[<-hk];have T:=yw hk;clear h D B hk;go_enter func257,ntmps257;go_wp2;go_loopg [0] t.size (fun n v wr=>∃s:Tt,v=ze s.pt/\s.isNil=zt/\s.In w/\vo s=k/\s.size<=n/\wr=w)
 case atStart=>exact⟨t,by rw[H.out.2.2],H.out.2.1,H.out.1,T.out.symm,yA _,rfl⟩
 case round=>
  obtain⟨s,rfl,D,A,G,E,rfl⟩:=hrel;cases s with
  | nil=>cases D
  | node b x j L l r=>
   obtain⟨I,O,U⟩:=Qe A G E;obtain⟨c0,c1,c2,c3,R⟩:=A.1.c5;clear A G E D;rw[show ze (Tt.node b x j L l r).pt=ze (zo ⟨b,0,zp⟩)from rfl];cases r with
   | nil=>
    rw[show(Tt.nil).pt=zp from rfl]at R;go_wp2;go_ret;have J:=O.out;simp only[vo]at J;subst J;exact⟨b,L,l.pt,zp,rfl,I.out.1,rfl⟩
   | node c y k2 M p q=>
    rw[show(Tt.node c y k2 M p q).pt=zo ⟨c,0,zp⟩from rfl]at R;go_wp2;go_roundg (Tt.node c y k2 M p q).size
    case measure=>have:=U.out;simp only[Tt.size]at this ⊢;omega
    case rel=>exact⟨.node c y k2 M p q,rfl,rfl,I.out.2.2,O.out,yA _,rfl⟩
theorem Le(t:Tt)(w:zu)(h:t.In w)(D:t.isNil=zt):zw prog 251 #[ze t.pt] w (DD w (xQ t)):=by
 obtain⟨O,B⟩:=yB t.pt
 rw[<-B];have H:=yw (And.intro h (And.intro D B));obtain⟨k,hk⟩:=yB (xQ t)
 rw[<-hk];have T:=yw hk;clear h D B hk;go_enter func251,ntmps251;go_wp2;go_loopg [0] t.size (fun n v wr=>∃s:Tt,v=ze s.pt/\s.isNil=zt/\s.In w/\xQ s=k/\s.size<=n/\wr=w)
 case atStart=>exact⟨t,by rw[H.out.2.2],H.out.2.1,H.out.1,T.out.symm,yA _,rfl⟩
 case round=>
  obtain⟨s,rfl,D,A,G,E,rfl⟩:=hrel;cases s with
  | nil=>cases D
  | node b x j L l r=>
   obtain⟨I,R,U⟩:=Qe A G E;obtain⟨c0,c1,c2,N,c4⟩:=A.1.c5;clear A G E D;rw[show ze (Tt.node b x j L l r).pt=ze (zo ⟨b,0,zp⟩)from rfl];cases l with
   | nil=>
    rw[show(Tt.nil).pt=zp from rfl]at N;go_wp2;go_ret;have J:=R.out;simp only[xQ]at J;subst J;exact⟨b,L,zp,r.pt,rfl,I.out.1,rfl⟩
   | node c y k2 M p q=>
    rw[show(Tt.node c y k2 M p q).pt=zo ⟨c,0,zp⟩from rfl]at N;go_wp2;go_roundg (Tt.node c y k2 M p q).size
    case measure=>have:=U.out;simp only[Tt.size]at this ⊢;omega
    case rel=>exact⟨.node c y k2 M p q,rfl,rfl,I.out.2.1,R.out,yA _,rfl⟩
def Rx(w:zu)(t:Nat)(p:Option Addr)(m:Int):Prop:=w.heap[t]?=zo (.cells #[ze p,zd zj m] 283 (0,0))
theorem Rx.lt(h:Rx w t p m):t<w.heap.size:=(yx h).1
theorem Rx.c2(h:Rx w t p m):w.cell? ⟨t,0,zp⟩=zo (ze p)/\w.cell? ⟨t,1,zp⟩=zo (zd zj m):=by unfold Rx at h;constructor<;>simp[World.cell?,h]
theorem Rx.OH(h:Rx w t p m):∀j,w.frozen? ⟨t,j,zp⟩=zt:=by intro j;unfold Rx at h;simp[World.frozen?,h]
theorem Rx.of{w':zu}(h:Rx w t p m)(hb:w'.heap[t]?=w.heap[t]?):Rx w' t p m:=hb.trans h
theorem Rx.eT(h:Rx w t p m)(q:Option Addr):Rx (w.setCell ⟨t,0,zp⟩ (ze q)) t q m:=yD h
theorem Rx.fG(h:Rx w t p m)(n:Int):Rx (w.setCell ⟨t,1,zp⟩ (zd zj n)) t p n:=yD h
theorem Kx.OH{v i:Int}(h:Kx w b v i):∀j,w.frozen? ⟨b,j,zp⟩=zt:=by intro j;unfold Kx at h;simp[World.frozen?,h]
def Fg(w:zu)(k:Option (Int×Int))(e:Ending)(w':zu):Prop:=e=.returned (match k with
 | some k=>zi #[zg #[zd zj k.1,zd zj k.2],zh true]
 | none=>zi #[zg #[zd zj 0,zd zj 0],zh zt])/\Below w.heap.size w w'
theorem qd{B:Nat}{a:zu}{u v:Value}(h:Below B a w)(hb:B<=b):Below B a ((w.setCell ⟨b,0,zp⟩ u).setCell ⟨b,1,zp⟩ v):=(h.setCell (by exact hb) _).setCell (by exact hb) _
theorem DF(t:Nat)(m:Int)(f:Value)(w:zu)(h:Rx w t zp m):zw prog 250 #[ze (zo ⟨t,0,zp⟩),f] w (Fg w zp):=by
 obtain⟨B,c1⟩:=h.c2;have A:=h.lt;clear h;have h1:(w.alloc (xI 0 0)).cell? ⟨t,0,zp⟩=zo (ze zp):=by rw[(yE w (xI 0 0)).cell (p:=⟨t,0,zp⟩) A];exact B
 go_enter func250,ntmps250;go_wp2;refine bodyPost_ret (v:=zi #[zg #[zd zj 0,zd zj 0],zh zt]) (by simp[results,results250,go_sem]) rfl ⟨rfl,?_⟩;exact(Below.refl _ w).alloc (yA _) _
theorem DG(t:Nat)(T:Tt)(m:Int)(w:zu)(h:Rx w t T.pt m)(V:T.In w)(R:T.isNil=zt):zw prog 250 #[ze (zo ⟨t,0,zp⟩),.func (.func 251) #[] #[]] w (Fg w (zo (xQ T))):=by
 cases T with
 | nil=>cases R
 | node b x j L l r=>
  have F:=yw V;obtain⟨k,hk⟩:=yB (xQ (.node b x j L l r))
  rw[<-hk];have z:=yw hk;obtain⟨Y,o⟩:=h.c2;have hl:=h.lt;rw[show(Tt.node b x j L l r).pt=zo ⟨b,0,zp⟩from rfl]at Y;clear h V hk R;go_enter func250,ntmps250;go_wp2_with fail;refine(Le (.node b x j L l r) _ (F.out.behind (yE w (xI 0 0))) rfl).mono ?_;rw[<-z.out];rintro e w2 ⟨c,M,p,q,rfl,N,s⟩;subst s;obtain⟨u,g,Z,a,C⟩:=N.c5;have RK:=N.lt;have A:Kx (w.alloc (xI 0 0)) w.heap.size 0 0:=Kx.new w 0 0;obtain⟨O,X⟩:=A.c2;have I:=A.lt;have H:=A.OH;obtain⟨D,B⟩:=yB w.heap.size
  have U:=yw (yE w (xI 0 0));have E:=yw A;rw[<-B]at O X I H E ⊢;have d:=yw B;clear B N A Y o Z a C;obtain⟨J,G⟩:=yB (w.alloc (xI 0 0))
  rw[<-G]at u g O X I H RK U E ⊢;clear G;go_wp2;refine bodyPost_ret (v:=zi #[zg #[zd zj k.1,zd zj k.2],zh true]) ?_ rfl ⟨rfl,?_⟩
  .have hs:Kx ((J.setCell ⟨D,0,zp⟩ (zd zj k.1)).setCell ⟨D,1,zp⟩ (zd zj k.2)) D k.1 k.2:=by have n:(J.setCell ⟨D,0,zp⟩ (zd zj k.1)).heap[D]?=_:=yD E.out;exact yD n
   obtain⟨f,y⟩:=hs.c2;simp[results,results250,go_sem,f,y]
  .exact qd U.out (by rw[d.out];exact yA _)
theorem IA(w:zu):zw prog 121 #[] w fun e w'=>e=.returned (ze (zo ⟨w.heap.size,0,zp⟩))/\w'=w.alloc (.cells #[ze zp,zd zj 0] 283):=by go_enter func121,ntmps121;go_wp2;go_ret;exact⟨rfl,rfl⟩
theorem WH(T:Tt):T.keys.head? =if T.isNil=true then zp else zo (xQ T):=by
 cases h:T.isNil
 .obtain⟨l,A⟩:=Ko T h;rw[A];simp
 .rw[qX h];rfl
theorem Nk(t:Nat)(T:Tt)(m:Int)(w:zu)(h:Rx w t T.pt m)(U:T.In w):zw prog 229 #[ze (zo ⟨t,0,zp⟩)] w (Fg w T.keys.head?):=by
 have N:∀W,Below w.heap.size w W->zw prog 250 #[ze (zo ⟨t,0,zp⟩),.func (.func 251) #[] #[]] W (Fg W T.keys.head?):=by
  intro W G;rw[WH];cases h0:T.isNil
  .exact DG t T m W (h.of (G.block t h.lt)) (U.behind G) h0
  .have V:=qX h0;subst V;exact DF t m _ W (h.of (G.block t h.lt))
 have J:=yw (N (w.alloc (xI 0 0)) (yE w _));obtain⟨k,hk⟩:=yB (T.keys.head? )
 rw[<-hk]at J ⊢;clear h U N hk;go_enter func229,ntmps229;go_wp2_with fail;refine J.out.mono ?_;rintro e E ⟨rfl,hb⟩;have B:=yw ((Kx.new w 0 0).behind hb);have R:=yw (yC (yE w (xI 0 0)) hb (by simp));obtain⟨A,D⟩:=yB w.heap.size
 rw[<-D]at B ⊢;have O:=yw D;clear D hb J;obtain⟨e0,e1⟩:=B.out.c2;have h2:=B.out.OH;cases k with
 | none=>
  go_wp2;refine bodyPost_ret (v:=zi #[zg #[zd zj 0,zd zj 0],zh zt]) ?_ rfl ⟨rfl,?_⟩
  .have hs:Kx ((E.setCell ⟨A,0,zp⟩ (zd zj 0)).setCell ⟨A,1,zp⟩ (zd zj 0)) A 0 0:=by have I:(E.setCell ⟨A,0,zp⟩ (zd zj 0)).heap[A]?=_:=yD B.out;exact yD I
   obtain⟨H,M⟩:=hs.c2;simp[results,results229,go_sem,H,M]
  .exact qd R.out (by rw[O.out];exact yA _)
 | some k=>
  go_wp2;refine bodyPost_ret (v:=zi #[zg #[zd zj k.1,zd zj k.2],zh true]) ?_ rfl ⟨rfl,?_⟩
  .have hs:Kx ((E.setCell ⟨A,0,zp⟩ (zd zj k.1)).setCell ⟨A,1,zp⟩ (zd zj k.2)) A k.1 k.2:=by have I:(E.setCell ⟨A,0,zp⟩ (zd zj k.1)).heap[A]?=_:=yD B.out;exact yD I
   obtain⟨H,M⟩:=hs.c2;simp[results,results229,go_sem,H,M]
  .exact qd R.out (by rw[O.out];exact yA _)
def Kp(k:Int×Int):Tt->Option (Int×Int)
 | .nil=>zp
 | .node _ v i _ l r=>if SH k (v,i)then(match Kp k l with|some x=>zo x|none=>zo (v,i))else Kp k r
theorem Xx(k:Int×Int):∀T:Tt,T.keys.Pairwise SH->Kp k T=T.keys.find? (fun a=>decide (SH k a))
 | .nil,_=>rfl
 | .node b v i L l r,hs=>by
  simp only[Tt.keys]at hs ⊢;obtain⟨D,G,A⟩:=List.pairwise_append.1 hs;obtain⟨h0,B⟩:=List.pairwise_cons.1 G;rw[List.find?_append,<-Xx k l D];simp only[Kp];split
  .rename_i h;rw[List.find?_cons_of_pos (by simpa using h)];cases Kp k l<;>rfl
  .rename_i h;rw[List.find?_cons_of_neg (by simpa using h),<-Xx k r B];have:Kp k l=zp:=by rw[Xx k l D,List.find?_eq_none];intro a E;simp only[decide_eq_true_eq];intro hk;exact h (Dd hk (A a E (v,i) (by simp)))
   rw[this];rfl
def Ui(k:Int×Int)(s:Tt)(f:Option (Int×Int)):Option (Int×Int):=match Kp k s with
 | some x=>zo x
 | none=>f
def Nl(w:zu)(f:Option (Int×Int))(p:Option Addr):Prop:=match f with
 | none=>p=zp
 | some k=>∃c L l r,p=zo ⟨c,0,zp⟩/\Nx w c k.1 k.2 L l r
theorem DJ(t:Nat)(T:Tt)(m:Int)(v i:Int)(w:zu)(h:Rx w t T.pt m)(hT:T.In w):zw prog 230 #[ze (zo ⟨t,0,zp⟩),zg #[zd zj v,zd zj i]] w (Fg w (Kp (v,i) T)):=by
 obtain⟨k,hk⟩:=yB (Kp (v,i) T)
 rw[<-hk];obtain⟨HK,HT,HR⟩:=Qe hk hT h;clear h hT hk;have o:Hid (Below w.heap.size w ((w.alloc (xI v i)).alloc (xI 0 0))):=yw (((Below.refl _ w).alloc (yA _) _).alloc (by simp) _);obtain⟨tp,q⟩:=yB T.pt
 have hR:=HR.out.of (o.out.block t HR.out.lt);rw[<-q]at hR;obtain⟨c0,c1⟩:=hR.c2;have h8:=yw q;clear hR q;go_enter func230,ntmps230;go_wp2_with fail;obtain⟨m1,z⟩:=yB w.heap.size
 obtain⟨B,Z⟩:=yB (w.heap.size+1)
 rw[<-Z,<-z];have hf:=yw z;have y:=yw Z;clear z Z;go_loopg [6,7] T.size (fun n vf vn wr=>∃(s:Tt) (f:Option (Int×Int)) (p:Option Addr),vn=ze s.pt/\vf=ze p/\Nl wr f p/\s.In wr/\Ui (v,i) s f=k/\s.size<=n/\Kx wr m1 v i/\Kx wr B 0 0/\Below w.heap.size w wr)
 case atStart=>
  refine⟨T,zp,zp,by rw[h8.out],rfl,rfl,HT.out.behind o.out,?_,yA _,?_,?_,o.out⟩
  .rw[HK.out];unfold Ui;cases Kp (v,i) T<;>rfl
  .rw[hf.out];exact(Kx.new w v i).behind (yE _ _)
  .rw[y.out];have:=Kx.new (w.alloc (xI v i)) 0 0;rw[show(w.alloc (xI v i)).heap.size=w.heap.size+1 by simp]at this;exact this
 case round=>
  obtain⟨s,f,p,rfl,rfl,hF,h5,hn,P,Q,h4,hb⟩:=hrel;obtain⟨HF,HI,HN,HZ,X,A,HB⟩:=Qi hF h5 hn P Q h4 hb;clear hF h5 hn P Q h4 hb c0 c1;obtain⟨k0,k1⟩:=X.out.c2;obtain⟨z0,z1⟩:=A.out.c2;have h7:=A.out.OH;cases s with
  | nil=>
   have u:=HN.out;unfold Ui at u;simp only[Kp]at u;subst u;rw[show ze Tt.nil.pt=ze zp from rfl];cases f with
   | none=>
    have hp:p=zp:=HF.out;subst hp;go_wp2;refine bodyPost_ret (v:=zi #[zg #[zd zj 0,zd zj 0],zh zt]) ?_ rfl ⟨rfl,?_⟩
    .have hs:Kx ((wr.setCell ⟨B,0,zp⟩ (zd zj 0)).setCell ⟨B,1,zp⟩ (zd zj 0)) B 0 0:=by have h1:(wr.setCell ⟨B,0,zp⟩ (zd zj 0)).heap[B]?=_:=yD A.out;exact yD h1
     obtain⟨g0,g1⟩:=hs.c2;simp[results,results230,go_sem,g0,g1]
    .exact qd HB.out (by rw[y.out];omega)
   | some k=>
    obtain⟨c,L,l,r,rfl,hX⟩:=HF.out;obtain⟨S,x1,F,O,N⟩:=hX.c5;clear hX F O N;go_wp2;refine bodyPost_ret (v:=zi #[zg #[zd zj k.1,zd zj k.2],zh true]) ?_ rfl ⟨rfl,?_⟩
    .have hs:Kx ((wr.setCell ⟨B,0,zp⟩ (zd zj k.1)).setCell ⟨B,1,zp⟩ (zd zj k.2)) B k.1 k.2:=by have h1:(wr.setCell ⟨B,0,zp⟩ (zd zj k.1)).heap[B]?=_:=yD A.out;exact yD h1
     obtain⟨g0,g1⟩:=hs.c2;simp[results,results230,go_sem,g0,g1]
    .exact qd HB.out (by rw[y.out];omega)
  | node b x j L l r=>
   rw[show ze (Tt.node b x j L l r).pt=ze (zo ⟨b,0,zp⟩)from rfl];obtain⟨S,x1,F,O,N⟩:=HI.out.1.c5;obtain⟨lp,C⟩:=yB l.pt
   obtain⟨rp,d⟩:=yB r.pt
   have h2:=yw C;have h0:=yw d;rw[<-C]at O;rw[<-d]at N;clear C d;go_wp2_with fail;obtain⟨J,H⟩:=yB wr.drew
   have G:Below wr.heap.size wr J:=by rw[H];exact yI (Below.refl _ _)
   obtain⟨a,g,E,M⟩:=Qf (yC HB.out G HB.out.size) (HI.out.behind G) (X.out.behind G) (A.out.behind G);have h6:Hid (Nl J f p):=yw (by rw[H];exact HF.out);clear G S x1 F O N k0 k1 z0 z1 h7 HF HI X A HB;obtain⟨S,x1,F,O,N⟩:=g.out.1.c5;obtain⟨k0,k1⟩:=E.out.c2;refine xd 5 (by kernel_rfl) (by kernel_rfl) J H ?_;clear H;simp only[List.take_succ_cons,List.take_zero,List.drop_succ_cons,List.drop_zero]
   repeat still_step
   refine wpStill_nil ?_;go_wp2_with fail;refine(qD _ _ _ _ _).mono ?_;rintro e w3 ⟨rfl,rfl⟩;obtain⟨W,V⟩:=yB ((J.alloc (xI x j)).alloc (xI v i))
   have D:Below J.heap.size J W:=by rw[V];exact(yE J _).alloc (by simp) _
   rw[<-V];obtain⟨h3,I,U,R⟩:=Qf (yC a.out D a.out.size) (g.out.behind D) (E.out.behind D) (M.out.behind D);have ha:Hid (Nl W f p):=yw (by
    have:=h6.out;cases f with
    | none=>exact this
    | some k=>obtain⟨c,L,l,r,hp,hX⟩:=this;exact⟨c,L,l,r,hp,hX.behind D⟩)
   clear V D S x1 F O N k0 k1 h6 g E M a;obtain⟨S,x1,F,O,N⟩:=I.out.1.c5;rw[<-h2.out]at O;rw[<-h0.out]at N;by_cases K:SH (v,i) (x,j)
   .rw[Ek K];have he:Hid (Nl W (zo (x,j)) (zo ⟨b,0,zp⟩)):=yw ⟨b,L,_,_,rfl,I.out.1⟩;have Y:Hid (Ui (v,i) l (zo (x,j))=k):=yw (by have:=HN.out;unfold Ui at this ⊢;simp only[Kp]at this;rw[if_pos K]at this;cases hnl:Kp (v,i) l<;>rw[hnl]at this<;>exact this);clear K;go_wp2_with fail;go_quiet (fail);go_wp2;rw[h2.out];go_roundg l.size
    case measure=>have:=HZ.out;simp only[Tt.size]at this;omega
    case rel=>exact⟨l,zo (x,j),zo ⟨b,0,zp⟩,rfl,rfl,he.out,I.out.2.1.drewN _,Y.out,yA _,U.out,R.out,yH h3.out _⟩
   .have h9:uj (x,j) (v,i)= -1∨uj (x,j) (v,i)=0:=by
     rcases Qn (x,j) (v,i)with⟨_,e⟩|⟨_,e⟩|⟨h,_⟩
     .exact .inl e
     .exact .inr e
     .exact absurd h K
    have Y:Hid (Ui (v,i) r f=k):=yw (by have:=HN.out;unfold Ui at this ⊢;simp only[Kp]at this;rw[if_neg K]at this;exact this);clear K;rcases h9 with e|e
    all_goals
     rw[e];clear e;go_wp2;rw[h0.out];go_roundg r.size
     case measure=>have:=HZ.out;simp only[Tt.size]at this;omega
     case rel=>exact⟨r,f,p,rfl,rfl,ha.out,I.out.2.2,Y.out,yA _,U.out,R.out,h3.out⟩
