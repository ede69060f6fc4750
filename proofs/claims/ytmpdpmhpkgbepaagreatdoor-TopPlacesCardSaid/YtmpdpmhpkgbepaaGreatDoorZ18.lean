/- Parts for TopPlaces. Conditions: as stated. -/
import Derived.Deep.AppendLies
import Derived.Deep.CutRange
import Derived.Lib.MinMax
import Derived.WalkLawsBesides
import Derived.Test.YtmpdpmhpkgbepaaGreatDoorZ17
set_option linter.unusedVariables false
set_option maxRecDepth 100000
set_option maxHeartbeats 4000000
open Go.Value renaming int->zd,pointer->ze,slice->zf,agg->zg,ownBlock->zX
open Go.IntKind renaming i64->zj
open Go.Ending renaming returned->zm
open Option renaming some->zo,none->zp
open Go renaming World->zu,Calls->zw
open List renaming mem_cons->yg,mem_map->yh,mem_cons_of_mem->yj,mem_append->yn
open Go.Proofs.Tryz
namespace Go.Proofs.YtmpdpmhpkgbepaaGreatDoor
open Go Go.RowKit Go.ChangeShapes Go.WideShapes
variable {t b:Nat}{L i:Int}{F G:Nat->Prop}{w':zu}
attribute [local go_sem ↓] Go.wp_at_zero Go.wp_at_succ
def Vj(T:Tt)(w:zu)(e:Ending)(w':zu):Prop:=e=zm (ze (xi T).pt)/\(xi T).In w'/\OA (fun k=>k∈T.bl) w w'
theorem Ng(B:Int)(b:Nat)(v i L:Int)(l r:Tt)(T:Tt)(hT:T=.node b v i L l r)(w:zu)(h:(Tt.node b v i L l r).In w)(hn:(Tt.node b v i L l r).bl.Nodup)(hB:B<=900000)(S:(Tt.node b v i L l r).cU B):
 zw prog 258 #[ze (zo ⟨b,0,zp⟩)] w fun e w'=>Vj T w e w':=by
 have km:=yw hT;clear hT;obtain⟨hp,HN,kf⟩:=Qe h hn S;obtain⟨h1,h2,h3⟩:=h;obtain⟨c0,c1,c2,c3,c4⟩:=h1.c5;have H:=h1.lt;have fb:=h1.OH;have hl:=(uH S.2.2.1).2;have hr:=(uH S.2.2.2).2;have hL:=S.2.1;obtain⟨f,H5⟩:=yB l.ht
 obtain⟨a,hx⟩:=yB r.ht
 obtain⟨lp,H6⟩:=yB l.pt
 obtain⟨rp,C⟩:=yB r.pt
 obtain⟨H1,s,kn,ha⟩:=Qf H5 hx H6 C;have kj:Hid (∀W,OA (fun k=>k=b) w W->zw prog 282 #[ze lp] W fun e w'=>e=zm (zd zj f)/\w'=W):=yw (by rw[H6,H5];exact fun W hW=>Xv l W (h2.RB hW fun k hk e=>(yN hn).1 (e▸hk)));have hg:Hid (∀W,OA (fun k=>k=b) w W->zw prog 282 #[ze rp] W fun e w'=>e=zm (zd zj a)/\w'=W):=yw (by rw[C,hx];exact fun W hW=>Xv r W (h3.RB hW fun k hk e=>(yN hn).2.1 (e▸hk)));rw[<-H6]at c3;rw[<-C]at c4;have kp:0<=f/\f<=900000:=by rw[H5];exact⟨hl.1,by have:=hl.2 (by have:=S.1;omega);omega⟩
 have kk:0<=a/\a<=900000:=by rw[hx];exact⟨hr.1,by have:=hr.2 (by have:=S.1;omega);omega⟩
 have HW:Hid (∀n,OA (fun k=>k=b) w (w.drewN n)):=yw (fun n=>(OA.refl _ w).drewN n);clear h1 h2 h3 hn H5 hx H6 C hl hr S;go_enter func258,ntmps258;go_wp2;go_quiet ((first|(go_at_call_of 282 (lp);exact Calls.quiet_of_same (kj.out _ (HW.out _)))|(go_at_call_of 282 (rp);exact Calls.quiet_of_same (hg.out _ (HW.out _)))));go_upto_if 21 with(fail)
 go_cut []from 21 to 39 (fun wc=>DI b (.node b v i L l r) w wc)
 case first=>
  by_cases hm:min f a+1<L
  .by_cases kg:min f a+1<a
   .have kl:Hid (∃c y k M p q,r=.node c y k M p q):=yw (by cases r with
     | nil=>rw[vu]at s;have:=s.out;omega
     | node c y k M p q=>exact⟨_,_,_,_,_,_,rfl⟩)
    obtain⟨c,y,k,M,p,q,he⟩:=kl.out;have hv:=yw he;have I:vU (.node b v i L l r)=.node b v i (min f a+1) l (r.bJ (min f a+1)):=Lc (by rw[<-H1.out,<-s.out]) hm (by rw[<-s.out];exact kg);have K:=yw I;have ki:rp=zo ⟨c,0,zp⟩:=by rw[ha.out,he];rfl
    have H2:Nx w c y k M p.pt q.pt:=by have:=hp.out.2.2;rw[he]at this;exact this.1
    have RK:=H2.lt;obtain⟨e0,e1,e2,e3,e4⟩:=H2.c5;have fc:=H2.OH;have hf:b≠c:=fun e=>(yN HN.out).2.1 (by rw[he,e];simp[Tt.bl]);have k5:c≠b:=fun e=>hf e.symm;clear he I H2 e0 e1 e3 e4;rw[ki]at c4 hg;clear ki;go_wp2_with fail;refine(hg.out _ ((HW.out nq).setCell (.inl rfl) _)).mono ?_;rintro e w2 ⟨rfl,rfl⟩;go_wp2_with fail;go_meet
    case rel=>
     have hI:=hp.out;have hN:=yN HN.out;rw[hv.out]at hI hN;have g1:=hI.1.drewN nq;have g2:=hI.2.2.1.drewN nq;have k1:=(g1.OP (min f a+1)).PR (c:=c) (o:=2) (u:=zd zj (min f a+1)) hf;have k2:=(g2.PR (c:=b) (o:=2) (u:=zd zj (min f a+1)) k5).OP (min f a+1);have hT:OA (fun z=>z=b∨z=c) w (((w.drewN nq).setCell ⟨b,2,zp⟩ (zd zj (min f a+1))).setCell ⟨c,2,zp⟩ (zd zj (min f a+1))):=(((OA.refl _ w).drewN nq).setCell (.inl (.inl rfl)) _).setCell (.inl (.inr rfl)) _;have kd:=yN hN.2.2.2.1;unfold DI;rw[K.out,hv.out];refine⟨⟨k1,hI.2.1.RB hT ?_,k2,hI.2.2.2.1.RB hT ?_,hI.2.2.2.2.RB hT ?_⟩,rfl,hT.mono ?_⟩
     .intro z P e;rcases e with rfl|rfl
      .exact hN.1 P
      .exact hN.2.2.2.2 z P (by simp[Tt.bl])
     .intro z P e;rcases e with rfl|rfl
      .exact hN.2.1 (by simp[Tt.bl,P])
      .exact kd.1 P
     .intro z P e;rcases e with rfl|rfl
      .exact hN.2.1 (by simp[Tt.bl,P])
      .exact kd.2.1 P
     .intro z P;rcases P with rfl|rfl<;>simp[Tt.bl]
   .have I:vU (.node b v i L l r)=.node b v i (min f a+1) l r:=Fd (by rw[<-H1.out,<-s.out]) hm (by rw[<-s.out];omega);have K:=yw I;have ko:a<=min f a+1:=by omega
    clear I kg;go_wp2_with fail;refine(hg.out _ ((HW.out nq).setCell (.inl rfl) _)).mono ?_;rintro e w2 ⟨rfl,rfl⟩;go_wp2_with fail;go_meet
    case rel=>
     have hI:=hp.out;have hN:=yN HN.out;have k1:=(hI.1.drewN nq).OP (min f a+1);have hT:OA (fun z=>z=b) w ((w.drewN nq).setCell ⟨b,2,zp⟩ (zd zj (min f a+1))):=((OA.refl (fun z=>z=b) w).drewN nq).setCell (.inl rfl) _;unfold DI;rw[K.out];exact⟨⟨k1,hI.2.1.RB hT fun z P e=>hN.1 (e▸P),hI.2.2.RB hT fun z P e=>hN.2.1 (e▸P)⟩,rfl,hT.mono fun z P=>by rw[P];simp[Tt.bl]⟩
  .have I:vU (.node b v i L l r)=.node b v i L l r:=YT (by unfold Ys;rw[<-H1.out,<-s.out];exact hm);have K:=yw I;have ko:L<=min f a+1:=by omega
   clear I hm;go_wp2_with fail;go_meet
   case rel=>
    unfold DI;rw[K.out];exact⟨hp.out.drewN nq,rfl,(OA.refl _ w).drewN nq⟩
 case rest=>
  have Q:=yw hcut;have H4:Hid (B<=900000):=yw hB;clear hcut hB c0 c1 c2 c3 c4 H fb hp H1 s kn ha kj hg HW hL kp kk;have x:=yw (DH kf.out);have F:Hid ((vU (.node b v i L l r)).isNil=false):=yw (by simp only[vU];split<;>rfl);obtain⟨g,x1,j1,L1,l1,r1,k8⟩:=Nd (vU (.node b v i L l r)) F.out;have HF:=yw (Io _ k8);have H0:=yw k8;have t:Hid ((vU (.node b v i L l r)).bl.Nodup):=yw (by rw[Mz];exact HN.out);have hj:Hid ((vU (.node b v i L l r)).bl.Perm (Tt.node b v i L l r).bl):=yw (by rw[Mz]);rw[<-km.out]at HF H0 t hj Q x;clear k8;obtain⟨T0,kc⟩:=yB (vU T)
  unfold DI at Q;rw[<-kc]at H0 t hj Q x;clear kc F HN kf;rw[<-Q.out.2.1];go_wp2_with fail;refine(Ja T0 _ Q.out.1 t.out (uH x.out).1).mono ?_;rintro e wa ⟨rfl,D,J⟩;have Z:=Dg x.out;have Y:=((xV T0).nodup_iff).2 t.out;have X:=(xV T0).trans hj.out;rw[H0.out]at D Z Y X ⊢;have kb:Hid (OA (fun k=>k∈T.bl) w wa):=yw (Q.out.2.2.trans J fun k hk=>.inl (hj.out.mem_iff.1 hk));obtain⟨hh,d,h0,k7⟩:=Qf D Z Y X;have E:=D.1;obtain⟨rp,C⟩:=yB r1.pt
  have ha:=yw C;rw[<-C]at E;obtain⟨_,_,_,_,h4⟩:=E.c5;have H:=E.lt;clear D J Z Y X E C H0 t hj Q x;rw[show ze (Tt.node g x1 j1 L1 l1 r1).pt=ze (zo ⟨g,0,zp⟩)from rfl];go_wp2_with fail;rw[ha.out];refine(Ja r1 _ hh.out.2.2 (yN h0.out).2.2.2.1 (uH d.out.2.2.2).1).mono ?_;rintro e wb ⟨rfl,D,J⟩;have HS:=yw (Xw hh.out h0.out (xV r1) D J);have E:=hh.out.1.of (J.block g hh.out.1.lt (yN h0.out).2.1);have N:Hid ((Tt.node g x1 j1 L1 l1 (yW r1)).bl.Perm T.bl):=yw ((List.Perm.cons g ((xV r1).append_left l1.bl)).trans k7.out)
  have A:Hid ((Tt.node g x1 j1 L1 l1 (yW r1)).cU B):=yw ⟨d.out.1,d.out.2.1,d.out.2.2.1,Dg d.out.2.2.2⟩;obtain⟨_,_,_,_,h4⟩:=E.c5;have H:=E.lt;have H3:=E.OH;obtain⟨R,hR⟩:=yB (yW r1)
  rw[<-hR]at HS HF N A ⊢;have V:Hid (OA (fun k=>k∈T.bl) w (wb.setCell ⟨g,4,zp⟩ (ze R.pt))):=yw (kb.out.trans HS.out.2.2 fun k hk=>.inl (k7.out.mem_iff.1 hk));clear D J E hR hh h0 k7 d kb;cases R with
  | nil=>
   rw[show ze Tt.nil.pt=ze zp from rfl]at HS V ⊢;rw[show((Tt.nil).PI (yW (Tt.nil).right))=Tt.nil from rfl]at HF;go_wp2_with fail;obtain⟨W3,h7⟩:=yB (wb.setCell ⟨g,4,zp⟩ (ze zp))
   obtain⟨m,j⟩:=yB (Tt.node g x1 j1 L1 l1 .nil)
   have ho:zo (⟨g,0,zp⟩:Addr)=m.pt:=by rw[j];rfl
   have F:Hid (m.isNil=false):=yw (by rw[j];rfl);rw[<-h7,ho];rw[<-h7]at HS V;rw[<-j]at HS HF N A;clear h7 j ho h4 H H3 ha;have hq:=yw HS.out.1;have h5:=yw HS.out.2.1;refine(uW m _ hq.out h5.out (uH A.out).1 (Nf A.out (by have:=H4.out;omega))).mono ?_;rintro e we ⟨rfl,D,J⟩;obtain⟨b4,x4,j4,L4,l4,r4,h8⟩:=Ua m F.out;have Z:=Fh A.out;have Y:=((qP m).nodup_iff).2 h5.out;have X:=(qP m).trans N.out;rw[h8]at D Z Y X ⊢;rw[h8,yM,uy]at HF;have hi:Hid (OA (fun k=>k∈T.bl) w we):=yw (V.out.trans J fun k hk=>.inl (N.out.mem_iff.1 hk))
   obtain⟨U,O,G,hu⟩:=Qf D Z Y X;have E:=D.1;obtain⟨rq,h6⟩:=yB r4.pt
   have k4:=yw h6;rw[<-h6]at E;obtain⟨_,_,_,_,h4⟩:=E.c5;have H:=E.lt;clear D J Z Y X E h6 h8 hq h5 A N V F;rw[show ze (Tt.node b4 x4 j4 L4 l4 r4).pt=ze (zo ⟨b4,0,zp⟩)from rfl];go_wp2_with fail;rw[k4.out];refine(uW r4 _ U.out.2.2 (yN G.out).2.2.2.1 (uH O.out.2.2.2).1 (Nf O.out.2.2.2 (by have:=H4.out;omega))).mono ?_;rintro e wf ⟨rfl,D,J⟩;have HS:=yw (Xw U.out G.out (qP r4) D J);have E:=U.out.1.of (J.block b4 U.out.1.lt (yN G.out).2.1)
   have k3:Hid (OA (fun k=>k∈T.bl) w (wf.setCell ⟨b4,4,zp⟩ (ze (xc r4).pt))):=yw (hi.out.trans HS.out.2.2 fun k hk=>.inl (hu.out.mem_iff.1 hk));obtain⟨_,_,_,_,h4⟩:=E.c5;have H:=E.lt;have H3:=E.OH;clear D J E U G hu O hi;go_wp2;go_ret;unfold Vj;rw[HF.out];exact⟨rfl,HS.out.1,k3.out⟩
  | node c y k M p q=>
   rw[show(Tt.node c y k M p q).PI (yW (Tt.node c y k M p q).right)=.node c y k M p (yW q)from rfl]at HF;rw[show ze (Tt.node c y k M p q).pt=ze (zo ⟨c,0,zp⟩)from rfl]at HS V ⊢;obtain⟨wc,Hy⟩:=yB (wb.setCell ⟨g,4,zp⟩ (ze (zo ⟨c,0,zp⟩)))
   rw[<-Hy]at HS V;have Hg:=yw Hy;obtain⟨qp,ka⟩:=yB q.pt
   have H7:=yw ka;have g1:Nx wc g x1 j1 L1 l1.pt (zo ⟨c,0,zp⟩):=HS.out.1.1;have g2:Nx wc c y k M p.pt q.pt:=HS.out.1.2.2.1;rw[<-ka]at g2;have G1:=yw g1;have G2:=yw g2;have hf:g≠c:=fun e=>(yN HS.out.2.1).2.1 (by rw[e];simp[Tt.bl]);have k5:c≠g:=fun e=>hf e.symm;clear ka Hy g1 g2;have RK:c<wb.heap.size:=by have:=G2.out.lt;rw[Hg.out]at this;simpa using this
   go_wp2_with fail;rw[<-Hg.out];have H:=G1.out.lt;have RK:=G2.out.lt;have k6:=G1.out.OH;have H9:=G2.out.OH;obtain⟨_,_,_,_,d4⟩:=G1.out.c5;obtain⟨_,_,_,_,e4⟩:=G2.out.c5;clear H3 Hg h4;go_region_with
    ((
     go_at_call 260;rw[H7.out];refine(Ja q wc.drew HS.out.1.2.2.2.2.drew (yN (yN HS.out.2.1).2.2.2.1).2.2.2.1 (uH A.out.2.2.2.2.2.2).1).mono ?_;rintro e wd ⟨rfl,D,J⟩;obtain⟨ke,kh,hw,hy⟩:=Qf D J (G1.out.of (J.block g H (fun e=>(yN HS.out.2.1).2.1 (by simp[Tt.bl,e])))) (G2.out.of (J.block c RK (yN (yN HS.out.2.1).2.2.2.1).2.1));clear D J H RK k6 H9 d4 e4;have H:=hw.out.lt;have RK:=hy.out.lt;have k6:=hw.out.OH;have H9:=hy.out.OH;obtain⟨_,_,_,_,d4⟩:=hw.out.c5;obtain⟨_,_,_,_,e4⟩:=hy.out.c5;rw[<-H7.out]))
   all_goals
    have k9:=yw (Xw HS.out.1.2.2.drew (yN HS.out.2.1).2.2.2.1 (xV q) ke.out kh.out);have hc:=yw (QB (r':=.node c y k M p (yW q)) HS.out.1.drew HS.out.2.1 (List.Perm.cons c ((xV q).append_left p.bl)) k9.out.1 rfl k9.out.2.2);have k0:Hid ((Tt.node g x1 j1 L1 l1 (.node c y k M p (yW q))).bl.Perm T.bl):=yw ((List.Perm.cons g ((List.Perm.cons c ((xV q).append_left p.bl)).append_left l1.bl)).trans N.out);have h9:Hid ((Tt.node g x1 j1 L1 l1 (.node c y k M p (yW q))).cU B):=yw ⟨A.out.1,A.out.2.1,A.out.2.2.1,A.out.2.2.2.1,A.out.2.2.2.2.1,A.out.2.2.2.2.2.1,Dg A.out.2.2.2.2.2.2⟩
    have H8:Hid (OA (fun k=>k∈T.bl) w (wd.setCell ⟨c,4,zp⟩ (ze (yW q).pt))):=yw ((V.out.drew).trans hc.out.2.2 fun k hk=>.inl (N.out.mem_iff.1 hk));clear HS V N A G1 G2 ke kh k9 hw hy H RK k6 H9 d4 e4 hf k5;go_wp2_with fail;obtain⟨W3,h7⟩:=yB (wd.setCell ⟨c,4,zp⟩ (ze (yW q).pt))
    obtain⟨m,j⟩:=yB (Tt.node g x1 j1 L1 l1 (.node c y k M p (yW q)))
    have ho:zo (⟨g,0,zp⟩:Addr)=m.pt:=by rw[j];rfl
    have F:Hid (m.isNil=false):=yw (by rw[j];rfl);rw[<-h7,ho];rw[<-h7]at hc H8;rw[<-j]at hc HF k0 h9;clear h7 j ho ha H7;have hq:=yw hc.out.1;have h5:=yw hc.out.2.1;have V:=H8;have N:=k0;have A:=h9;clear H8 k0 h9 hc;refine(uW m _ hq.out h5.out (uH A.out).1 (Nf A.out (by have:=H4.out;omega))).mono ?_;rintro e we ⟨rfl,D,J⟩;obtain⟨b4,x4,j4,L4,l4,r4,h8⟩:=Ua m F.out;have Z:=Fh A.out;have Y:=((qP m).nodup_iff).2 h5.out;have X:=(qP m).trans N.out;rw[h8]at D Z Y X ⊢;rw[h8,yM,uy]at HF
    have hi:Hid (OA (fun k=>k∈T.bl) w we):=yw (V.out.trans J fun k hk=>.inl (N.out.mem_iff.1 hk));obtain⟨U,O,G,hu⟩:=Qf D Z Y X;have E:=D.1;obtain⟨rq,h6⟩:=yB r4.pt
    have k4:=yw h6;rw[<-h6]at E;obtain⟨_,_,_,_,h4⟩:=E.c5;have H:=E.lt;clear D J Z Y X E h6 h8 hq h5 A N V F;rw[show ze (Tt.node b4 x4 j4 L4 l4 r4).pt=ze (zo ⟨b4,0,zp⟩)from rfl];go_wp2_with fail;rw[k4.out];refine(uW r4 _ U.out.2.2 (yN G.out).2.2.2.1 (uH O.out.2.2.2).1 (Nf O.out.2.2.2 (by have:=H4.out;omega))).mono ?_;rintro e wf ⟨rfl,D,J⟩;have HS:=yw (Xw U.out G.out (qP r4) D J);have E:=U.out.1.of (J.block b4 U.out.1.lt (yN G.out).2.1)
    have k3:Hid (OA (fun k=>k∈T.bl) w (wf.setCell ⟨b4,4,zp⟩ (ze (xc r4).pt))):=yw (hi.out.trans HS.out.2.2 fun k hk=>.inl (hu.out.mem_iff.1 hk));obtain⟨_,_,_,_,h4⟩:=E.c5;have H:=E.lt;have H3:=E.OH;clear D J E U G hu O hi;go_wp2;go_ret;unfold Vj;rw[HF.out];exact⟨rfl,HS.out.1,k3.out⟩
theorem Cj(a:Nat):∀(t:Tt) (k:Int×Int),(xp k t).bl.count a<=t.bl.count a:=by
 intro t
 induction t with
 | nil=>intro k;exact yA _
 | node b v i L l r ihl ihr=>
  intro k;have A:∀(v i:Int) (B r':Tt),B.bl.count a<=l.bl.count a->r'.bl.count a<=r.bl.count a->(xi (.node b v i L B r')).bl.count a<=(Tt.node b v i L l r).bl.count a:=by intro v i B r' h1 h2;rw[(Pu _).count_eq a];simp only[Tt.bl,List.count_cons,List.count_append];omega
  simp only[xp];split
  .exact A _ _ _ _ (ihl k) (yA _)
  .split
   .exact A _ _ _ _ (yA _) (ihr k)
   .split
    .exact A _ _ _ _ (ihl _) (yA _)
    .split
     .exact A _ _ _ _ (yA _) (ihr _)
     .simp[Tt.bl]
theorem um{t:Tt}{k:Int×Int}{a:Nat}(h:a∈(xp k t).bl):a∈t.bl:=by have h1:=List.count_pos_iff.2 h;have h2:=Cj a t k;exact List.count_pos_iff.1 (by omega)
theorem Jd{t:Tt}{k:Int×Int}(h:t.bl.Nodup):(xp k t).bl.Nodup:=by rw[List.nodup_iff_count]at h ⊢;intro a;exact Nat.le_trans (Cj a t k) (h a)
def Xf(k:Int×Int)(t:Tt)(w:zu)(e:Ending)(w':zu):Prop:=e=zm (.tuple #[ze (xp k t).pt,.bool true])/\(xp k t).In w'/\OA (fun a=>a∈t.bl) w w'
structure Yt(w w6:zu)(b:Nat)(t T1:Tt):Prop where
 inn:T1.In w6
 nd:T1.bl.Nodup
 lev:∃B,B<=900000/\T1.cU B
 sub:∀k∈T1.bl,k∈t.bl
 RB:OA (fun k=>k∈t.bl) w w6
 node:∃x j L l r,T1=.node b x j L l r
theorem Yt.close{w D B:zu}{t A:Tt}{k:Int×Int}(h:Yt w D b t A)(E:xp k t=xi A){e:Ending}(I:Vj A D e B):e=zm (ze (xp k t).pt)/\(xp k t).In B/\OA (fun a=>a∈t.bl) w B:=by obtain⟨H,G,J⟩:=I;rw[E];exact⟨H,G,h.RB.trans J fun x M=>.inl (h.sub x M)⟩
theorem Yt.settled{w A:zu}{t D:Tt}(h:Yt w A b t D):zw prog 258 #[ze (zo ⟨b,0,zp⟩)] A (Vj D A):=by obtain⟨x,j,L,l,r,H⟩:=h.node;obtain⟨B,J,E⟩:=h.lev;have I:=h.inn;have G:=h.nd;rw[H]at I G E;exact Ng B b x j L l r D H A I G J E
theorem Nh{t:Tt}{M:Int}(h:t.AA)(A:t.ht<=M):t.cU M:=h.lev.mono A
theorem Yt.left{w D B:zu}{x j x' E:Int}{l r:Tt}(k:Int×Int)(X:(Tt.node b x j L l r).bl.Nodup)(G:(Tt.node b x j L l r).AA)(hs:L<=100000)
 (O:OA (fun z=>z=b) w D) (U:(xp k l).In B) (R:OA (fun k=>k∈l.bl) D B) (g:Nx B b x' E L l.pt r.pt) (f:r.In B):
 Yt w (B.setCell ⟨b,3,zp⟩ (ze (xp k l).pt)) b (.node b x j L l r) (.node b x' E L (xp k l) r):=by
 obtain⟨Z,I,M,N,J⟩:=yN X;have H:=Fe l k G.1;obtain⟨a1,Y,T,a4,a5⟩:=G;have hb:b∉(xp k l).bl:=fun V=>Z (um V);refine⟨Ld g U f hb I,?_,⟨L,by omega,T,Int.le_refl _,Nh H.1 (by have:=H.2.1;omega),Nh Y (by omega)⟩,?_,?_,⟨_,_,_,_,_,rfl⟩⟩
 .simp only[Tt.bl];refine List.nodup_cons.2 ⟨by simp[hb,I],List.nodup_append.2 ⟨Jd M,N,fun a d c h e=>J a (um d) (e▸h)⟩⟩
 .intro z A;simp only[Tt.bl,yg,yn]at A ⊢;rcases A with rfl|A|A
  .exact .inl rfl
  .exact .inr (.inl (um A))
  .exact .inr (.inr A)
 .exact((O.mono fun z A=>by rw[A];simp[Tt.bl]).trans R fun k hk=>.inl (by simp[Tt.bl,hk])).setCell (.inl (by simp[Tt.bl])) _
theorem Yt.right{w D B:zu}{x j x' E:Int}{l r:Tt}(k:Int×Int)(Y:(Tt.node b x j L l r).bl.Nodup)(G:(Tt.node b x j L l r).AA)(hs:L<=100000)
 (O:OA (fun z=>z=b) w D) (V:(xp k r).In B) (R:OA (fun k=>k∈r.bl) D B) (f:Nx B b x' E L l.pt r.pt) (U:l.In B):
 Yt w (B.setCell ⟨b,4,zp⟩ (ze (xp k r).pt)) b (.node b x j L l r) (.node b x' E L l (xp k r)):=by
 obtain⟨H,g,M,N,J⟩:=yN Y;have I:=Fe r k G.2.1;obtain⟨Z,a2,T,a4,a5⟩:=G;have hb:b∉(xp k r).bl:=fun X=>g (um X);refine⟨De f U V H hb,?_,⟨L,by omega,T,Int.le_refl _,Nh Z (by omega),Nh I.1 (by have:=I.2.1;omega)⟩,?_,?_,⟨_,_,_,_,_,rfl⟩⟩
 .simp only[Tt.bl];refine List.nodup_cons.2 ⟨by simp[hb,H],List.nodup_append.2 ⟨M,Jd N,fun a d c h e=>J a d (um (e▸h))⟩⟩
 .intro z A;simp only[Tt.bl,yg,yn]at A ⊢;rcases A with rfl|A|A
  .exact .inl rfl
  .exact .inr (.inl A)
  .exact .inr (.inr (um A))
 .exact((O.mono fun z A=>by rw[A];simp[Tt.bl]).trans R fun k hk=>.inl (by simp[Tt.bl,hk])).setCell (.inl (by simp[Tt.bl])) _
theorem Nx.fK{w:zu}{v:Int}{l r:Option Addr}(h:Nx w b v i L l r)(x j:Int):Nx ((w.setCell ⟨b,0,zp⟩ (zd zj x)).setCell ⟨b,1,zp⟩ (zd zj j)) b x j L l r:=by have A:(w.setCell ⟨b,0,zp⟩ (zd zj x)).heap[b]?=_:=yD h;exact yD A
theorem Ni(v i:Int)(b:Nat)(x j L:Int)(l r:Tt)(w:zu)(h:(Tt.node b x j L l r).In w)(hn:(Tt.node b x j L l r).bl.Nodup)(hA:(Tt.node b x j L l r).AA)(hs:L<=100000)(hk:uj (v,i) (x,j)= -1)
 (ih:∀w,l.In w->zw prog 236 #[ze l.pt,zg #[zd zj (v,i).1,zd zj (v,i).2]] w (Xf (v,i) l w)):
 zw prog 236 #[ze (zo ⟨b,0,zp⟩),zg #[zd zj v,zd zj i]] w (Xf (v,i) (.node b x j L l r) w):=by
 have u:Hid (xp (v,i) (.node b x j L l r)=xi (.node b x j L (xp (v,i) l) r)):=yw (by simp only[xp,hk];rfl);obtain⟨K,h2,h3⟩:=h;obtain⟨g,Z,X,I,N⟩:=K.c5;have A:=K.lt;obtain⟨HB,HL,HR,HN,HA,HI,HK,HS⟩:=Qj K h2 h3 hn hA ih hk hs;obtain⟨lp,o⟩:=yB l.pt
 obtain⟨rp,d⟩:=yB r.pt
 have J:=yw o;have s:=yw d;rw[<-o]at I;rw[<-d]at N;clear K h2 h3 hn hA ih hk o d hs;go_enter func236,ntmps236;go_wp2;obtain⟨R,H⟩:=yB ((w.alloc (xI v i)).drew)
 have c:Below w.heap.size w R:=by rw[H];exact yI (yE w _)
 have a:=yw (HB.out.behind c);have K2:Kx R w.heap.size v i:=by rw[H];exact Kx.new w v i
 obtain⟨m,p⟩:=yB w.heap.size
 rw[<-p]at K2 ⊢;obtain⟨HM,f,U⟩:=Qe p K2 c;clear p c g Z X I N K2 A;obtain⟨g,Z,X,I,N⟩:=a.out.c5;obtain⟨F,C⟩:=f.out.c2;have A:=a.out.lt;have B:=f.out.lt;refine xd 5 (by kernel_rfl) (by kernel_rfl) R H ?_;clear H;simp only[List.take_succ_cons,List.take_zero,List.drop_succ_cons,List.drop_zero]
 repeat still_step
 refine wpStill_nil ?_;go_wp2_with fail;refine(qD _ _ _ _ _).mono ?_;rintro e w3 ⟨rfl,rfl⟩;rw[HK.out];obtain⟨q,V⟩:=yB ((R.alloc (xI v i)).alloc (xI x j))
 have O:Below R.heap.size R q:=by rw[V];exact(yE R _).alloc (by simp) _
 rw[<-V];obtain⟨M,n,G⟩:=Qe (a.out.behind O) (f.out.behind O) (yC U.out O U.out.size);clear V O g Z X I N F C A B;obtain⟨g,Z,X,I,N⟩:=M.out.c5;have fb:=M.out.OH;obtain⟨F,C⟩:=n.out.c2;have A:=M.out.lt;have B:=n.out.lt;have Q:=yw (HL.out.behind G.out);have P:=yw (HR.out.behind G.out);have h7:Hid (OA (fun z=>z=b) w q):=yw (OA.NZ G.out);rw[<-J.out]at I;rw[<-s.out]at N;go_wp2_with fail;go_region_with
  ((
   go_at_call 236;rw[J.out];refine(HI.out q.drew Q.out.drew).mono ?_;rintro e w7 ⟨rfl,T,E⟩;have h6:=yw T;have h4:=yw E;have D:=M.out.of (E.block b A (yN HN.out).1);have Y:=n.out.of (E.block m B (fun p=>Nat.lt_irrefl m (by have:=HL.out.lt m p;rw[<-HM.out]at this;exact this)));have S:=yw (P.out.of (w':=w7) fun k hk hl=>E.block k hl (fun W=>(yN HN.out).2.2.2.2 k W hk));clear T E g Z X I N fb A F C B;have h5:=yw D;rw[<-J.out,<-s.out]at D;obtain⟨g,Z,X,I,N⟩:=D.c5;have fb:=D.OH;have A:=D.lt;obtain⟨F,C⟩:=Y.c2;have B:=Y.lt;clear Y;clear D;rw[<-J.out]))
 all_goals
  have y:=yw (Yt.left (v,i) HN.out HA.out HS.out h7.out.drew h6.out h4.out h5.out S.out);clear g Z X I N fb A F C B;go_wp2_with fail;refine y.out.settled.mono ?_;rintro e w8 hS;obtain⟨rfl,h8,t⟩:=y.out.close u.out hS;have H8:=yw h8;have h0:=yw t;clear h8 t hS;go_wp2;go_ret2;exact⟨rfl,H8.out,h0.out⟩
theorem Ip(v i:Int)(b:Nat)(x j L:Int)(l r:Tt)(w:zu)(h:(Tt.node b x j L l r).In w)(hn:(Tt.node b x j L l r).bl.Nodup)(hA:(Tt.node b x j L l r).AA)(hs:L<=100000)(hk:uj (v,i) (x,j)=1)
 (ih:∀w,r.In w->zw prog 236 #[ze r.pt,zg #[zd zj (v,i).1,zd zj (v,i).2]] w (Xf (v,i) r w)):
 zw prog 236 #[ze (zo ⟨b,0,zp⟩),zg #[zd zj v,zd zj i]] w (Xf (v,i) (.node b x j L l r) w):=by
 have u:Hid (xp (v,i) (.node b x j L l r)=xi (.node b x j L l (xp (v,i) r))):=yw (by simp only[xp,hk];rfl);obtain⟨K,h2,h3⟩:=h;obtain⟨g,Z,X,I,N⟩:=K.c5;have A:=K.lt;obtain⟨HB,HL,HR,HN,HA,HI,HK,HS⟩:=Qj K h2 h3 hn hA ih hk hs;obtain⟨lp,o⟩:=yB l.pt
 obtain⟨rp,d⟩:=yB r.pt
 have s:=yw o;have J:=yw d;rw[<-o]at I;rw[<-d]at N;clear K h2 h3 hn hA ih hk o d hs;go_enter func236,ntmps236;go_wp2;obtain⟨R,H⟩:=yB ((w.alloc (xI v i)).drew)
 have c:Below w.heap.size w R:=by rw[H];exact yI (yE w _)
 have a:=yw (HB.out.behind c);have K2:Kx R w.heap.size v i:=by rw[H];exact Kx.new w v i
 obtain⟨m,p⟩:=yB w.heap.size
 rw[<-p]at K2 ⊢;obtain⟨HM,f,U⟩:=Qe p K2 c;clear p c g Z X I N K2 A;obtain⟨g,Z,X,I,N⟩:=a.out.c5;obtain⟨F,C⟩:=f.out.c2;have A:=a.out.lt;have B:=f.out.lt;refine xd 5 (by kernel_rfl) (by kernel_rfl) R H ?_;clear H;simp only[List.take_succ_cons,List.take_zero,List.drop_succ_cons,List.drop_zero]
 repeat still_step
 refine wpStill_nil ?_;go_wp2_with fail;refine(qD _ _ _ _ _).mono ?_;rintro e w3 ⟨rfl,rfl⟩;rw[HK.out];obtain⟨q,V⟩:=yB ((R.alloc (xI v i)).alloc (xI x j))
 have O:Below R.heap.size R q:=by rw[V];exact(yE R _).alloc (by simp) _
 rw[<-V];obtain⟨M,n,G⟩:=Qe (a.out.behind O) (f.out.behind O) (yC U.out O U.out.size);clear V O g Z X I N F C A B;obtain⟨g,Z,X,I,N⟩:=M.out.c5;have fb:=M.out.OH;obtain⟨F,C⟩:=n.out.c2;have A:=M.out.lt;have B:=n.out.lt;have Q:=yw (HL.out.behind G.out);have P:=yw (HR.out.behind G.out);have h7:Hid (OA (fun z=>z=b) w q):=yw (OA.NZ G.out);rw[<-s.out]at I;rw[<-J.out]at N;go_wp2_with fail;go_region_with
  ((
   go_at_call 236;rw[J.out];refine(HI.out q.drew P.out.drew).mono ?_;rintro e w7 ⟨rfl,T,E⟩;have h6:=yw T;have h4:=yw E;have D:=M.out.of (E.block b A (yN HN.out).2.1);have Y:=n.out.of (E.block m B (fun p=>Nat.lt_irrefl m (by have:=HR.out.lt m p;rw[<-HM.out]at this;exact this)));have S:=yw (Q.out.of (w':=w7) fun k hk hl=>E.block k hl (fun W=>(yN HN.out).2.2.2.2 k hk W));clear T E g Z X I N fb A F C B;have h5:=yw D;rw[<-s.out,<-J.out]at D;obtain⟨g,Z,X,I,N⟩:=D.c5;have fb:=D.OH;have A:=D.lt;obtain⟨F,C⟩:=Y.c2;have B:=Y.lt;clear Y;clear D;rw[<-J.out]))
 all_goals
  have y:=yw (Yt.right (v,i) HN.out HA.out HS.out h7.out.drew h6.out h4.out h5.out S.out);clear g Z X I N fb A F C B;go_wp2_with fail;refine y.out.settled.mono ?_;rintro e w8 hS;obtain⟨rfl,h8,t⟩:=y.out.close u.out hS;have H8:=yw h8;have h0:=yw t;clear h8 t hS;go_wp2;go_ret2;exact⟨rfl,H8.out,h0.out⟩
theorem Vk(v i:Int)(b:Nat)(x j L:Int)(l r:Tt)(w:zu)(h:(Tt.node b x j L l r).In w)(hn:(Tt.node b x j L l r).bl.Nodup)(hA:(Tt.node b x j L l r).AA)(hs:L<=100000)(hk:uj (v,i) (x,j)=0)(h0:l.isNil=false)
 (ih:∀w,l.In w->zw prog 236 #[ze l.pt,zg #[zd zj (vo l).1,zd zj (vo l).2]] w (Xf (vo l) l w)):
 zw prog 236 #[ze (zo ⟨b,0,zp⟩),zg #[zd zj v,zd zj i]] w (Xf (v,i) (.node b x j L l r) w):=by
 have f:Hid (xp (v,i) (.node b x j L l r)=xi (.node b (vo l).1 (vo l).2 L (xp (vo l) l) r)):=yw (by simp only[xp,hk,h0];rfl);have ho:Hid (∃c y k2 M p q,l=.node c y k2 M p q):=yw (by cases l with
  | nil=>cases h0
  | node c y k2 M p q=>exact⟨_,_,_,_,_,_,rfl⟩)
 obtain⟨h1,h2,h3⟩:=h;obtain⟨Y,T,O,D,G⟩:=h1.c5;have A:=h1.lt;obtain⟨HB,HL,HR,HN,HA,HI,HK,HS⟩:=Qj h1 h2 h3 hn hA ih hk hs;obtain⟨lp,Q⟩:=yB l.pt
 obtain⟨rp,C⟩:=yB r.pt
 have B:=yw Q;have F:=yw C;rw[<-Q]at D;rw[<-C]at G;clear h1 h2 h3 hn hA ih hk Q C hs h0;go_enter func236,ntmps236;go_wp2;obtain⟨a,J⟩:=yB ((w.alloc (xI v i)).drew)
 have t:Below w.heap.size w a:=by rw[J];exact yI (yE w _)
 have s:=yw (HB.out.behind t);have K2:Kx a w.heap.size v i:=by rw[J];exact Kx.new w v i
 obtain⟨m,hm⟩:=yB w.heap.size
 rw[<-hm]at K2 ⊢;obtain⟨HM,h7,n⟩:=Qe hm K2 t;clear hm t Y T O D G K2 A;obtain⟨Y,T,O,D,G⟩:=s.out.c5;obtain⟨k0,k1⟩:=h7.out.c2;have A:=s.out.lt;refine xd 5 (by kernel_rfl) (by kernel_rfl) a J ?_;clear J;simp only[List.take_succ_cons,List.take_zero,List.drop_succ_cons,List.drop_zero]
 repeat still_step
 refine wpStill_nil ?_;go_wp2_with fail;refine(qD _ _ _ _ _).mono ?_;rintro e w3 ⟨rfl,rfl⟩;rw[HK.out];obtain⟨u,o⟩:=yB ((a.alloc (xI v i)).alloc (xI x j))
 have Z:Below a.heap.size a u:=by rw[o];exact(yE a _).alloc (by simp) _
 rw[<-o];obtain⟨X,hq,H⟩:=Qe (s.out.behind Z) (h7.out.behind Z) (yC n.out Z n.out.size);clear o Z Y T O D G k0 k1 A;obtain⟨Y,T,O,D,G⟩:=X.out.c5;have fb:=X.out.OH;obtain⟨k0,k1⟩:=hq.out.c2;have A:=X.out.lt;have h5:=yw (HL.out.behind H.out);have he:=yw (HR.out.behind H.out);have hu:Hid (OA (fun z=>z=b) w u):=yw (OA.NZ H.out);rw[<-B.out]at D;rw[<-F.out]at G;obtain⟨nc,ny,nk,nM,np,hx,P⟩:=ho.out;have K:lp=zo ⟨nc,0,zp⟩:=by rw[B.out,P];rfl
 rw[K]at D;have hp:=yw P;clear P;have h4:=yw K;clear K;go_wp2_with fail;rw[<-h4.out,B.out];refine(DE l _ h5.out (by rw[hp.out];rfl)).mono ?_;rintro e w5 ⟨d,dL,dl,dr,rfl,hD,hw⟩;obtain rfl:=hw.symm;obtain⟨V,S⟩:=yB ((vo l))
 rw[<-S]at hD f HI;clear S;obtain⟨d0,d1,_,_,_⟩:=hD.c5;clear hD;go_wp2_with fail;obtain⟨w6,I⟩:=yB ((u.setCell ⟨b,0,zp⟩ (zd zj V.1)).setCell ⟨b,1,zp⟩ (zd zj V.2))
 have U:OA (fun z=>z=b) u w6:=by rw[I];exact(((OA.refl (fun z=>z=b) u).setCell (.inl rfl) _).setCell (.inl rfl) _)
 have h6:Nx w6 b V.1 V.2 L l.pt r.pt:=by rw[I];exact X.out.fK V.1 V.2
 obtain⟨R,hv,hh,hc⟩:=Qf h6 (hu.out.trans U fun z W=>.inl W) (h5.out.RB U fun z W e=>(yN HN.out).1 (e▸W)) (he.out.RB U fun z W e=>(yN HN.out).2.1 (e▸W));rw[<-I];clear I U h6 Y T O D G fb k0 k1 A d0 d1;obtain⟨Y,T,O,D,G⟩:=R.out.c5;have fb:=R.out.OH;have A:=R.out.lt;rw[<-B.out]at D;rw[<-F.out]at G;go_region_with
  ((
   go_at_call 236;rw[B.out];refine(HI.out w6.drew hh.out.drew).mono ?_;rintro e w7 ⟨rfl,g,N⟩;have ht:=yw g;have hj:=yw N;have E:=R.out.of (N.block b A (yN HN.out).1);have hf:=yw (hc.out.of (w':=w7) fun k hk hl=>N.block k hl (fun hg=>(yN HN.out).2.2.2.2 k hg hk));clear g N Y T O D G fb A;have hr:=yw E;rw[<-B.out,<-F.out]at E;obtain⟨Y,T,O,D,G⟩:=E.c5;have fb:=E.OH;have A:=E.lt;clear E;rw[<-B.out]))
 all_goals
  have ha:=yw (Yt.left V HN.out HA.out HS.out hv.out.drew ht.out hj.out hr.out hf.out);clear Y T O D G fb A;go_wp2_with fail;refine ha.out.settled.mono ?_;rintro e w8 hS;obtain⟨rfl,h8,h9⟩:=ha.out.close f.out hS;have H8:=yw h8;have hi:=yw h9;clear h8 h9 hS;go_wp2;go_ret2;exact⟨rfl,H8.out,hi.out⟩
theorem Uh(v i:Int)(b:Nat)(x j L:Int)(l r:Tt)(w:zu)(h:(Tt.node b x j L l r).In w)(hn:(Tt.node b x j L l r).bl.Nodup)(hA:(Tt.node b x j L l r).AA)(hs:L<=100000)(hk:uj (v,i) (x,j)=0)(h0:r.isNil=false)(u:l=.nil)
 (ih:∀w,r.In w->zw prog 236 #[ze r.pt,zg #[zd zj (xQ r).1,zd zj (xQ r).2]] w (Xf (xQ r) r w)):
 zw prog 236 #[ze (zo ⟨b,0,zp⟩),zg #[zd zj v,zd zj i]] w (Xf (v,i) (.node b x j L l r) w):=by
 have g:Hid (xp (v,i) (.node b x j L l r)=xi (.node b (xQ r).1 (xQ r).2 L l (xp (xQ r) r))):=yw (by subst u;simp only[xp,hk,h0];rfl);have hr:Hid (∃c y k2 M p q,r=.node c y k2 M p q):=yw (by cases r with
  | nil=>cases h0
  | node c y k2 M p q=>exact⟨_,_,_,_,_,_,rfl⟩)
 have hg:=yw u;obtain⟨h1,h2,h3⟩:=h;obtain⟨Z,T,O,D,G⟩:=h1.c5;have A:=h1.lt;obtain⟨HB,HL,HR,HN,HA,HI,HK,HS⟩:=Qj h1 h2 h3 hn hA ih hk hs;obtain⟨lp,W⟩:=yB l.pt
 obtain⟨rp,P⟩:=yB r.pt
 have V:=yw W;have B:=yw P;rw[<-W]at D;rw[<-P]at G;clear h1 h2 h3 hn hA ih hk W P hs h0 u;go_enter func236,ntmps236;go_wp2;obtain⟨f,J⟩:=yB ((w.alloc (xI v i)).drew)
 have F:Below w.heap.size w f:=by rw[J];exact yI (yE w _)
 have C:=yw (HB.out.behind F);have K2:Kx f w.heap.size v i:=by rw[J];exact Kx.new w v i
 obtain⟨m,hm⟩:=yB w.heap.size
 rw[<-hm]at K2 ⊢;obtain⟨HM,ha,s⟩:=Qe hm K2 F;clear hm F Z T O D G K2 A;obtain⟨Z,T,O,D,G⟩:=C.out.c5;obtain⟨k0,k1⟩:=ha.out.c2;have A:=C.out.lt;refine xd 5 (by kernel_rfl) (by kernel_rfl) f J ?_;clear J;simp only[List.take_succ_cons,List.take_zero,List.drop_succ_cons,List.drop_zero]
 repeat still_step
 refine wpStill_nil ?_;go_wp2_with fail;refine(qD _ _ _ _ _).mono ?_;rintro e w3 ⟨rfl,rfl⟩;rw[HK.out];obtain⟨K,t⟩:=yB ((f.alloc (xI v i)).alloc (xI x j))
 have a:Below f.heap.size f K:=by rw[t];exact(yE f _).alloc (by simp) _
 rw[<-t];obtain⟨Y,hu,H⟩:=Qe (C.out.behind a) (ha.out.behind a) (yC s.out a s.out.size);clear t a Z T O D G k0 k1 A;obtain⟨Z,T,O,D,G⟩:=Y.out.c5;have fb:=Y.out.OH;obtain⟨k0,k1⟩:=hu.out.c2;have A:=Y.out.lt;have hh:=yw (HL.out.behind H.out);have h7:=yw (HR.out.behind H.out);have hy:Hid (OA (fun z=>z=b) w K):=yw (OA.NZ H.out);rw[<-V.out]at D;rw[<-B.out]at G;have h5:=hg.out;have n:lp=zp:=by rw[V.out,h5];rfl
 rw[n]at D;clear h5 n;obtain⟨nc,ny,nk,nM,np,H1,S⟩:=hr.out;have Q:rp=zo ⟨nc,0,zp⟩:=by rw[B.out,S];rfl
 rw[Q]at G;have ht:=yw S;clear S;have h4:=yw Q;clear Q;go_wp2_with fail;rw[<-h4.out,B.out];refine(Le r _ h7.out (by rw[ht.out];rfl)).mono ?_;rintro e w5 ⟨d,dL,dl,dr,rfl,hD,hw⟩;obtain rfl:=hw.symm;obtain⟨X,h6⟩:=yB ((xQ r))
 rw[<-h6]at hD g HI;clear h6;obtain⟨d0,d1,_,_,_⟩:=hD.c5;clear hD;go_wp2_with fail;obtain⟨w6,I⟩:=yB ((K.setCell ⟨b,0,zp⟩ (zd zj X.1)).setCell ⟨b,1,zp⟩ (zd zj X.2))
 have U:OA (fun z=>z=b) K w6:=by rw[I];exact(((OA.refl (fun z=>z=b) K).setCell (.inl rfl) _).setCell (.inl rfl) _)
 have h9:Nx w6 b X.1 X.2 L l.pt r.pt:=by rw[I];exact Y.out.fK X.1 X.2
 obtain⟨R,H0,ho,hf⟩:=Qf h9 (hy.out.trans U fun z hz=>.inl hz) (hh.out.RB U fun z hz e=>(yN HN.out).1 (e▸hz)) (h7.out.RB U fun z hz e=>(yN HN.out).2.1 (e▸hz));rw[<-I];clear I U h9 Z T O D G fb k0 k1 A d0 d1;obtain⟨Z,T,O,D,G⟩:=R.out.c5;have fb:=R.out.OH;have A:=R.out.lt;rw[<-V.out]at D;rw[<-B.out]at G;go_region_with
  ((
   go_at_call 236;rw[B.out];refine(HI.out w6.drew hf.out.drew).mono ?_;rintro e w7 ⟨rfl,o,N⟩;have hx:=yw o;have hq:=yw N;have E:=R.out.of (N.block b A (yN HN.out).2.1);have hi:=yw (ho.out.of (w':=w7) fun k hk hl=>N.block k hl (fun hj=>(yN HN.out).2.2.2.2 k hk hj));clear o N Z T O D G fb A;have hv:=yw E;rw[<-V.out,<-B.out]at E;obtain⟨Z,T,O,D,G⟩:=E.c5;have fb:=E.OH;have A:=E.lt;clear E;rw[<-B.out]))
 all_goals
  have he:=yw (Yt.right X HN.out HA.out HS.out H0.out.drew hx.out hq.out hv.out hi.out);clear Z T O D G fb A;go_wp2_with fail;refine he.out.settled.mono ?_;rintro e w8 hS;obtain⟨rfl,h8,hc⟩:=he.out.close g.out hS;have H8:=yw h8;have hp:=yw hc;clear h8 hc hS;go_wp2;go_ret2;exact⟨rfl,H8.out,hp.out⟩
theorem Nj(v i:Int)(b:Nat)(L:Int)(w:zu)(h:Nx w b v i L zp zp):
 zw prog 236 #[ze (zo ⟨b,0,zp⟩),zg #[zd zj v,zd zj i]] w (Xf (v,i) (.node b v i L .nil .nil) w):=by
 have E:Hid (xp (v,i) (.node b v i L .nil .nil)=.nil):=yw (by simp only[xp,Wd];rfl);obtain⟨N,O,R,T,U⟩:=h.c5;have d:=yw h;clear h;go_enter func236,ntmps236;go_wp2;obtain⟨B,A⟩:=yB ((w.alloc (xI v i)).drew)
 have H:Below w.heap.size w B:=by rw[A];exact yI (yE w _)
 have M:=yw (d.out.behind H);have X:Kx B w.heap.size v i:=by rw[A];exact Kx.new w v i
 obtain⟨m,a⟩:=yB w.heap.size
 rw[<-a]at X ⊢;have Y:=yw X;have D:=yw H;clear a H N O R T U X;obtain⟨N,O,R,T,U⟩:=M.out.c5;obtain⟨f,c⟩:=Y.out.c2;refine xd 5 (by kernel_rfl) (by kernel_rfl) B A ?_;clear A;simp only[List.take_succ_cons,List.take_zero,List.drop_succ_cons,List.drop_zero]
 repeat still_step
 refine wpStill_nil ?_;go_wp2_with fail;refine(qD _ _ _ _ _).mono ?_;rintro e w3 ⟨rfl,rfl⟩;rw[Wd];obtain⟨V,G⟩:=yB ((B.alloc (xI v i)).alloc (xI v i))
 have I:Below B.heap.size B V:=by rw[G];exact(yE B _).alloc (by simp) _
 rw[<-G];have Z:=yw (M.out.behind I);have J:=yw (yC D.out I D.out.size);clear G I N O R T U f c;obtain⟨N,O,R,T,U⟩:=Z.out.c5;go_wp2;go_ret2;refine⟨?_,?_,OA.NZ J.out⟩
 .rw[E.out];rfl
 .rw[E.out];trivial
theorem Py(t:Tt):∀(k:Int×Int) (w:zu),t.In w->t.bl.Nodup->t.AA->t.size<=100000->t.keys.Pairwise SH->k∈t.keys->zw prog 236 #[ze t.pt,zg #[zd zj k.1,zd zj k.2]] w (Xf k t w):=by
 induction t with
 | nil=>intro k w _ _ _ _ _ hk;simp[Tt.keys]at hk
 | node b x j L l r ihl ihr=>
  intro k w h N D hs a hk;obtain⟨n1,n2,Y,Z,n5⟩:=yN N;have M:=D.size;rw[yL]at M;simp only[Tt.size]at hs M;simp only[Tt.keys]at a hk;obtain⟨c,d,X⟩:=List.pairwise_append.1 a;obtain⟨T,J⟩:=List.pairwise_cons.1 d;rcases Qn k (x,j)with⟨E,e⟩|⟨E,e⟩|⟨E,e⟩
  .have O:k∈l.keys:=by
    rcases yn.1 hk with B|B
    .exact B
    .rcases yg.1 B with B|B
     .rw[B]at E;exact absurd E (qH _)
     .exact absurd E (vL (T k B))
   exact Ni k.1 k.2 b x j L l r w h N D (by omega) e (fun w' A=>ihl k w' A Y D.1 (by omega) c O)
  .subst E;by_cases H:l.isNil=false
   .obtain⟨m,V⟩:=Uf l H;exact Vk x j b x j L l r w h N D (by omega) e H (fun w' A=>ihl (vo l) w' A Y D.1 (by omega) c (by rw[V];simp))
   .have I:=qX (by simpa using H);by_cases G:r.isNil=false
    .obtain⟨m,V⟩:=Ko r G;exact Uh x j b x j L l r w h N D (by omega) e G I (fun w' A=>ihr (xQ r) w' A Z D.2.1 (by omega) J (by rw[V];simp))
    .have U:=qX (by simpa using G);subst I;subst U;exact Nj x j b L w h.1
  .have R:k∈r.keys:=by
    rcases yn.1 hk with B|B
    .exact absurd (X k B (x,j) (by simp)) (vL E)
    .rcases yg.1 B with B|B
     .rw[B]at E;exact absurd E (qH _)
     .exact B
   exact Ip k.1 k.2 b x j L l r w h N D (by omega) e (fun w' A=>ihr k w' A Z D.2.1 (by omega) J R)
def Ext(F:Nat->Prop)(w w':zu)(k:Nat):Prop:=F k∨(w.heap.size<=k/\k<w'.heap.size)
def xz(F:Nat->Prop)(w w':zu):Prop:=∀k,k<w.heap.size->F k->w'.heap[k]?=w.heap[k]?
theorem xz.NZ{w:zu}(h:Below w.heap.size w w'):xz F w w':=fun k hk _=>h.block k hk
theorem xz.PS{w:zu}(h:OA G w w')(hd:∀k,F k->¬G k):xz F w w':=fun k hk A=>h.block k hk (hd k A)
structure Rb(w:zu)(F:Nat->Prop)(t:Nat)(ks:List (Int×Int)):Prop where
 ex:∃(T:Tt) (m:Int),Rx w t T.pt m/\T.In w/\T.bl.Nodup/\T.AA/\T.keys=ks/\(∀b∈T.bl,F b)
 own:F t
 ord:ks.Pairwise SH
theorem Rb.kept{w:zu}{E:List (Int×Int)}(h:Rb w F t E)(hs:xz F w w'):Rb w' F t E:=by obtain⟨⟨T,m,D,I,N,J,M,A⟩,B,G⟩:=h;exact⟨⟨T,m,D.of (hs t D.lt B),I.of fun b hb H=>hs b H (A b hb),N,J,M,A⟩,B,G⟩
theorem Rb.mono{w:zu}{D:List (Int×Int)}(h:Rb w F t D)(E:∀k,k<w.heap.size->F k->G k):Rb w G t D:=by obtain⟨⟨T,m,B,A,O,M,N,I⟩,J,H⟩:=h;exact⟨⟨T,m,B,A,O,M,N,fun b hb=>E b (A.lt b hb) (I b hb)⟩,E t B.lt J,H⟩
theorem Rb.behind{w:zu}{A:List (Int×Int)}(h:Rb w F t A)(hb:Below w.heap.size w w'):Rb w' F t A:=h.kept (.NZ hb)
theorem Rx.bR{w:zu}{p:Option Addr}{m:Int}(h:Rx w t p m):∀{T:Tt},T.In w->t∉T.bl
 | .nil,_,A=>by simp[Tt.bl]at A
 | .node b v i L l r,⟨h1,h2,h3⟩,A=>by
  simp only[Tt.bl,yg,yn]at A;rcases A with rfl|A|A
  .unfold Rx at h;have B:w.heap[t]?=_:=h1;rw[h]at B;simp at B
  .exact h.bR h2 A
  .exact h.bR h3 A
theorem Tt.SL:∀T:Tt,T.size=T.keys.length
 | .nil=>rfl
 | .node b v i L l r=>by simp only[Tt.size,Tt.keys,List.length_append,List.length_cons,Tt.SL l,Tt.SL r];omega
theorem Fi{k:Int×Int}:∀{B:List (Int×Int)},B.Pairwise SH->k∉B->(uG k B).Pairwise SH
 | [],_,_=>List.pairwise_singleton _ _
 | a::r,h,hn=>by
  obtain⟨D,E⟩:=List.pairwise_cons.1 h;simp only[uG];split
  .rename_i hk;exact List.pairwise_cons.2 ⟨fun b hb=>by rcases yg.1 hb with rfl|hb;exact hk;exact Dd hk (D b hb),h⟩
  .rename_i hk;have A:SH a k:=Na (fun e=>hn (by rw[e];simp)) hk;refine List.pairwise_cons.2 ⟨fun b hb=>?_,Fi E (fun e=>hn (yj _ e))⟩;have:∀{l:List (Int×Int)},b∈uG k l->b=k∨b∈l:=by
    intro l
    induction l with
    | nil=>intro hb;simp[uG]at hb;exact .inl hb
    | cons c l ih=>
     intro hb;simp only[uG]at hb;split at hb
     .rcases yg.1 hb with h|h
      .exact .inl h
      .exact .inr h
     .rcases yg.1 hb with h|h
      .exact .inr (by rw[h];simp)
      .rcases ih h with h|h
       .exact .inl h
       .exact .inr (yj _ h)
   rcases this hb with rfl|hb
   .exact A
   .exact D b hb
theorem Pz(w:zu)(F:Nat->Prop)(t:Nat)(A:List (Int×Int))(h:Rb w F t A):zw prog 229 #[ze (zo ⟨t,0,zp⟩)] w (Fg w A.head?):=by obtain⟨⟨T,m,D,B,h3,h4,E,h6⟩,ho,hp⟩:=h;rw[<-E];exact Nk t T m w D B
theorem Lf(v i:Int)(w:zu)(F:Nat->Prop)(t:Nat)(B:List (Int×Int))(h:Rb w F t B):zw prog 230 #[ze (zo ⟨t,0,zp⟩),zg #[zd zj v,zd zj i]] w (Fg w (B.find? (fun a=>decide (SH (v,i) a)))):=by obtain⟨⟨T,m,G,E,h3,h4,A,h6⟩,ho,D⟩:=h;rw[<-A,<-Xx (v,i) T (by rw[A];exact D)];exact DJ t T m v i w G E
theorem Rb.stored{w0 w w1:zu}{T A:Tt}{m n:Int}{D:List (Int×Int)}(G:Rx w1 t T.pt m)(E:A.In w1)(N:A.bl.Nodup)(M:A.AA)(hk:A.keys=D)(H:D.Pairwise SH)(I:∀b∈A.bl,F b)(J:F t):
 Rb ((w1.setCell ⟨t,0,zp⟩ (ze A.pt)).setCell ⟨t,1,zp⟩ (zd zj n)) F t D:=by
 have B:=G.bR E;exact⟨⟨A,n,(G.eT A.pt).fG n,(E.PR B).PR B,N,M,hk,I⟩,J,H⟩
theorem Cl(v i:Int)(w:zu)(F:Nat->Prop)(t:Nat)(j:List (Int×Int))(h:Rb w F t j)(hk:(v,i)∉j)(hl:j.length<=10000):
 zw prog 205 #[ze (zo ⟨t,0,zp⟩),zg #[zd zj v,zd zj i]] w fun e w'=>e=zm (.bool true)/\Rb w' (Ext F w w') t (uG (v,i) j)/\OA F w w':=by
 obtain⟨⟨T,m,k,s,h3,L,h5,h6⟩,Q,N⟩:=h;subst h5;have B:=yw (Ue · (v,i) T N hk);have J:=yw (B.out 0).2;have q:Hid (T.size<=100000):=yw (by rw[Tt.SL];omega);obtain⟨Z,K,C,S,P,y,o⟩:=Qi (Fi N hk) k s h3 L h6 Q;obtain⟨U,l⟩:=k.c2;have A:=k.lt;obtain⟨W,O⟩:=yB T.pt
 rw[<-O]at U;have I:=yw O;clear k s h3 L h6 Q N hk hl O;go_enter func205,ntmps205;go_wp2;obtain⟨f,E⟩:=yB (w.alloc (xI v i))
 have H:Below w.heap.size w f:=by rw[E];exact yE w _
 have z:Kx f w.heap.size v i:=by rw[E];exact Kx.new w v i
 obtain⟨D,V,a⟩:=Qe (K.out.of (H.block t K.out.lt)) (C.out.behind H) H;obtain⟨k0,k1⟩:=z.c2;rw[<-E];clear E H z U l A;obtain⟨U,l⟩:=D.out.c2;rw[<-I.out]at U;have A:=D.out.lt;have X:=D.out.OH;go_region_with
  ((
   go_at_call 237;rw[I.out];refine(DC v i T f.drew V.out.drew S.out P.out q.out J.out).mono ?_;rintro e u ⟨n,Y,rfl,M,R⟩;obtain⟨c,d,p,G⟩:=Qf Y M R (D.out.of (w':=u) (R.block t A (D.out.bR V.out)));clear Y M R U l A X k0 k1;obtain⟨U,l⟩:=G.out.c2;rw[<-I.out]at U;have A:=G.out.lt;have X:=G.out.OH;rw[<-I.out]))
 all_goals
  go_wp2;go_ret;have N:=Jc n (v,i) T J.out;have h0:=a.out.size;have r:n∉T.bl:=fun hh=>by have:=C.out.lt n hh;have:=c.out;simp at this;omega
  have g:n<u.heap.size:=d.out.lt n (N.mem_iff.2 (by simp));refine⟨rfl,Rb.stored (w0:=w) (w:=w) G.out d.out ((N.nodup_iff).2 (Im S.out r)) (Vg n (v,i) T P.out).1 (B.out n).1 Z.out ?_ (.inl o.out),?_⟩
  .intro b hb;rcases yg.1 (N.mem_iff.1 hb)with rfl|hb
   .exact .inr ⟨by have:=c.out;simp at this;omega,by simpa using g⟩
   .exact .inl (y.out b hb)
  .exact(((OA.NZ (yI a.out)).trans p.out fun x hx=>.inl (y.out x hx)).setCell (.inl o.out) _).setCell (.inl o.out) _
theorem WI{k:Int×Int}{A:List (Int×Int)}(h:A.Pairwise SH):(A.erase k).Pairwise SH:=h.sublist (List.erase_sublist ..)
theorem Cm(v i:Int)(w:zu)(F:Nat->Prop)(t:Nat)(a:List (Int×Int))(h:Rb w F t a)(hk:(v,i)∈a)(hl:a.length<=10000):
 zw prog 203 #[ze (zo ⟨t,0,zp⟩),zg #[zd zj v,zd zj i]] w fun e w'=>e=zm (.bool true)/\Rb w' F t (a.erase (v,i))/\OA F w w':=by
 obtain⟨⟨T,m,c,p,L,u,h5,P⟩,z,f⟩:=h;subst h5;have J:=yw (ZV (v,i) T f hk);have V:=yw hk;have o:Hid (T.size<=100000):=yw (by rw[Tt.SL];omega);obtain⟨R,Y,s,W,C,y,q,l⟩:=Qj f (WI (k:=(v,i)) f) c p L u P z;obtain⟨O,d⟩:=c.c2;have A:=c.lt;obtain⟨K,M⟩:=yB T.pt
 rw[<-M]at O;have H:=yw M;clear c p L u P z f hk hl M;go_enter func203,ntmps203;go_wp2;obtain⟨Z,D⟩:=yB (w.alloc (xI v i))
 have G:Below w.heap.size w Z:=by rw[D];exact yE w _
 have r:Kx Z w.heap.size v i:=by rw[D];exact Kx.new w v i
 obtain⟨B,U,g⟩:=Qe (s.out.of (G.block t s.out.lt)) (W.out.behind G) G;obtain⟨k0,Q⟩:=r.c2;rw[<-D];clear D G r O d A;obtain⟨O,d⟩:=B.out.c2;rw[<-H.out]at O;have A:=B.out.lt;have X:=B.out.OH;go_region_with
  ((
   go_at_call 236;rw[H.out];refine(Py T (v,i) Z.drew U.out.drew C.out y.out o.out R.out V.out).mono ?_;rintro e S ⟨rfl,I,N⟩;obtain⟨j,n,E⟩:=Qe I N (B.out.of (w':=S) (N.block t A (B.out.bR U.out)));clear I N O d A X k0 Q;obtain⟨O,d⟩:=E.out.c2;rw[<-H.out]at O;have A:=E.out.lt;have X:=E.out.OH;rw[<-H.out]))
 all_goals
  go_wp2;go_ret;refine⟨rfl,Rb.stored (w0:=w) (w:=w) E.out j.out (Jd C.out) (Fe T (v,i) y.out).1 J.out.1 Y.out (fun b hb=>q.out b (um hb)) l.out,?_⟩;exact(((OA.NZ (yI g.out)).trans n.out fun x hx=>.inl (q.out x hx)).setCell (.inl l.out) _).setCell (.inl l.out) _
theorem DK(w:zu):zw prog 121 #[] w fun e w'=>e=zm (ze (zo ⟨w.heap.size,0,zp⟩))/\Rb w' (fun k=>k=w.heap.size) w.heap.size []/\w'=w.alloc (.cells #[ze zp,zd zj 0] 283):=
 (IA w).mono fun e w' ⟨B,A⟩=>⟨B,by rw[A];exact⟨⟨.nil,0,heap_alloc_new w _,trivial,by simp[Tt.bl],trivial,rfl,by intro b hb;simp[Tt.bl]at hb⟩,rfl,List.Pairwise.nil⟩,A⟩
structure En where
 id:Int
 w:Int
 v:Int
 rem:Int
def En.key(e:En):Int×Int:=(e.v,e.id)
structure Qu where
 l:List En
 cur:Int
 min:Int
def Qu.new:Qu:=⟨[],-1,0⟩
def Xh(i:Int)(e:En):Bool:=decide (e.id=i)
def Qu.get(x:Qu)(i:Int):Option En:=x.l.find? (Xh i)
def Kj(e:En):List En->List En
 | []=> [e]
 | a::r=>if SH e.key a.key then e::a::r else a::Kj e r
def Qu.raise(x:Qu):Qu:=match x.l with
 | []=>x
 | e::_=>{ x with min:=max x.min e.v }
def OJ(i:Int)(l:List En):List En:=l.filter (fun e=>!Xh i e)
def Yw(w:Int):Bool:=decide (2<=w/\w<=262144)
def Qu.SD(x:Qu)(e:En):Int:=if e.id<0 then 1 else if Yw e.w=false then 4 else if e.w<=e.rem then 1 else if(x.get e.id).isSome then 6 else if x.l.length=128 then 3 else 0
def Qu.put(x:Qu)(e:En):Qu:=if x.SD e=0 then({ x with l:=Kj e x.l }:Qu).raise else x
def Qu.drop(x:Qu)(i:Int):Qu:=match x.get i with
 | none=>x
 | some _=>({ l:=OJ i x.l,cur:=if x.cur=i then -1 else x.cur,min:=x.min }:Qu).raise
def Qu.OT(x:Qu)(i w:Int):Qu:=match x.get i with
 | none=>x
 | some e=>if Yw w=false then x else{ x with l:=x.l.map (fun a=>if Xh i a then{ a with rem:=a.rem*w/a.w,w:=w }else a) }
def Qu.OK(x:Qu)(ns:Int):Qu:=match x.get x.cur with
 | none=>x
 | some e=>({ x with l:=Kj { e with v:=Xg e.v ((e.rem+ns*1024) /e.w),rem:=(e.rem+ns*1024) %e.w } (OJ x.cur x.l) }:Qu).raise
def Qu.first(x:Qu):Option En:=x.l.find? (fun e=>!Xh x.cur e)
def Re(g:Int):Int:=if g<0 then 0 else if 1099511627776<g then 1099511627776 else g
def TB(a b:En)(g:Int):Bool:=decide (a.v<=Xg b.v (Re g))
def Qu.pick(x:Qu)(g:Int):Qu:=match x.first with
 | none=>x
 | some o=>match x.get x.cur with
  | none=>{ x with cur:=o.id }
  | some c=>if TB c o g then x else{ x with cur:=o.id }
def Qu.yield(x:Qu)(g:Int):Qu:=match x.first,x.get x.cur with
 | some o,zo c=>if TB o c g then{ x with cur:=o.id }else x.pick g
 | _,_=>x.pick g
structure En.Ok(e:En):Prop where
 id:0<=e.id/\e.id<=1000000
 w:2<=e.w/\e.w<=262144
 v: -9223372036854775808<=e.v/\e.v<=9223372036854775807
 rem:0<=e.rem/\e.rem<e.w
structure Qu.Ok(x:Qu):Prop where
 RA:∀e∈x.l,e.Ok
 ids:(x.l.map En.id).Nodup
 ord:(x.l.map En.key).Pairwise SH
 cur:x.cur= -1∨∃e∈x.l,e.id=x.cur
 min: -9223372036854775808<=x.min/\x.min<=9223372036854775807
 len:x.l.length<=128
theorem xu{x:Qu}{e:En}(h:x.get i=zo e):e∈x.l/\e.id=i:=by have B:=List.mem_of_find?_eq_some h;have A:=List.find?_some h;exact⟨B,by simpa[Xh]using A⟩
theorem get_none{x:Qu}(h:x.get i=zp):∀e∈x.l,e.id≠i:=by intro e A B;have:=List.find?_eq_none.1 h e A;simp[Xh,B]at this
theorem YW{l:List En}(h:(l.map En.id).Nodup){a b:En}(D:a∈l)(hb:b∈l)(e:a.id=b.id):a=b:=by
 induction l with
 | nil=>simp at D
 | cons c l ih=>
  simp only[List.map_cons,List.nodup_cons,yh,not_exists,not_and]at h;rcases yg.1 D with B|B
  .rcases yg.1 hb with A|A
   .rw[B,A]
   .rw[B]at e;exact absurd e.symm (h.1 b A)
  .rcases yg.1 hb with A|A
   .rw[A]at e;exact absurd e (h.1 a B)
   .exact ih h.2 B A
theorem MN{x:Qu}(h:(x.l.map En.id).Nodup){e:En}(A:e∈x.l):x.get e.id=zo e:=by
 cases hg:x.get e.id with
 | none=>exact absurd rfl (get_none hg e A)
 | some a=>obtain⟨D,B⟩:=xu hg;rw[YW h D A B]
theorem uX(e:En):∀l:List En,(Kj e l).map En.key=uG e.key (l.map En.key)
 | []=>rfl
 | a::r=>by
  simp only[Kj,List.map_cons,uG];split
  .rfl
  .rw[List.map_cons,uX e r]
theorem qt(e:En):∀(l:List En) (a:En),a∈Kj e l↔a=e∨a∈l
 | [],a=>by simp[Kj]
 | b::r,a=>by
  simp only[Kj];split
  .simp
  .rw[yg,qt e r a,yg];constructor
   .rintro(h|h|h)<;>simp[h]
   .rintro(h|h|h)<;>simp[h]
theorem Dh(e:En):∀l:List En,(Kj e l).Perm (e::l)
 | []=>.refl _
 | a::r=>by
  simp only[Kj];split
  .exact .refl _
  .exact((Dh e r).cons a).trans (List.Perm.swap e a r)
theorem Kr(e:En)(l:List En):(Kj e l).length=l.length+1:=by rw[(Dh e l).length_eq];rfl
theorem Rf{e:En}{l:List En}(h:(l.map En.id).Nodup)(E:∀a∈l,a.id≠e.id):((Kj e l).map En.id).Nodup:=by rw[((Dh e l).map En.id).nodup_iff,List.map_cons];refine List.nodup_cons.2 ⟨?_,h⟩;intro A;obtain⟨a,B,D⟩:=yh.1 A;exact E a B D
theorem Rg{e:En}{l:List En}(h:(l.map En.key).Pairwise SH)(D:∀a∈l,a.id≠e.id):((Kj e l).map En.key).Pairwise SH:=by rw[uX];refine Fi h fun A=>?_;obtain⟨a,B,hk⟩:=yh.1 A;exact D a B (congrArg Prod.snd hk)
theorem xB{l:List En}{a:En}:a∈OJ i l↔a∈l/\a.id≠i:=by simp[OJ,Xh]
theorem uC{l:List En}{e:En}(h:(l.map En.id).Nodup)(A:e∈l):(OJ e.id l).map En.key=(l.map En.key).erase e.key:=by
 induction l with
 | nil=>simp at A
 | cons a r ih=>
  simp only[List.map_cons,List.nodup_cons,yh,not_exists,not_and]at h;unfold OJ at ih ⊢;rcases yg.1 A with rfl|A
  .rw[List.filter_cons_of_neg (by simp[Xh]),List.map_cons,List.erase_cons_head];rw[List.filter_eq_self.2];intro b hb;have:=h.1 b hb;simp[Xh,this]
  .have B:a.id≠e.id:=fun D=>h.1 e A D.symm;rw[List.filter_cons_of_pos (by simp[Xh,B]),List.map_cons,List.map_cons,ih h.2 A,List.erase_cons_tail];have:¬a.key=e.key:=fun D=>B (congrArg Prod.snd D);simpa using this
theorem Xz{l:List En}{e:En}(h:(l.map En.id).Nodup)(A:e∈l):(OJ e.id l).length+1=l.length:=by have B:=congrArg List.length (uC h A);rw[List.length_map,List.length_erase_of_mem (yh.2 ⟨e,A,rfl⟩),List.length_map]at B;have:=List.length_pos_of_mem A;omega
theorem Fl{l:List En}(h:(l.map En.id).Nodup):((OJ i l).map En.id).Nodup:=h.sublist ((List.filter_sublist ..).map _)
theorem Fm{l:List En}(h:(l.map En.key).Pairwise SH):((OJ i l).map En.key).Pairwise SH:=h.sublist ((List.filter_sublist ..).map _)
theorem uz(x:Qu):x.raise.l=x.l:=by unfold Qu.raise;split<;>rfl
theorem uY(x:Qu):x.raise.cur=x.cur:=by unfold Qu.raise;split<;>rfl
theorem Qu.Ok.raise{x:Qu}(h:x.Ok):x.raise.Ok:=by
 refine⟨by rw[uz];exact h.RA,by rw[uz];exact h.ids,by rw[uz];exact h.ord,by rw[uz,uY];exact h.cur,?_,by rw[uz];exact h.len⟩;unfold Qu.raise;split
 .exact h.min
 .rename_i e l A;have:=(h.RA e (by rw[A];simp)).v;have:=h.min;simp only;omega
theorem Qu.Ok.put{x:Qu}(h:x.Ok){e:En}(E:e.Ok)(G:x.get e.id=zp)(hl:x.l.length<128):({ x with l:=Kj e x.l }:Qu).Ok:=by
 have D:=get_none G;refine⟨fun a A=>?_,Rf h.ids D,Rg h.ord D,?_,h.min,by rw[Kr];omega⟩
 .rcases(qt e x.l a).1 A with rfl|A
  .exact E
  .exact h.RA a A
 .rcases h.cur with B|⟨a,A,B⟩
  .exact .inl B
  .exact .inr ⟨a,(qt e x.l a).2 (.inr A),B⟩
theorem Qu.Ok.OJ{x:Qu}(h:x.Ok)(i:Int):({ l:=OJ i x.l,cur:=if x.cur=i then -1 else x.cur,min:=x.min }:Qu).Ok:=by
 refine⟨fun a D=>h.RA a (xB.1 D).1,Fl h.ids,Fm h.ord,?_,h.min,?_⟩
 .simp only;split
  .exact .inl rfl
  .rename_i B;rcases h.cur with A|⟨a,D,A⟩
   .exact .inl A
   .exact .inr ⟨a,xB.2 ⟨D,by rw[A];exact B⟩,A⟩
 .have:=List.length_filter_le (fun e=>!Xh i e) x.l;have hl:=h.len;show(x.l.filter (fun e=>!Xh i e)).length<=128;omega
theorem DT:(prog.info? 289).map (fun i=>(i.zero,i.size,i.bytes))=zo (zo (zg #[zd zj 0,zd zj 0]),2,16):=by kernel_rfl
def bS(A:List (Int×Int)):List Value:=A.flatMap fun k=> [zd zj k.1,zd zj k.2]
theorem Fn(a b:List (Int×Int)):bS (a++b)=bS a++bS b:=by simp[bS]
theorem YX(k:Int×Int):bS [k]= [zd zj k.1,zd zj k.2]:=by simp[bS]
def Fo(v:Value)(base n:Nat)(B A:List (Int×Int))(w:zu)(e:Ending)(w':zu):Prop:=∃a c,e=zm (zf a (n+A.length) c)/\w'.ownsRow base 289 2 (zf a (n+A.length) c) (n+A.length) (bS (B++A))/\OA (fun k=>v.ownBlock=zo k) w w'/\(∀k,(zf a (n+A.length) c).ownBlock=zo k->v.ownBlock=zo k∨w.heap.size<=k)
theorem DU(a:Option Addr)(base n c:Nat)(A:List (Int×Int))(w:zu)(h:w.ownsRow base 289 2 (zf a n c) n (bS A)):
 zw prog 223 #[ze zp,zf a n c] w (Fo (zf a n c) base n A [] w):=by
 have H:=yw h;clear h;go_enter func223,ntmps223;go_wp2;go_ret;exact⟨a,c,rfl,by simpa using H.out,OA.refl _ _,fun k hk=>.inl hk⟩
theorem WN(a:Option Addr)(b:Nat)(x j L:Int)(l r:Tt)(base n c:Nat)(H:List (Int×Int))(w:zu)(hT:(Tt.node b x j L l r).In w)(hb:∀k∈(Tt.node b x j L l r).bl,k<base)(h:w.ownsRow base 289 2 (zf a n c) n (bS H))(Y:base<=w.heap.size)
 (hs:n+(Tt.node b x j L l r).size<=100000)
 (S:∀(a:Option Addr) (n c:Nat) (H:List (Int×Int)) (w:zu),l.In w->w.ownsRow base 289 2 (zf a n c) n (bS H)->base<=w.heap.size->n+l.size<=100000->zw prog 223 #[ze l.pt,zf a n c] w (Fo (zf a n c) base n H l.keys w))
 (h5:∀(a:Option Addr) (n c:Nat) (H:List (Int×Int)) (w:zu),r.In w->w.ownsRow base 289 2 (zf a n c) n (bS H)->base<=w.heap.size->n+r.size<=100000->zw prog 223 #[ze r.pt,zf a n c] w (Fo (zf a n c) base n H r.keys w)):
 zw prog 223 #[ze (zo ⟨b,0,zp⟩),zf a n c] w (Fo (zf a n c) base n H (Tt.node b x j L l r).keys w):=by
 obtain⟨i0,hi,Q,h8,h6⟩:=info_parts DT;obtain⟨ks,z⟩:=yB ((Tt.node b x j L l r).keys)
 rw[<-z];have F:=yw z;obtain⟨h1,h2,h3⟩:=hT;have hf:=hb b (by simp[Tt.bl]);obtain⟨HB,HL,HR,W,q,hc,hh,g⟩:=Qj h1 h2 h3 hb h S h5 Y;obtain⟨p,o,T,J,M⟩:=h1.c5;obtain⟨lp,C⟩:=yB l.pt
 obtain⟨rp,y⟩:=yB r.pt
 have E:=yw C;have O:=yw y;rw[<-C]at J;rw[<-y]at M;have hg:l.size=l.keys.length:=l.SL;simp only[Tt.size]at hs;have HS:Hid (n+l.keys.length+r.size+1<=100000):=yw (by omega);have ha:Hid (n+l.size<=100000):=yw (by omega);clear h1 h2 h3 hb h S h5 z C y hs hg T Y;go_enter func223,ntmps223;go_wp2_with fail;have I:∀w',OA (fun k=>(zf a n c).ownBlock=zo k) w w'->Nx w' b x j L l.pt r.pt/\l.In w'/\r.In w':=by
  intro w' ht;have s:∀k,k<base->¬(zf a n c).ownBlock=zo k:=fun k hk e=>by have:=(q.out.lt k e).1;omega
  exact⟨HB.out.of (ht.block b HB.out.lt (s b hf)),HL.out.RB ht fun k hk=>s k (W.out k (by simp[Tt.bl,hk])),HR.out.RB ht fun k hk=>s k (W.out k (by simp[Tt.bl,hk]))⟩
 have I:=yw I;go_region_held3 (fun w'=>w'.cell? ⟨b,0,zp⟩=zo (zd zj x)/\w'.cell? ⟨b,1,zp⟩=zo (zd zj j)/\w'.cell? ⟨b,3,zp⟩=zo (ze lp)/\w'.cell? ⟨b,4,zp⟩=zo (ze rp)) (go_keep)
  (first
   | (
    go_at_call_of 223 (lp);rw[E.out];refine(hc.out a n c H w.drew HL.out.drew q.out g.out ha.out).mono ?_;rintro e w1 ⟨a1,f,rfl,V,A,Z⟩;have v:=yw V;have G:Hid (OA (fun k=>(zf a n c).ownBlock=zo k) w w1):=yw ⟨A.os,A.tape,A.output,A.size,A.block⟩;have U:Hid (∀k,(zf a1 (n+l.keys.length) f).ownBlock=zo k->(zf a n c).ownBlock=zo k∨w.heap.size<=k):=yw Z;have R:=(I.out w1 G.out).1;clear V A Z p o J M;obtain⟨p,o,T,J,M⟩:=R.c5;clear R T;rw[<-E.out]at J;rw[<-O.out]at M;rw[<-E.out])
   | (
    go_at_call_of 223 (lp);rw[E.out];refine(hc.out a n c H (w.alloc (xI x j)).drew (HL.out.behind (yE w _)).drew (q.out.alloc _) (by have:=g.out;simp;omega) ha.out).mono ?_;rintro e w1 ⟨a1,f,rfl,V,A,Z⟩;have v:=yw V;have G:Hid (OA (fun k=>(zf a n c).ownBlock=zo k) w w1):=yw (((OA.refl _ w).alloc (xI x j)).trans ⟨A.os,A.tape,A.output,A.size,A.block⟩ fun k hk=>.inl hk);have U:Hid (∀k,(zf a1 (n+l.keys.length) f).ownBlock=zo k->(zf a n c).ownBlock=zo k∨w.heap.size<=k):=yw (fun k hk=>(Z k hk).imp id (fun h=>by simp at h;omega))
    have h0:Hid (w1.heap[w.heap.size]?=zo (xI x j)):=yw (by rw[A.block w.heap.size (by simp) (fun e=>by have:=(q.out.lt _ e).2;omega)];exact heap_alloc_new w _);have R:=(I.out w1 G.out).1;clear V A Z p o J M;obtain⟨p,o,T,J,M⟩:=R.c5;clear R T;rw[<-E.out]at J;rw[<-O.out]at M;rw[<-E.out])
   | (
    refine step_append_lies _ (by rfl) _ _ _ (by rfl) base 289 i0 _ 2 16 underlying286 hi Q h8 h6 rfl (by omega) (zf a1 (n+l.keys.length) f) (n+l.keys.length) (bS (H++l.keys)) (by rfl) (v.out.alloc _)
     ⟨w1.heap.size,0,zp⟩ 1 1 [zd zj x,zd zj j] (by rfl) (by rfl) (World.news_of_block (cs:=#[zd zj x,zd zj j]) (t:=289) (fr:=(0,0)) (heap_alloc_new w1 _)) (by simp[Value.oneCell'])
     (by omega) (by have:=HS.out;unfold maxLen;omega) (by have:=HS.out;omega) (by have:=G.out.size;have:=g.out;first|omega|(simp;omega)) (w1.heap.size+1) (by first|rfl|simp) ?_
    intro g2 cap2 m B D d X;have P:Hid (m.ownsRow base 289 2 (zf (zo ⟨g2,0,zp⟩) (n+l.keys.length+1) cap2) (n+l.keys.length+1) (bS (H++l.keys++ [(x,j)]))):=yw (by rw[Fn,YX];exact B);have N:Hid (OA (fun k=>(zf a n c).ownBlock=zo k) w m):=yw ((G.out.alloc (xI x j)).grown D fun k hk=>U.out k hk);have u:Hid (g2<m.heap.size/\((zf a n c).ownBlock=zo g2∨w.heap.size<=g2)):=yw ⟨X,by
     rcases d with h|h
     .exact U.out g2 h
     .have:=G.out.size;exact .inr (by omega)⟩
    have R:=(I.out m N.out).1;clear B D d X p o J M;obtain⟨p,o,T,J,M⟩:=R.c5;clear R T;rw[<-E.out]at J;rw[<-O.out]at M)
   | (
    refine step_append_lies _ (by rfl) _ _ _ (by rfl) base 289 i0 _ 2 16 underlying286 hi Q h8 h6 rfl (by omega) (zf a1 (n+l.keys.length) f) (n+l.keys.length) (bS (H++l.keys)) (by rfl) (v.out)
     ⟨w.heap.size,0,zp⟩ 1 1 [zd zj x,zd zj j] (by rfl) (by rfl) (World.news_of_block (cs:=#[zd zj x,zd zj j]) (t:=289) (fr:=(0,0)) (h0.out)) (by simp[Value.oneCell'])
     (by omega) (by have:=HS.out;unfold maxLen;omega) (by have:=HS.out;omega) (by have:=G.out.size;have:=g.out;first|omega|(simp;omega)) (w1.heap.size) (by first|rfl|simp) ?_
    intro g2 cap2 m B D d X;have P:Hid (m.ownsRow base 289 2 (zf (zo ⟨g2,0,zp⟩) (n+l.keys.length+1) cap2) (n+l.keys.length+1) (bS (H++l.keys++ [(x,j)]))):=yw (by rw[Fn,YX];exact B);have N:Hid (OA (fun k=>(zf a n c).ownBlock=zo k) w m):=yw (G.out.grown D fun k hk=>U.out k hk);have u:Hid (g2<m.heap.size/\((zf a n c).ownBlock=zo g2∨w.heap.size<=g2)):=yw ⟨X,by
     rcases d with h|h
     .exact U.out g2 h
     .have:=G.out.size;exact .inr (by omega)⟩
    have R:=(I.out m N.out).1;clear B D d X p o J M;obtain⟨p,o,T,J,M⟩:=R.c5;clear R T;rw[<-E.out]at J;rw[<-O.out]at M)
   | (
    go_at_call_of 223 (rp);rw[O.out];refine(hh.out (zo ⟨g2,0,zp⟩) (n+l.keys.length+1) cap2 (H++l.keys++ [(x,j)]) m (I.out m N.out).2.2 P.out (by have:=N.out.size;have:=g.out;omega) (by have:=HS.out;omega)).mono ?_;rintro e w3 ⟨a3,K,rfl,h4,h7,h9⟩;have hj:=yw h4;have he:Hid (OA (fun k=>(zf a n c).ownBlock=zo k) w w3):=yw (N.out.trans h7 fun k hk=>by simp[zX]at hk;rw[<-hk];exact u.out.2);have hl:Hid (∀k,(zf a3 (n+l.keys.length+1+r.keys.length) K).ownBlock=zo k->(zf a n c).ownBlock=zo k∨w.heap.size<=k):=yw (fun k hk=>by
     rcases h9 k hk with h|h
     .simp[zX]at h;rw[<-h];exact u.out.2
     .have:=N.out.size;exact .inr (by omega))
    have R:=(I.out w3 he.out).1;clear h4 h7 h9 p o J M;obtain⟨p,o,T,J,M⟩:=R.c5;clear R T;rw[<-E.out]at J;rw[<-O.out]at M;rw[<-O.out]))
 all_goals
  go_wp2;go_ret;have e:n+ks.length=n+l.keys.length+1+r.keys.length:=by rw[F.out];simp only[Tt.keys,List.length_append,List.length_cons];omega
  refine⟨a3,K,?_,?_,he.out,?_⟩
  .rw[e];rfl
  .rw[e,F.out];have e2:H++(Tt.node b x j L l r).keys=H++l.keys++ [(x,j)]++r.keys:=by simp[Tt.keys]
   rw[e2];exact hj.out
  .rw[e];exact hl.out
theorem DV(base:Nat)(t:Tt):∀(a:Option Addr) (n c:Nat) (A:List (Int×Int)) (w:zu),t.In w->(∀k∈t.bl,k<base)->w.ownsRow base 289 2 (zf a n c) n (bS A)->base<=w.heap.size->n+t.size<=100000->zw prog 223 #[ze t.pt,zf a n c] w (Fo (zf a n c) base n A t.keys w):=by
 induction t with
 | nil=>intro a n c A w _ _ H _ _;exact DU a base n c A w H
 | node b x j L l r ihl ihr=>
  intro a n c A w J hb H B hs;exact WN a b x j L l r base n c A w J hb H B hs
   (fun a n c A w G D I E=>ihl a n c A w G (fun k hk=>hb k (by simp[Tt.bl,hk])) D I E)
   (fun a n c A w G D I E=>ihr a n c A w G (fun k hk=>hb k (by simp[Tt.bl,hk])) D I E)
theorem WO(w:zu)(F:Nat->Prop)(t:Nat)(A:List (Int×Int))(h:Rb w F t A)(hs:A.length<=10000):
 zw prog 180 #[ze (zo ⟨t,0,zp⟩)] w fun e w'=>∃a c,e=zm (zf a A.length c)/\w'.ownsRow w.heap.size 289 2 (zf a A.length c) A.length (bS A)/\Below w.heap.size w w':=by
 obtain⟨⟨T,m,M,E,Z,R,G,b⟩,H,Y⟩:=h;obtain⟨U,X⟩:=M.c2;have I:=yw (DV w.heap.size T zp 0 0 [] w E E.lt (World.ownsRow_nil _ _ _ _) (yA _) (by rw[T.SL,G];omega));rw[G]at I;obtain⟨O,B⟩:=yB T.pt
 rw[<-B]at U I;clear M E Z R G b H Y X hs B;go_enter func180,ntmps180;go_wp2_with fail;refine I.out.mono ?_;rintro e w2 ⟨a,c,rfl,N,J,H⟩;have V:=yw N;have D:=yw J;clear N J H;go_wp2;go_ret;refine⟨a,c,?_,?_,⟨D.out.os,D.out.tape,D.out.output,D.out.size,fun k hk=>D.out.block k hk (by simp[zX])⟩⟩
 .rfl
 .have:=V.out;simpa using this
