/- Parts of the proof of the law TopKeeps: contracts of the functions that it reaches, and plain laws of what they compute. Conditions: those in each statement. -/
import Derived.Deep.AppendLies
import Derived.Deep.CutRange
import Derived.Lib.MinMax
import Derived.WalkLawsBesides
import Derived.Test.YtmgekibncmnmiaaGreatDoorM23
set_option linter.unusedVariables false
set_option maxRecDepth 100000
set_option maxHeartbeats 4000000
open Go.Proofs.Tryz
namespace Go.Proofs.YtmgekibncmnmiaaGreatDoor
open Go Go.RowKit Go.ChangeShapes Go.WideShapes
section
attribute [local go_sem ↓] Go.wp_at_zero Go.wp_at_succ
def zbs(T:Tt)(w:World)(e:Ending)(w':World):Prop:=e=.returned (.pointer (zL T).pt)/\(zL T).In w'/\zo8 (fun k=>k∈T.bl) w w'
theorem ze8(B:Int)(b:Nat)(v i L:Int)(l r:Tt)(T:Tt)(hT:T=.node b v i L l r)(w:World)(h:(Tt.node b v i L l r).In w)(hn:(Tt.node b v i L l r).bl.Nodup)(hB:B<=900000)(h4:(Tt.node b v i L l r).zrV B):
 Calls prog 258 #[.pointer (some ⟨b,0,none⟩)] w fun e w'=>zbs T w e w':=by
 have k6:=zc hT;clear hT;have hx:=zc h;have HN:=zc hn;have Hw:=zc h4;obtain⟨h1,h2,h3⟩:=h;obtain⟨c0,c1,c2,c3,c4⟩:=h1.c5;have H:=h1.lt;have fb:=h1.zpe;have hl:=(qF h4.2.2.1).2;have hr:=(qF h4.2.2.2).2;have hL:=h4.2.1;obtain⟨f,Hb⟩:=zh l.ht
 obtain⟨a,H4⟩:=zh r.ht
 obtain⟨lp,Hc⟩:=zh l.pt
 obtain⟨rp,F⟩:=zh r.pt
 have H7:=zc Hb;have s:=zc H4;have k7:=zc Hc;have hc:=zc F;have k3:Hid (∀W,zo8 (fun k=>k=b) w W->Calls prog 282 #[.pointer lp] W fun e w'=>e=.returned (.int .i64 f)/\w'=W):=zc (by rw[Hc,Hb];exact fun W hW=>uA l W (h2.zpW hW fun k x e=>(zu hn).1 (e▸x)));have hi:Hid (∀W,zo8 (fun k=>k=b) w W->Calls prog 282 #[.pointer rp] W fun e w'=>e=.returned (.int .i64 a)/\w'=W):=zc (by rw[F,H4];exact fun W hW=>uA r W (h3.zpW hW fun k x e=>(zu hn).2.1 (e▸x)));rw[<-Hc]at c3;rw[<-F]at c4;have k9:0<=f/\f<=900000:=by rw[Hb];exact⟨hl.1,by have:=hl.2 (by have:=h4.1;omega);omega⟩
 have k4:0<=a/\a<=900000:=by rw[H4];exact⟨hr.1,by have:=hr.2 (by have:=h4.1;omega);omega⟩
 have HW:Hid (∀n,zo8 (fun k=>k=b) w (w.drewN n)):=zc (fun n=>(zo8.refl _ w).drewN n);clear h1 h2 h3 hn Hb H4 Hc F hl hr h4;go_enter func258,ntmps258;go_wp2;go_quiet ((first | (go_at_call_of 282 (lp);exact Calls.quiet_of_same (k3.out _ (HW.out _))) | (go_at_call_of 282 (rp);exact Calls.quiet_of_same (hi.out _ (HW.out _)))));go_upto_if 21 with(fail)
 go_cut []from 21 to 39 (fun wc=>zlK b (.node b v i L l r) w wc)
 case first=>
  by_cases hm:min f a+1<L
  ·by_cases Hy:min f a+1<a
   ·have k5:Hid (∃c y k M p q,r=.node c y k M p q):=zc (by cases r with
     | nil=>rw[xj]at s;have:=s.out;omega
     | node c y k M p q=>exact⟨_,_,_,_,_,_,rfl⟩)
    obtain⟨c,y,k,M,p,q,hg⟩:=k5.out;have H2:=zc hg;have I:xK (.node b v i L l r)=.node b v i (min f a+1) l (r.zrs (min f a+1)):=zeo (by rw[<-H7.out,<-s.out]) hm (by rw[<-s.out];exact Hy);have P:=zc I;have k0:rp=some ⟨c,0,none⟩:=by rw[hc.out,hg];rfl
    have H8:Nx w c y k M p.pt q.pt:=by have:=hx.out.2.2;rw[hg]at this;exact this.1
    have zre:=H8.lt;obtain⟨e0,e1,e2,e3,e4⟩:=H8.c5;have fc:=H8.zpe;have hh:b≠c:=fun e=>(zu HN.out).2.1 (by rw[hg,e];simp[Tt.bl]);have Hl:c≠b:=fun e=>hh e.symm;clear hg I H8 e0 e1 e3 e4;rw[k0]at c4 hi;clear k0;go_wp2_with fail;refine(hi.out _ ((HW.out nq).setCell (.inl rfl) _)).mono ?_;rintro e w2 ⟨rfl,rfl⟩;go_wp2_with fail;go_meet
    case rel=>
     have hI:=hx.out;have hN:=zu HN.out;rw[H2.out]at hI hN;have g1:=hI.1.drewN nq;have g2:=hI.2.2.1.drewN nq;have k1:=(g1.zpm (min f a+1)).zpP (c:=c) (o:=2) (u:=.int .i64 (min f a+1)) hh;have k2:=(g2.zpP (c:=b) (o:=2) (u:=.int .i64 (min f a+1)) Hl).zpm (min f a+1);have hT:zo8 (fun z=>z=b∨z=c) w (((w.drewN nq).setCell ⟨b,2,none⟩ (.int .i64 (min f a+1))).setCell ⟨c,2,none⟩ (.int .i64 (min f a+1))):=(((zo8.refl _ w).drewN nq).setCell (.inl (.inl rfl)) _).setCell (.inl (.inr rfl)) _;have Hu:=zu hN.2.2.2.1;unfold zlK;rw[P.out,H2.out];refine⟨⟨k1,hI.2.1.zpW hT ?_,k2,hI.2.2.2.1.zpW hT ?_,hI.2.2.2.2.zpW hT ?_⟩,rfl,hT.mono ?_⟩
     ·intro z Q e;rcases e with rfl | rfl
      ·exact hN.1 Q
      ·exact hN.2.2.2.2 z Q (by simp[Tt.bl])
     ·intro z Q e;rcases e with rfl | rfl
      ·exact hN.2.1 (by simp[Tt.bl,Q])
      ·exact Hu.1 Q
     ·intro z Q e;rcases e with rfl | rfl
      ·exact hN.2.1 (by simp[Tt.bl,Q])
      ·exact Hu.2.1 Q
     ·intro z Q;rcases Q with rfl | rfl <;> simp[Tt.bl]
   ·have I:xK (.node b v i L l r)=.node b v i (min f a+1) l r:=zc0 (by rw[<-H7.out,<-s.out]) hm (by rw[<-s.out];omega);have P:=zc I;have k8:a<=min f a+1:=by omega
    clear I Hy;go_wp2_with fail;refine(hi.out _ ((HW.out nq).setCell (.inl rfl) _)).mono ?_;rintro e w2 ⟨rfl,rfl⟩;go_wp2_with fail;go_meet
    case rel=>
     have hI:=hx.out;have hN:=zu HN.out;have k1:=(hI.1.drewN nq).zpm (min f a+1);have hT:zo8 (fun z=>z=b) w ((w.drewN nq).setCell ⟨b,2,none⟩ (.int .i64 (min f a+1))):=((zo8.refl (fun z=>z=b) w).drewN nq).setCell (.inl rfl) _;unfold zlK;rw[P.out];exact⟨⟨k1,hI.2.1.zpW hT fun z Q e=>hN.1 (e▸Q),hI.2.2.zpW hT fun z Q e=>hN.2.1 (e▸Q)⟩,rfl,hT.mono fun z Q=>by rw[Q];simp[Tt.bl]⟩
  ·have I:xK (.node b v i L l r)=.node b v i L l r:=zjv (by unfold uW;rw[<-H7.out,<-s.out];exact hm);have P:=zc I;have k8:L<=min f a+1:=by omega
   clear I hm;go_wp2_with fail;go_meet
   case rel=>
    unfold zlK;rw[P.out];exact⟨hx.out.drewN nq,rfl,(zo8.refl _ w).drewN nq⟩
 case rest=>
  have S:=zc hcut;have Ha:Hid (B<=900000):=zc hB;clear hcut hB c0 c1 c2 c3 c4 H fb hx H7 s k7 hc k3 hi HW hL k9 k4;have C:=zc (zlJ Hw.out);have K:Hid ((xK (.node b v i L l r)).isNil=false):=zc (by simp only[xK];split <;> rfl);obtain⟨g,x1,j1,L1,l1,r1,Hp⟩:=ze6 (xK (.node b v i L l r)) K.out;have HF:=zc (zee _ Hp);have H6:=zc Hp;have t:Hid ((xK (.node b v i L l r)).bl.Nodup):=zc (by rw[ze2];exact HN.out);have hq:Hid ((xK (.node b v i L l r)).bl.Perm (Tt.node b v i L l r).bl):=zc (by rw[ze2]);rw[<-k6.out]at HF H6 t hq S C;clear Hp;obtain⟨T0,Ht⟩:=zh (xK T)
  unfold zlK at S;rw[<-Ht]at H6 t hq S C;clear Ht K HN Hw;rw[<-S.out.2.1];go_wp2_with fail;refine(zac T0 _ S.out.1 t.out (qF C.out).1).mono ?_;rintro e wa ⟨rfl,D,J⟩;have Z:=zbZ C.out;have Y:=((yt T0).nodup_iff).2 t.out;have X:=(yt T0).trans hq.out;rw[H6.out]at D Z Y X ⊢;have Hs:Hid (zo8 (fun k=>k∈T.bl) w wa):=zc (S.out.2.2.trans J fun k x=>.inl (hq.out.mem_iff.1 x));have hj:=zc D;have d:=zc Z;have h0:=zc Y;have Ho:=zc X;have E:=D.1;obtain⟨rp,F⟩:=zh r1.pt
  have hc:=zc F;rw[<-F]at E;obtain⟨_,_,_,_,h5⟩:=E.c5;have H:=E.lt;clear D J Z Y X E F H6 t hq S C;rw[show Value.pointer (Tt.node g x1 j1 L1 l1 r1).pt=.pointer (some ⟨g,0,none⟩)from rfl];go_wp2_with fail;rw[hc.out];refine(zac r1 _ hj.out.2.2 (zu h0.out).2.2.2.1 (qF d.out.2.2.2).1).mono ?_;rintro e wb ⟨rfl,D,J⟩;have HS:=zc (uB hj.out h0.out (yt r1) D J);have E:=hj.out.1.of (J.block g hj.out.1.lt (zu h0.out).2.1);have N:Hid ((Tt.node g x1 j1 L1 l1 (zC r1)).bl.Perm T.bl):=zc ((List.Perm.cons g ((yt r1).append_left l1.bl)).trans Ho.out)
  have A:Hid ((Tt.node g x1 j1 L1 l1 (zC r1)).zrV B):=zc ⟨d.out.1,d.out.2.1,d.out.2.2.1,zbZ d.out.2.2.2⟩;obtain⟨_,_,_,_,h5⟩:=E.c5;have H:=E.lt;have H9:=E.zpe;obtain⟨R,hR⟩:=zh (zC r1)
  rw[<-hR]at HS HF N A ⊢;have V:Hid (zo8 (fun k=>k∈T.bl) w (wb.setCell ⟨g,4,none⟩ (.pointer R.pt))):=zc (Hs.out.trans HS.out.2.2 fun k x=>.inl (Ho.out.mem_iff.1 x));clear D J E hR hj h0 Ho d Hs;cases R with
  | nil=>
   rw[show Value.pointer Tt.nil.pt=.pointer none from rfl]at HS V ⊢;rw[show((Tt.nil).zpA (zC (Tt.nil).right))=Tt.nil from rfl]at HF;go_wp2_with fail;obtain⟨W3,h8⟩:=zh (wb.setCell ⟨g,4,none⟩ (.pointer none))
   obtain⟨m,j⟩:=zh (Tt.node g x1 j1 L1 l1 .nil)
   have hv:some (⟨g,0,none⟩:Addr)=m.pt:=by rw[j];rfl
   have K:Hid (m.isNil=false):=zc (by rw[j];rfl);rw[<-h8,hv];rw[<-h8]at HS V;rw[<-j]at HS HF N A;clear h8 j hv h5 H H9 hc;have hy:=zc HS.out.1;have h6:=zc HS.out.2.1;refine(qS m _ hy.out h6.out (qF A.out).1 (ze7 A.out (by have:=Ha.out;omega))).mono ?_;rintro e we ⟨rfl,D,J⟩;obtain⟨b4,x4,j4,L4,l4,r4,h9⟩:=zaX m K.out;have Z:=zc4 A.out;have Y:=((yX m).nodup_iff).2 h6.out;have X:=(yX m).trans N.out;rw[h9]at D Z Y X ⊢;rw[h9,zt,qr]at HF;have ho:Hid (zo8 (fun k=>k∈T.bl) w we):=zc (V.out.trans J fun k x=>.inl (N.out.mem_iff.1 x))
   have U:=zc D;have O:=zc Z;have G:=zc Y;have H0:=zc X;have E:=D.1;obtain⟨rq,h7⟩:=zh r4.pt
   have Hk:=zc h7;rw[<-h7]at E;obtain⟨_,_,_,_,h5⟩:=E.c5;have H:=E.lt;clear D J Z Y X E h7 h9 hy h6 A N V K;rw[show Value.pointer (Tt.node b4 x4 j4 L4 l4 r4).pt=.pointer (some ⟨b4,0,none⟩)from rfl];go_wp2_with fail;rw[Hk.out];refine(qS r4 _ U.out.2.2 (zu G.out).2.2.2.1 (qF O.out.2.2.2).1 (ze7 O.out.2.2.2 (by have:=Ha.out;omega))).mono ?_;rintro e wf ⟨rfl,D,J⟩;have HS:=zc (uB U.out G.out (yX r4) D J);have E:=U.out.1.of (J.block b4 U.out.1.lt (zu G.out).2.1)
   have Hj:Hid (zo8 (fun k=>k∈T.bl) w (wf.setCell ⟨b4,4,none⟩ (.pointer (zH r4).pt))):=zc (ho.out.trans HS.out.2.2 fun k x=>.inl (H0.out.mem_iff.1 x));obtain⟨_,_,_,_,h5⟩:=E.c5;have H:=E.lt;have H9:=E.zpe;clear D J E U G H0 O ho;go_wp2;go_ret;unfold zbs;rw[HF.out];exact⟨rfl,HS.out.1,Hj.out⟩
  | node c y k M p q=>
   rw[show(Tt.node c y k M p q).zpA (zC (Tt.node c y k M p q).right)=.node c y k M p (zC q)from rfl]at HF;rw[show Value.pointer (Tt.node c y k M p q).pt=.pointer (some ⟨c,0,none⟩)from rfl]at HS V ⊢;obtain⟨wc,Hh⟩:=zh (wb.setCell ⟨g,4,none⟩ (.pointer (some ⟨c,0,none⟩)))
   rw[<-Hh]at HS V;have Hg:=zc Hh;obtain⟨qp,Hr⟩:=zh q.pt
   have Hd:=zc Hr;have g1:Nx wc g x1 j1 L1 l1.pt (some ⟨c,0,none⟩):=HS.out.1.1;have g2:Nx wc c y k M p.pt q.pt:=HS.out.1.2.2.1;rw[<-Hr]at g2;have G1:=zc g1;have G2:=zc g2;have hh:g≠c:=fun e=>(zu HS.out.2.1).2.1 (by rw[e];simp[Tt.bl]);have Hl:c≠g:=fun e=>hh e.symm;clear Hr Hh g1 g2;have zre:c<wb.heap.size:=by have:=G2.out.lt;rw[Hg.out]at this;simpa using this
   go_wp2_with fail;rw[<-Hg.out];have H:=G1.out.lt;have zre:=G2.out.lt;have Hn:=G1.out.zpe;have Hf:=G2.out.zpe;obtain⟨_,_,_,_,d4⟩:=G1.out.c5;obtain⟨_,_,_,_,e4⟩:=G2.out.c5;clear H9 Hg h5;go_region_with
    ((
     go_at_call 260;rw[Hd.out];refine(zac q wc.drew HS.out.1.2.2.2.2.drew (zu (zu HS.out.2.1).2.2.2.1).2.2.2.1 (qF A.out.2.2.2.2.2.2).1).mono ?_;rintro e wd ⟨rfl,D,J⟩;have Hv:=zc D;have Hz:=zc J;have H3:=zc (G1.out.of (J.block g H (fun e=>(zu HS.out.2.1).2.1 (by simp[Tt.bl,e]))));have H5:=zc (G2.out.of (J.block c zre (zu (zu HS.out.2.1).2.2.2.1).2.1));clear D J H zre Hn Hf d4 e4;have H:=H3.out.lt;have zre:=H5.out.lt;have Hn:=H3.out.zpe;have Hf:=H5.out.zpe;obtain⟨_,_,_,_,d4⟩:=H3.out.c5;obtain⟨_,_,_,_,e4⟩:=H5.out.c5;rw[<-Hd.out]))
   all_goals
    have Hq:=zc (uB HS.out.1.2.2.drew (zu HS.out.2.1).2.2.2.1 (yt q) Hv.out Hz.out);have hf:=zc (zhY (r':=.node c y k M p (zC q)) HS.out.1.drew HS.out.2.1 (List.Perm.cons c ((yt q).append_left p.bl)) Hq.out.1 rfl Hq.out.2.2);have Hi:Hid ((Tt.node g x1 j1 L1 l1 (.node c y k M p (zC q))).bl.Perm T.bl):=zc ((List.Perm.cons g ((List.Perm.cons c ((yt q).append_left p.bl)).append_left l1.bl)).trans N.out);have ha:Hid ((Tt.node g x1 j1 L1 l1 (.node c y k M p (zC q))).zrV B):=zc ⟨A.out.1,A.out.2.1,A.out.2.2.1,A.out.2.2.2.1,A.out.2.2.2.2.1,A.out.2.2.2.2.2.1,zbZ A.out.2.2.2.2.2.2⟩
    have He:Hid (zo8 (fun k=>k∈T.bl) w (wd.setCell ⟨c,4,none⟩ (.pointer (zC q).pt))):=zc ((V.out.drew).trans hf.out.2.2 fun k x=>.inl (N.out.mem_iff.1 x));clear HS V N A G1 G2 Hv Hz Hq H3 H5 H zre Hn Hf d4 e4 hh Hl;go_wp2_with fail;obtain⟨W3,h8⟩:=zh (wd.setCell ⟨c,4,none⟩ (.pointer (zC q).pt))
    obtain⟨m,j⟩:=zh (Tt.node g x1 j1 L1 l1 (.node c y k M p (zC q)))
    have hv:some (⟨g,0,none⟩:Addr)=m.pt:=by rw[j];rfl
    have K:Hid (m.isNil=false):=zc (by rw[j];rfl);rw[<-h8,hv];rw[<-h8]at hf He;rw[<-j]at hf HF Hi ha;clear h8 j hv hc Hd;have hy:=zc hf.out.1;have h6:=zc hf.out.2.1;have V:=He;have N:=Hi;have A:=ha;clear He Hi ha hf;refine(qS m _ hy.out h6.out (qF A.out).1 (ze7 A.out (by have:=Ha.out;omega))).mono ?_;rintro e we ⟨rfl,D,J⟩;obtain⟨b4,x4,j4,L4,l4,r4,h9⟩:=zaX m K.out;have Z:=zc4 A.out;have Y:=((yX m).nodup_iff).2 h6.out;have X:=(yX m).trans N.out;rw[h9]at D Z Y X ⊢;rw[h9,zt,qr]at HF
    have ho:Hid (zo8 (fun k=>k∈T.bl) w we):=zc (V.out.trans J fun k x=>.inl (N.out.mem_iff.1 x));have U:=zc D;have O:=zc Z;have G:=zc Y;have H0:=zc X;have E:=D.1;obtain⟨rq,h7⟩:=zh r4.pt
    have Hk:=zc h7;rw[<-h7]at E;obtain⟨_,_,_,_,h5⟩:=E.c5;have H:=E.lt;clear D J Z Y X E h7 h9 hy h6 A N V K;rw[show Value.pointer (Tt.node b4 x4 j4 L4 l4 r4).pt=.pointer (some ⟨b4,0,none⟩)from rfl];go_wp2_with fail;rw[Hk.out];refine(qS r4 _ U.out.2.2 (zu G.out).2.2.2.1 (qF O.out.2.2.2).1 (ze7 O.out.2.2.2 (by have:=Ha.out;omega))).mono ?_;rintro e wf ⟨rfl,D,J⟩;have HS:=zc (uB U.out G.out (yX r4) D J);have E:=U.out.1.of (J.block b4 U.out.1.lt (zu G.out).2.1)
    have Hj:Hid (zo8 (fun k=>k∈T.bl) w (wf.setCell ⟨b4,4,none⟩ (.pointer (zH r4).pt))):=zc (ho.out.trans HS.out.2.2 fun k x=>.inl (H0.out.mem_iff.1 x));obtain⟨_,_,_,_,h5⟩:=E.c5;have H:=E.lt;have H9:=E.zpe;clear D J E U G H0 O ho;go_wp2;go_ret;unfold zbs;rw[HF.out];exact⟨rfl,HS.out.1,Hj.out⟩
theorem zcl(a:Nat):∀(t:Tt) (k:Int×Int),(zQ k t).bl.count a<=t.bl.count a:=by
 intro t
 induction t with
 | nil=>intro k;exact zg _
 | node b v i L l r ihl ihr=>
  intro k;have A:∀(v i:Int) (B r':Tt),B.bl.count a<=l.bl.count a->r'.bl.count a<=r.bl.count a->(zL (.node b v i L B r')).bl.count a<=(Tt.node b v i L l r).bl.count a:=by intro v i B r' h1 h2;rw[(zf2 _).count_eq a];simp only[Tt.bl,List.count_cons,List.count_append];omega
  simp only[zQ];split
  ·exact A _ _ _ _ (ihl k) (zg _)
  ·split
   ·exact A _ _ _ _ (zg _) (ihr k)
   ·split
    ·exact A _ _ _ _ (ihl _) (zg _)
    ·split
     ·exact A _ _ _ _ (zg _) (ihr _)
     ·simp[Tt.bl]
theorem qc{t:Tt}{k:Int×Int}{a:Nat}(h:a∈(zQ k t).bl):a∈t.bl:=by have h1:=List.count_pos_iff.2 h;have h2:=zcl a t k;exact List.count_pos_iff.1 (by omega)
theorem zag{t:Tt}{k:Int×Int}(h:t.bl.Nodup):(zQ k t).bl.Nodup:=by rw[List.nodup_iff_count]at h ⊢;intro a;exact Nat.le_trans (zcl a t k) (h a)
def vY(k:Int×Int)(t:Tt)(w:World)(e:Ending)(w':World):Prop:=e=.returned (.tuple #[.pointer (zQ k t).pt,.bool true])/\(zQ k t).In w'/\zo8 (fun a=>a∈t.bl) w w'
structure uX(w w6:World)(b:Nat)(t T1:Tt):Prop where
 inn:T1.In w6
 nd:T1.bl.Nodup
 lev:∃B,B<=900000/\T1.zrV B
 sub:∀k∈T1.bl,k∈t.bl
 zpW:zo8 (fun k=>k∈t.bl) w w6
 node:∃x j L l r,T1=.node b x j L l r
theorem uX.close{w D B:World}{b:Nat}{t A:Tt}{k:Int×Int}(h:uX w D b t A)(he:zQ k t=zL A){e:Ending}(H:zbs A D e B):e=.returned (.pointer (zQ k t).pt)/\(zQ k t).In B/\zo8 (fun a=>a∈t.bl) w B:=by obtain⟨G,E,I⟩:=H;rw[he];exact⟨G,E,h.zpW.trans I fun x J=>.inl (h.sub x J)⟩
theorem uX.settled{w A:World}{b:Nat}{t D:Tt}(h:uX w A b t D):Calls prog 258 #[.pointer (some ⟨b,0,none⟩)] A (zbs D A):=by obtain⟨x,j,L,l,r,H⟩:=h.node;obtain⟨B,J,E⟩:=h.lev;have I:=h.inn;have G:=h.nd;rw[H]at I G E;exact ze8 B b x j L l r D H A I G J E
theorem ze9{t:Tt}{M:Int}(h:t.AA)(A:t.ht<=M):t.zrV M:=h.lev.mono A
theorem uX.left{w D B:World}{b:Nat}{x j x' E L:Int}{l r:Tt}(k:Int×Int)(X:(Tt.node b x j L l r).bl.Nodup)(G:(Tt.node b x j L l r).AA)(hs:L<=100000)
 (R:zo8 (fun z=>z=b) w D) (U:(zQ k l).In B) (T:zo8 (fun k=>k∈l.bl) D B) (f:Nx B b x' E L l.pt r.pt) (d:r.In B):
 uX w (B.setCell ⟨b,3,none⟩ (.pointer (zQ k l).pt)) b (.node b x j L l r) (.node b x' E L (zQ k l) r):=by
 obtain⟨Y,I,M,N,J⟩:=zu X;have H:=zc1 l k G.1;obtain⟨a1,a2,a3,a4,a5⟩:=G;have hb:b∉(zQ k l).bl:=fun V=>Y (qc V);refine⟨zep f U d hb I,?_,⟨L,by omega,a3,Int.le_refl _,ze9 H.1 (by have:=H.2.1;omega),ze9 a2 (by omega)⟩,?_,?_,⟨_,_,_,_,_,rfl⟩⟩
 ·simp only[Tt.bl];refine List.nodup_cons.2 ⟨by simp[hb,I],List.nodup_append.2 ⟨zag M,N,fun a Z c g e=>J a (qc Z) (e▸g)⟩⟩
 ·intro z A;simp only[Tt.bl,List.mem_cons,List.mem_append]at A ⊢;rcases A with rfl | A | A
  ·exact .inl rfl
  ·exact .inr (.inl (qc A))
  ·exact .inr (.inr A)
 ·exact((R.mono fun z A=>by rw[A];simp[Tt.bl]).trans T fun k O=>.inl (by simp[Tt.bl,O])).setCell (.inl (by simp[Tt.bl])) _
theorem uX.right{w D B:World}{b:Nat}{x j x' E L:Int}{l r:Tt}(k:Int×Int)(Y:(Tt.node b x j L l r).bl.Nodup)(G:(Tt.node b x j L l r).AA)(hs:L<=100000)
 (R:zo8 (fun z=>z=b) w D) (V:(zQ k r).In B) (T:zo8 (fun k=>k∈r.bl) D B) (f:Nx B b x' E L l.pt r.pt) (U:l.In B):
 uX w (B.setCell ⟨b,4,none⟩ (.pointer (zQ k r).pt)) b (.node b x j L l r) (.node b x' E L l (zQ k r)):=by
 obtain⟨H,g,M,N,J⟩:=zu Y;have I:=zc1 r k G.2.1;obtain⟨Z,a2,a3,a4,a5⟩:=G;have hb:b∉(zQ k r).bl:=fun X=>g (qc X);refine⟨zbX f U V H hb,?_,⟨L,by omega,a3,Int.le_refl _,ze9 Z (by omega),ze9 I.1 (by have:=I.2.1;omega)⟩,?_,?_,⟨_,_,_,_,_,rfl⟩⟩
 ·simp only[Tt.bl];refine List.nodup_cons.2 ⟨by simp[hb,H],List.nodup_append.2 ⟨M,zag N,fun a d c h e=>J a d (qc (e▸h))⟩⟩
 ·intro z A;simp only[Tt.bl,List.mem_cons,List.mem_append]at A ⊢;rcases A with rfl | A | A
  ·exact .inl rfl
  ·exact .inr (.inl A)
  ·exact .inr (.inr (qc A))
 ·exact((R.mono fun z A=>by rw[A];simp[Tt.bl]).trans T fun k O=>.inl (by simp[Tt.bl,O])).setCell (.inl (by simp[Tt.bl])) _
theorem Nx.zsU{w:World}{b:Nat}{v i L:Int}{l r:Option Addr}(h:Nx w b v i L l r)(x j:Int):Nx ((w.setCell ⟨b,0,none⟩ (.int .i64 x)).setCell ⟨b,1,none⟩ (.int .i64 j)) b x j L l r:=by have A:(w.setCell ⟨b,0,none⟩ (.int .i64 x)).heap[b]?=_:=zi h;exact zi A
theorem zfa(v i:Int)(b:Nat)(x j L:Int)(l r:Tt)(w:World)(h:(Tt.node b x j L l r).In w)(hn:(Tt.node b x j L l r).bl.Nodup)(hA:(Tt.node b x j L l r).AA)(hs:L<=100000)(f:xY (v,i) (x,j)= -1)
 (ih:∀w,l.In w->Calls prog 236 #[.pointer l.pt,.agg #[.int .i64 (v,i).1,.int .i64 (v,i).2]] w (vY (v,i) l w)):
 Calls prog 236 #[.pointer (some ⟨b,0,none⟩),.agg #[.int .i64 v,.int .i64 i]] w (vY (v,i) (.node b x j L l r) w):=by
 have p:Hid (zQ (v,i) (.node b x j L l r)=zL (.node b x j L (zQ (v,i) l) r)):=zc (by simp only[zQ,f];rfl);obtain⟨u,h2,h3⟩:=h;obtain⟨c0,V,c2,c3,c4⟩:=u.c5;have A:=u.lt;have HB:=zc u;have HL:=zc h2;have HR:=zc h3;have W:=zc hn;have HA:=zc hA;have HI:=zc ih;have HK:=zc f;have HS:=zc hs;obtain⟨lp,d⟩:=zh l.pt
 obtain⟨rp,Z⟩:=zh r.pt
 have I:=zc d;have n:=zc Z;rw[<-d]at c3;rw[<-Z]at c4;clear u h2 h3 hn hA ih f d Z hs;go_enter func236,ntmps236;go_wp2;obtain⟨N,H⟩:=zh ((w.alloc (yg v i)).drew)
 have Y:Below w.heap.size w N:=by rw[H];exact zv (zk w _)
 have X:=zc (HB.out.behind Y);have S:Kx N w.heap.size v i:=by rw[H];exact Kx.new w v i
 obtain⟨m,hm⟩:=zh w.heap.size
 rw[<-hm]at S ⊢;have HM:=zc hm;have a:=zc S;have R:=zc Y;clear hm Y c0 V c2 c3 c4 S A;obtain⟨c0,V,c2,c3,c4⟩:=X.out.c5;obtain⟨t,s⟩:=a.out.c2;have A:=X.out.lt;have B:=a.out.lt;refine zI 5 (by kernel_rfl) (by kernel_rfl) N H ?_;clear H;simp only[List.take_succ_cons,List.take_zero,List.drop_succ_cons,List.drop_zero]
 repeat still_step
 refine wpStill_nil ?_;go_wp2_with fail;refine(yM _ _ _ _ _).mono ?_;rintro e w3 ⟨rfl,rfl⟩;rw[HK.out];obtain⟨g,T⟩:=zh ((N.alloc (yg v i)).alloc (yg x j))
 have M:Below N.heap.size N g:=by rw[T];exact(zk N _).alloc (by simp) _
 rw[<-T];have J:=zc (X.out.behind M);have c:=zc (a.out.behind M);have G:=zc (zj R.out M R.out.size);clear T M c0 V c2 c3 c4 t s A B;obtain⟨c0,V,c2,c3,c4⟩:=J.out.c5;have fb:=J.out.zpe;obtain⟨t,s⟩:=c.out.c2;have A:=J.out.lt;have B:=c.out.lt;have C:=zc (HL.out.behind G.out);have y:=zc (HR.out.behind G.out);have h5:Hid (zo8 (fun z=>z=b) w g):=zc (zo8.zo7 G.out);rw[<-I.out]at c3;rw[<-n.out]at c4;go_wp2_with fail;go_region_with
  ((
   go_at_call 236;rw[I.out];refine(HI.out g.drew C.out.drew).mono ?_;rintro e w7 ⟨rfl,O,E⟩;have h4:=zc O;have Q:=zc E;have D:=J.out.of (E.block b A (zu W.out).1);have U:=c.out.of (E.block m B (fun hm=>Nat.lt_irrefl m (by have:=HL.out.lt m hm;rw[<-HM.out]at this;exact this)));have F:=zc (y.out.of (w':=w7) fun k f hl=>E.block k hl (fun K=>(zu W.out).2.2.2.2 k K f));clear O E c0 V c2 c3 c4 fb A t s B;have h0:=zc D;rw[<-I.out,<-n.out]at D;obtain⟨c0,V,c2,c3,c4⟩:=D.c5;have fb:=D.zpe;have A:=D.lt;obtain⟨t,s⟩:=U.c2;have B:=U.lt;clear U;clear D;rw[<-I.out]))
 all_goals
  have q:=zc (uX.left (v,i) W.out HA.out HS.out h5.out.drew h4.out Q.out h0.out F.out);clear c0 V c2 c3 c4 fb A t s B;go_wp2_with fail;refine q.out.settled.mono ?_;rintro e w8 hS;obtain⟨rfl,h8,o⟩:=q.out.close p.out hS;have H8:=zc h8;have P:=zc o;clear h8 o hS;go_wp2;go_ret2;exact⟨rfl,H8.out,P.out⟩
theorem zef(v i:Int)(b:Nat)(x j L:Int)(l r:Tt)(w:World)(h:(Tt.node b x j L l r).In w)(hn:(Tt.node b x j L l r).bl.Nodup)(hA:(Tt.node b x j L l r).AA)(hs:L<=100000)(f:xY (v,i) (x,j)=1)
 (ih:∀w,r.In w->Calls prog 236 #[.pointer r.pt,.agg #[.int .i64 (v,i).1,.int .i64 (v,i).2]] w (vY (v,i) r w)):
 Calls prog 236 #[.pointer (some ⟨b,0,none⟩),.agg #[.int .i64 v,.int .i64 i]] w (vY (v,i) (.node b x j L l r) w):=by
 have p:Hid (zQ (v,i) (.node b x j L l r)=zL (.node b x j L l (zQ (v,i) r))):=zc (by simp only[zQ,f];rfl);obtain⟨u,h2,h3⟩:=h;obtain⟨c0,V,c2,c3,c4⟩:=u.c5;have A:=u.lt;have HB:=zc u;have HL:=zc h2;have HR:=zc h3;have W:=zc hn;have HA:=zc hA;have HI:=zc ih;have HK:=zc f;have HS:=zc hs;obtain⟨lp,d⟩:=zh l.pt
 obtain⟨rp,Z⟩:=zh r.pt
 have n:=zc d;have I:=zc Z;rw[<-d]at c3;rw[<-Z]at c4;clear u h2 h3 hn hA ih f d Z hs;go_enter func236,ntmps236;go_wp2;obtain⟨N,H⟩:=zh ((w.alloc (yg v i)).drew)
 have Y:Below w.heap.size w N:=by rw[H];exact zv (zk w _)
 have X:=zc (HB.out.behind Y);have S:Kx N w.heap.size v i:=by rw[H];exact Kx.new w v i
 obtain⟨m,hm⟩:=zh w.heap.size
 rw[<-hm]at S ⊢;have HM:=zc hm;have a:=zc S;have R:=zc Y;clear hm Y c0 V c2 c3 c4 S A;obtain⟨c0,V,c2,c3,c4⟩:=X.out.c5;obtain⟨t,s⟩:=a.out.c2;have A:=X.out.lt;have B:=a.out.lt;refine zI 5 (by kernel_rfl) (by kernel_rfl) N H ?_;clear H;simp only[List.take_succ_cons,List.take_zero,List.drop_succ_cons,List.drop_zero]
 repeat still_step
 refine wpStill_nil ?_;go_wp2_with fail;refine(yM _ _ _ _ _).mono ?_;rintro e w3 ⟨rfl,rfl⟩;rw[HK.out];obtain⟨g,T⟩:=zh ((N.alloc (yg v i)).alloc (yg x j))
 have M:Below N.heap.size N g:=by rw[T];exact(zk N _).alloc (by simp) _
 rw[<-T];have J:=zc (X.out.behind M);have c:=zc (a.out.behind M);have G:=zc (zj R.out M R.out.size);clear T M c0 V c2 c3 c4 t s A B;obtain⟨c0,V,c2,c3,c4⟩:=J.out.c5;have fb:=J.out.zpe;obtain⟨t,s⟩:=c.out.c2;have A:=J.out.lt;have B:=c.out.lt;have C:=zc (HL.out.behind G.out);have y:=zc (HR.out.behind G.out);have h5:Hid (zo8 (fun z=>z=b) w g):=zc (zo8.zo7 G.out);rw[<-n.out]at c3;rw[<-I.out]at c4;go_wp2_with fail;go_region_with
  ((
   go_at_call 236;rw[I.out];refine(HI.out g.drew y.out.drew).mono ?_;rintro e w7 ⟨rfl,O,E⟩;have h4:=zc O;have Q:=zc E;have D:=J.out.of (E.block b A (zu W.out).2.1);have U:=c.out.of (E.block m B (fun hm=>Nat.lt_irrefl m (by have:=HR.out.lt m hm;rw[<-HM.out]at this;exact this)));have F:=zc (C.out.of (w':=w7) fun k f hl=>E.block k hl (fun K=>(zu W.out).2.2.2.2 k f K));clear O E c0 V c2 c3 c4 fb A t s B;have h0:=zc D;rw[<-n.out,<-I.out]at D;obtain⟨c0,V,c2,c3,c4⟩:=D.c5;have fb:=D.zpe;have A:=D.lt;obtain⟨t,s⟩:=U.c2;have B:=U.lt;clear U;clear D;rw[<-I.out]))
 all_goals
  have q:=zc (uX.right (v,i) W.out HA.out HS.out h5.out.drew h4.out Q.out h0.out F.out);clear c0 V c2 c3 c4 fb A t s B;go_wp2_with fail;refine q.out.settled.mono ?_;rintro e w8 hS;obtain⟨rfl,h8,o⟩:=q.out.close p.out hS;have H8:=zc h8;have P:=zc o;clear h8 o hS;go_wp2;go_ret2;exact⟨rfl,H8.out,P.out⟩
theorem zbt(v i:Int)(b:Nat)(x j L:Int)(l r:Tt)(w:World)(h:(Tt.node b x j L l r).In w)(hn:(Tt.node b x j L l r).bl.Nodup)(hA:(Tt.node b x j L l r).AA)(hs:L<=100000)(hk:xY (v,i) (x,j)=0)(h0:l.isNil=false)
 (ih:∀w,l.In w->Calls prog 236 #[.pointer l.pt,.agg #[.int .i64 (xh l).1,.int .i64 (xh l).2]] w (vY (xh l) l w)):
 Calls prog 236 #[.pointer (some ⟨b,0,none⟩),.agg #[.int .i64 v,.int .i64 i]] w (vY (v,i) (.node b x j L l r) w):=by
 have X:Hid (zQ (v,i) (.node b x j L l r)=zL (.node b (xh l).1 (xh l).2 L (zQ (xh l) l) r)):=zc (by simp only[zQ,hk,h0];rfl);have hq:Hid (∃c y k2 M p q,l=.node c y k2 M p q):=zc (by cases l with
  | nil=>cases h0
  | node c y k2 M p q=>exact⟨_,_,_,_,_,_,rfl⟩)
 obtain⟨h1,h2,h3⟩:=h;obtain⟨c0,N,c2,c3,c4⟩:=h1.c5;have A:=h1.lt;have HB:=zc h1;have HL:=zc h2;have HR:=zc h3;have HN:=zc hn;have HA:=zc hA;have HI:=zc ih;have HK:=zc hk;have HS:=zc hs;obtain⟨lp,P⟩:=zh l.pt
 obtain⟨rp,t⟩:=zh r.pt
 have B:=zc P;have u:=zc t;rw[<-P]at c3;rw[<-t]at c4;clear h1 h2 h3 hn hA ih hk P t hs h0;go_enter func236,ntmps236;go_wp2;obtain⟨V,H⟩:=zh ((w.alloc (yg v i)).drew)
 have o:Below w.heap.size w V:=by rw[H];exact zv (zk w _)
 have n:=zc (HB.out.behind o);have K2:Kx V w.heap.size v i:=by rw[H];exact Kx.new w v i
 obtain⟨m,hm⟩:=zh w.heap.size
 rw[<-hm]at K2 ⊢;have HM:=zc hm;have C:=zc K2;have Z:=zc o;clear hm o c0 N c2 c3 c4 K2 A;obtain⟨c0,N,c2,c3,c4⟩:=n.out.c5;obtain⟨k0,k1⟩:=C.out.c2;have A:=n.out.lt;have g:=C.out.lt;refine zI 5 (by kernel_rfl) (by kernel_rfl) V H ?_;clear H;simp only[List.take_succ_cons,List.take_zero,List.drop_succ_cons,List.drop_zero]
 repeat still_step
 refine wpStill_nil ?_;go_wp2_with fail;refine(yM _ _ _ _ _).mono ?_;rintro e w3 ⟨rfl,rfl⟩;rw[HK.out];obtain⟨s,a⟩:=zh ((V.alloc (yg v i)).alloc (yg x j))
 have U:Below V.heap.size V s:=by rw[a];exact(zk V _).alloc (by simp) _
 rw[<-a];have T:=zc (n.out.behind U);have h9:=zc (C.out.behind U);have E:=zc (zj Z.out U Z.out.size);clear a U c0 N c2 c3 c4 k0 k1 A g;obtain⟨c0,N,c2,c3,c4⟩:=T.out.c5;have fb:=T.out.zpe;obtain⟨k0,k1⟩:=h9.out.c2;have A:=T.out.lt;have g:=h9.out.lt;have S:=zc (HL.out.behind E.out);have hc:=zc (HR.out.behind E.out);have hx:Hid (zo8 (fun z=>z=b) w s):=zc (zo8.zo7 E.out);rw[<-B.out]at c3;rw[<-u.out]at c4;obtain⟨nc,ny,nk,nM,np,H2,K⟩:=hq.out;have F:lp=some ⟨nc,0,none⟩:=by rw[B.out,K];rfl
 rw[F]at c3;have hr:=zc K;clear K;have h4:=zc F;clear F;go_wp2_with fail;rw[<-h4.out,B.out];refine(zlG l _ S.out (by rw[hr.out];rfl)).mono ?_;rintro e w5 ⟨d,dL,dl,dr,rfl,hD,hw⟩;obtain rfl:=hw.symm;obtain⟨R,f⟩:=zh ((xh l))
 rw[<-f]at hD X HI;have H0:=zc f;clear f;obtain⟨d0,d1,_,_,_⟩:=hD.c5;have hj:=hD.lt;clear hD;go_wp2_with fail;obtain⟨W,G⟩:=zh ((s.setCell ⟨b,0,none⟩ (.int .i64 R.1)).setCell ⟨b,1,none⟩ (.int .i64 R.2))
 have O:zo8 (fun z=>z=b) s W:=by rw[G];exact(((zo8.refl (fun z=>z=b) s).setCell (.inl rfl) _).setCell (.inl rfl) _)
 have h5:Nx W b R.1 R.2 L l.pt r.pt:=by rw[G];exact T.out.zsU R.1 R.2
 have J:=zc h5;have hy:=zc (hx.out.trans O fun z Q=>.inl Q);have hh:=zc (S.out.zpW O fun z Q e=>(zu HN.out).1 (e▸Q));have ha:=zc (hc.out.zpW O fun z Q e=>(zu HN.out).2.1 (e▸Q));rw[<-G];clear G O h5 c0 N c2 c3 c4 fb k0 k1 A g d0 d1 hj;obtain⟨c0,N,c2,c3,c4⟩:=J.out.c5;have fb:=J.out.zpe;have A:=J.out.lt;rw[<-B.out]at c3;rw[<-u.out]at c4;go_region_with
  ((
   go_at_call 236;rw[B.out];refine(HI.out W.drew hh.out.drew).mono ?_;rintro e w7 ⟨rfl,Y,I⟩;have hv:=zc Y;have ho:=zc I;have D:=J.out.of (I.block b A (zu HN.out).1);have hf:=zc (ha.out.of (w':=w7) fun k hk hl=>I.block k hl (fun hg=>(zu HN.out).2.2.2.2 k hg hk));clear Y I c0 N c2 c3 c4 fb A;have ht:=zc D;rw[<-B.out,<-u.out]at D;obtain⟨c0,N,c2,c3,c4⟩:=D.c5;have fb:=D.zpe;have A:=D.lt;clear D;rw[<-B.out]))
 all_goals
  have h7:=zc (uX.left R HN.out HA.out HS.out hy.out.drew hv.out ho.out ht.out hf.out);clear c0 N c2 c3 c4 fb A;go_wp2_with fail;refine h7.out.settled.mono ?_;rintro e w8 hS;obtain⟨rfl,h8,h6⟩:=h7.out.close X.out hS;have H8:=zc h8;have hi:=zc h6;clear h8 h6 hS;go_wp2;go_ret2;exact⟨rfl,H8.out,hi.out⟩
theorem za4(v i:Int)(b:Nat)(x j L:Int)(l r:Tt)(w:World)(h:(Tt.node b x j L l r).In w)(hn:(Tt.node b x j L l r).bl.Nodup)(hA:(Tt.node b x j L l r).AA)(hs:L<=100000)(hk:xY (v,i) (x,j)=0)(h0:r.isNil=false)(o:l=.nil)
 (ih:∀w,r.In w->Calls prog 236 #[.pointer r.pt,.agg #[.int .i64 (yk r).1,.int .i64 (yk r).2]] w (vY (yk r) r w)):
 Calls prog 236 #[.pointer (some ⟨b,0,none⟩),.agg #[.int .i64 v,.int .i64 i]] w (vY (v,i) (.node b x j L l r) w):=by
 have Y:Hid (zQ (v,i) (.node b x j L l r)=zL (.node b (yk r).1 (yk r).2 L l (zQ (yk r) r))):=zc (by subst o;simp only[zQ,hk,h0];rfl);have ht:Hid (∃c y k2 M p q,r=.node c y k2 M p q):=zc (by cases r with
  | nil=>cases h0
  | node c y k2 M p q=>exact⟨_,_,_,_,_,_,rfl⟩)
 have hf:=zc o;obtain⟨h1,h2,h3⟩:=h;obtain⟨c0,N,c2,c3,c4⟩:=h1.c5;have A:=h1.lt;have HB:=zc h1;have HL:=zc h2;have HR:=zc h3;have HN:=zc hn;have HA:=zc hA;have HI:=zc ih;have HK:=zc hk;have HS:=zc hs;obtain⟨lp,S⟩:=zh l.pt
 obtain⟨rp,F⟩:=zh r.pt
 have R:=zc S;have B:=zc F;rw[<-S]at c3;rw[<-F]at c4;clear h1 h2 h3 hn hA ih hk S F hs h0 o;go_enter func236,ntmps236;go_wp2;obtain⟨X,H⟩:=zh ((w.alloc (yg v i)).drew)
 have u:Below w.heap.size w X:=by rw[H];exact zv (zk w _)
 have t:=zc (HB.out.behind u);have K2:Kx X w.heap.size v i:=by rw[H];exact Kx.new w v i
 obtain⟨m,hm⟩:=zh w.heap.size
 rw[<-hm]at K2 ⊢;have HM:=zc hm;have K:=zc K2;have f:=zc u;clear hm u c0 N c2 c3 c4 K2 A;obtain⟨c0,N,c2,c3,c4⟩:=t.out.c5;obtain⟨k0,k1⟩:=K.out.c2;have A:=t.out.lt;have s:=K.out.lt;refine zI 5 (by kernel_rfl) (by kernel_rfl) X H ?_;clear H;simp only[List.take_succ_cons,List.take_zero,List.drop_succ_cons,List.drop_zero]
 repeat still_step
 refine wpStill_nil ?_;go_wp2_with fail;refine(yM _ _ _ _ _).mono ?_;rintro e w3 ⟨rfl,rfl⟩;rw[HK.out];obtain⟨C,g⟩:=zh ((X.alloc (yg v i)).alloc (yg x j))
 have V:Below X.heap.size X C:=by rw[g];exact(zk X _).alloc (by simp) _
 rw[<-g];have U:=zc (t.out.behind V);have ha:=zc (K.out.behind V);have E:=zc (zj f.out V f.out.size);clear g V c0 N c2 c3 c4 k0 k1 A s;obtain⟨c0,N,c2,c3,c4⟩:=U.out.c5;have fb:=U.out.zpe;obtain⟨k0,k1⟩:=ha.out.c2;have A:=U.out.lt;have s:=ha.out.lt;have hg:=zc (HL.out.behind E.out);have h5:=zc (HR.out.behind E.out);have H0:Hid (zo8 (fun z=>z=b) w C):=zc (zo8.zo7 E.out);rw[<-R.out]at c3;rw[<-B.out]at c4;have W:=hf.out;have Z:lp=none:=by rw[R.out,W];rfl
 rw[Z]at c3;clear W Z;obtain⟨nc,ny,nk,nM,np,H4,Q⟩:=ht.out;have P:rp=some ⟨nc,0,none⟩:=by rw[B.out,Q];rfl
 rw[P]at c4;have hv:=zc Q;clear Q;have h4:=zc P;clear P;go_wp2_with fail;rw[<-h4.out,B.out];refine(zeq r _ h5.out (by rw[hv.out];rfl)).mono ?_;rintro e w5 ⟨d,dL,dl,dr,rfl,hD,hw⟩;obtain rfl:=hw.symm;obtain⟨T,n⟩:=zh ((yk r))
 rw[<-n]at hD Y HI;have H3:=zc n;clear n;obtain⟨d0,d1,_,_,_⟩:=hD.c5;have hq:=hD.lt;clear hD;go_wp2_with fail;obtain⟨w6,G⟩:=zh ((C.setCell ⟨b,0,none⟩ (.int .i64 T.1)).setCell ⟨b,1,none⟩ (.int .i64 T.2))
 have O:zo8 (fun z=>z=b) C w6:=by rw[G];exact(((zo8.refl (fun z=>z=b) C).setCell (.inl rfl) _).setCell (.inl rfl) _)
 have h6:Nx w6 b T.1 T.2 L l.pt r.pt:=by rw[G];exact U.out.zsU T.1 T.2
 have J:=zc h6;have H2:=zc (H0.out.trans O fun z hz=>.inl hz);have hj:=zc (hg.out.zpW O fun z hz e=>(zu HN.out).1 (e▸hz));have hc:=zc (h5.out.zpW O fun z hz e=>(zu HN.out).2.1 (e▸hz));rw[<-G];clear G O h6 c0 N c2 c3 c4 fb k0 k1 A s d0 d1 hq;obtain⟨c0,N,c2,c3,c4⟩:=J.out.c5;have fb:=J.out.zpe;have A:=J.out.lt;rw[<-R.out]at c3;rw[<-B.out]at c4;go_region_with
  ((
   go_at_call 236;rw[B.out];refine(HI.out w6.drew hc.out.drew).mono ?_;rintro e w7 ⟨rfl,a,I⟩;have hy:=zc a;have hr:=zc I;have D:=J.out.of (I.block b A (zu HN.out).2.1);have hh:=zc (hj.out.of (w':=w7) fun k hk hl=>I.block k hl (fun hi=>(zu HN.out).2.2.2.2 k hk hi));clear a I c0 N c2 c3 c4 fb A;have hx:=zc D;rw[<-R.out,<-B.out]at D;obtain⟨c0,N,c2,c3,c4⟩:=D.c5;have fb:=D.zpe;have A:=D.lt;clear D;rw[<-B.out]))
 all_goals
  have h9:=zc (uX.right T HN.out HA.out HS.out H2.out.drew hy.out hr.out hx.out hh.out);clear c0 N c2 c3 c4 fb A;go_wp2_with fail;refine h9.out.settled.mono ?_;rintro e w8 hS;obtain⟨rfl,h8,h7⟩:=h9.out.close Y.out hS;have H8:=zc h8;have ho:=zc h7;clear h8 h7 hS;go_wp2;go_ret2;exact⟨rfl,H8.out,ho.out⟩
theorem zfb(v i:Int)(b:Nat)(L:Int)(w:World)(h:Nx w b v i L none none):
 Calls prog 236 #[.pointer (some ⟨b,0,none⟩),.agg #[.int .i64 v,.int .i64 i]] w (vY (v,i) (.node b v i L .nil .nil) w):=by
 have G:Hid (zQ (v,i) (.node b v i L .nil .nil)=.nil):=zc (by simp only[zQ,zaC];rfl);obtain⟨c0,T,c2,c3,c4⟩:=h.c5;have A:=h.lt;have Z:=zc h;clear h;go_enter func236,ntmps236;go_wp2;obtain⟨D,B⟩:=zh ((w.alloc (yg v i)).drew)
 have J:Below w.heap.size w D:=by rw[B];exact zv (zk w _)
 have I:=zc (Z.out.behind J);have V:Kx D w.heap.size v i:=by rw[B];exact Kx.new w v i
 obtain⟨m,hm⟩:=zh w.heap.size
 rw[<-hm]at V ⊢;have N:=zc V;have E:=zc J;clear hm J c0 T c2 c3 c4 V A;obtain⟨c0,T,c2,c3,c4⟩:=I.out.c5;obtain⟨a,Y⟩:=N.out.c2;have A:=I.out.lt;have X:=N.out.lt;refine zI 5 (by kernel_rfl) (by kernel_rfl) D B ?_;clear B;simp only[List.take_succ_cons,List.take_zero,List.drop_succ_cons,List.drop_zero]
 repeat still_step
 refine wpStill_nil ?_;go_wp2_with fail;refine(yM _ _ _ _ _).mono ?_;rintro e w3 ⟨rfl,rfl⟩;rw[zaC];obtain⟨U,H⟩:=zh ((D.alloc (yg v i)).alloc (yg v i))
 have M:Below D.heap.size D U:=by rw[H];exact(zk D _).alloc (by simp) _
 rw[<-H];have R:=zc (I.out.behind M);have O:=zc (zj E.out M E.out.size);clear H M c0 T c2 c3 c4 a Y A X;obtain⟨c0,T,c2,c3,c4⟩:=R.out.c5;have A:=R.out.lt;go_wp2;go_ret2;refine⟨?_,?_,zo8.zo7 O.out⟩
 ·rw[G.out];rfl
 ·rw[G.out];trivial
theorem zf6(t:Tt):∀(k:Int×Int) (w:World),t.In w->t.bl.Nodup->t.AA->t.size<=100000->t.keys.Pairwise zqk->k∈t.keys->Calls prog 236 #[.pointer t.pt,.agg #[.int .i64 k.1,.int .i64 k.2]] w (vY k t w):=by
 induction t with
 | nil=>intro k w _ _ _ _ _ M;simp[Tt.keys]at M
 | node b x j L l r ihl ihr=>
  intro k w h O D hs a M;obtain⟨n1,n2,Y,Z,n5⟩:=zu O;have N:=D.size;rw[ztQ]at N;simp only[Tt.size]at hs N;simp only[Tt.keys]at a M;obtain⟨c,d,X⟩:=List.pairwise_append.1 a;obtain⟨U,J⟩:=List.pairwise_cons.1 d;rcases vd k (x,j)with⟨E,e⟩ | ⟨E,e⟩ | ⟨E,e⟩
  ·have R:k∈l.keys:=by
    rcases List.mem_append.1 M with B | B
    ·exact B
    ·rcases List.mem_cons.1 B with B | B
     ·rw[B]at E;exact absurd E (yP _)
     ·exact absurd E (xB (U k B))
   exact zfa k.1 k.2 b x j L l r w h O D (by omega) e (fun w' A=>ihl k w' A Y D.1 (by omega) c R)
  ·subst E;by_cases H:l.isNil=false
   ·obtain⟨m,hm⟩:=za2 l H;exact zbt x j b x j L l r w h O D (by omega) e H (fun w' A=>ihl (xh l) w' A Y D.1 (by omega) c (by rw[hm];simp))
   ·have I:=xd (by simpa using H);by_cases G:r.isNil=false
    ·obtain⟨m,hm⟩:=vJ r G;exact za4 x j b x j L l r w h O D (by omega) e G I (fun w' A=>ihr (yk r) w' A Z D.2.1 (by omega) J (by rw[hm];simp))
    ·have V:=xd (by simpa using G);subst I;subst V;exact zfb x j b L w h.1
  ·have T:k∈r.keys:=by
    rcases List.mem_append.1 M with B | B
    ·exact absurd (X k B (x,j) (by simp)) (xB E)
    ·rcases List.mem_cons.1 B with B | B
     ·rw[B]at E;exact absurd E (yP _)
     ·exact B
   exact zef k.1 k.2 b x j L l r w h O D (by omega) e (fun w' A=>ihr k w' A Z D.2.1 (by omega) J T)
def Ext(F:Nat->Prop)(w w':World)(k:Nat):Prop:=F k∨(w.heap.size<=k/\k<w'.heap.size)
def zY(F:Nat->Prop)(w w':World):Prop:=∀k,k<w.heap.size->F k->w'.heap[k]?=w.heap[k]?
theorem zY.zo7{F:Nat->Prop}{w w':World}(h:Below w.heap.size w w'):zY F w w':=fun k A _=>h.block k A
theorem zY.zpK{F G:Nat->Prop}{w w':World}(h:zo8 G w w')(hd:∀k,F k->¬G k):zY F w w':=fun k A B=>h.block k A (hd k B)
structure Rb(w:World)(F:Nat->Prop)(t:Nat)(ks:List (Int×Int)):Prop where
 ex:∃(T:Tt) (m:Int),Rx w t T.pt m/\T.In w/\T.bl.Nodup/\T.AA/\T.keys=ks/\(∀b∈T.bl,F b)
 own:F t
 ord:ks.Pairwise zqk
theorem Rb.kept{w w':World}{F:Nat->Prop}{t:Nat}{A:List (Int×Int)}(h:Rb w F t A)(hs:zY F w w'):Rb w' F t A:=by obtain⟨⟨T,m,B,G,M,H,I,E⟩,D,hp⟩:=h;exact⟨⟨T,m,B.of (hs t B.lt D),G.of fun b hb J=>hs b J (E b hb),M,H,I,E⟩,D,hp⟩
theorem Rb.mono{w:World}{F G:Nat->Prop}{t:Nat}{B:List (Int×Int)}(h:Rb w F t B)(E:∀k,k<w.heap.size->F k->G k):Rb w G t B:=by obtain⟨⟨T,m,D,A,M,H,I,N⟩,J,hp⟩:=h;exact⟨⟨T,m,D,A,M,H,I,fun b hb=>E b (A.lt b hb) (N b hb)⟩,E t D.lt J,hp⟩
theorem Rb.behind{w w':World}{F:Nat->Prop}{t:Nat}{A:List (Int×Int)}(h:Rb w F t A)(hb:Below w.heap.size w w'):Rb w' F t A:=h.kept (.zo7 hb)
theorem Rx.zrx{w:World}{t:Nat}{p:Option Addr}{m:Int}(h:Rx w t p m):∀{T:Tt},T.In w->t∉T.bl
 | .nil,_,A=>by simp[Tt.bl]at A
 | .node b v i L l r,⟨h1,h2,h3⟩,A=>by
  simp only[Tt.bl,List.mem_cons,List.mem_append]at A;rcases A with rfl | A | A
  ·unfold Rx at h;have B:w.heap[t]?=_:=h1;rw[h]at B;simp at B
  ·exact h.zrx h2 A
  ·exact h.zrx h3 A
theorem Tt.zqp:∀T:Tt,T.size=T.keys.length
 | .nil=>rfl
 | .node b v i L l r=>by simp only[Tt.size,Tt.keys,List.length_append,List.length_cons,Tt.zqp l,Tt.zqp r];omega
theorem zc5{k:Int×Int}:∀{D:List (Int×Int)},D.Pairwise zqk->k∉D->(qE k D).Pairwise zqk
 | [],_,_=>List.pairwise_singleton _ _
 | a::r,h,hn=>by
  obtain⟨E,G⟩:=List.pairwise_cons.1 h;simp only[qE];split
  ·rename_i A;exact List.pairwise_cons.2 ⟨fun b hb=>by rcases List.mem_cons.1 hb with rfl | hb;exact A;exact zbW A (E b hb),h⟩
  ·rename_i A;have B:zqk a k:=ze3 (fun e=>hn (by rw[e];simp)) A;refine List.pairwise_cons.2 ⟨fun b hb=>?_,zc5 G (fun e=>hn (List.mem_cons_of_mem _ e))⟩;have:∀{l:List (Int×Int)},b∈qE k l->b=k∨b∈l:=by
    intro l
    induction l with
    | nil=>intro hb;simp[qE]at hb;exact .inl hb
    | cons c l ih=>
     intro hb;simp only[qE]at hb;split at hb
     ·rcases List.mem_cons.1 hb with h | h
      ·exact .inl h
      ·exact .inr h
     ·rcases List.mem_cons.1 hb with h | h
      ·exact .inr (by rw[h];simp)
      ·rcases ih h with h | h
       ·exact .inl h
       ·exact .inr (List.mem_cons_of_mem _ h)
   rcases this hb with rfl | hb
   ·exact B
   ·exact E b hb
theorem zf7(w:World)(F:Nat->Prop)(t:Nat)(A:List (Int×Int))(h:Rb w F t A):Calls prog 229 #[.pointer (some ⟨t,0,none⟩)] w (zc3 w A.head?):=by obtain⟨⟨T,m,D,B,h3,h4,E,h6⟩,ho,hp⟩:=h;rw[<-E];exact zfc t T m w D B
theorem zer(v i:Int)(w:World)(F:Nat->Prop)(t:Nat)(B:List (Int×Int))(h:Rb w F t B):Calls prog 230 #[.pointer (some ⟨t,0,none⟩),.agg #[.int .i64 v,.int .i64 i]] w (zc3 w (B.find? (fun a=>decide (zqk (v,i) a)))):=by obtain⟨⟨T,m,E,D,h3,h4,A,h6⟩,ho,hp⟩:=h;rw[<-A,<-uC (v,i) T (by rw[A];exact hp)];exact zlL t T m v i w E D
theorem Rb.stored{w0 w w1:World}{F:Nat->Prop}{t:Nat}{T A:Tt}{m n:Int}{D:List (Int×Int)}(E:Rx w1 t T.pt m)(G:A.In w1)(O:A.bl.Nodup)(J:A.AA)(I:A.keys=D)(N:D.Pairwise zqk)(M:∀b∈A.bl,F b)(H:F t):
 Rb ((w1.setCell ⟨t,0,none⟩ (.pointer A.pt)).setCell ⟨t,1,none⟩ (.int .i64 n)) F t D:=by
 have B:=E.zrx G;exact⟨⟨A,n,(E.zsD A.pt).zsR n,(G.zpP B).zpP B,O,J,I,M⟩,H,N⟩
theorem zcm(v i:Int)(w:World)(F:Nat->Prop)(t:Nat)(j:List (Int×Int))(h:Rb w F t j)(q:(v,i)∉j)(hl:j.length<=10000):
 Calls prog 205 #[.pointer (some ⟨t,0,none⟩),.agg #[.int .i64 v,.int .i64 i]] w fun e w'=>e=.returned (.bool true)/\Rb w' (Ext F w w') t (qE (v,i) j)/\zo8 F w w':=by
 obtain⟨⟨T,m,l,y,h3,P,h5,h6⟩,S,hp⟩:=h;subst h5;have B:=zc (za1 · (v,i) T hp q);have J:=zc (B.out 0).2;have s:Hid (T.size<=100000):=zc (by rw[Tt.zqp];omega);have Y:=zc (zc5 hp q);have L:=zc l;have K:=zc y;have W:=zc h3;have Q:=zc P;have C:=zc h6;have r:=zc S;obtain⟨c0,o⟩:=l.c2;have A:=l.lt;obtain⟨tp,N⟩:=zh T.pt
 rw[<-N]at c0;have I:=zc N;clear l y h3 P h6 S hp q hl N;go_enter func205,ntmps205;go_wp2;obtain⟨f,E⟩:=zh (w.alloc (yg v i))
 have H:Below w.heap.size w f:=by rw[E];exact zk w _
 have k:Kx f w.heap.size v i:=by rw[E];exact Kx.new w v i
 have D:=zc (L.out.of (H.block t L.out.lt));have R:=zc (K.out.behind H);have Z:=zc H;obtain⟨k0,k1⟩:=k.c2;have p:=k.lt;have V:=k.zpe;rw[<-E];clear E H k c0 o A;obtain⟨c0,o⟩:=D.out.c2;rw[<-I.out]at c0;have A:=D.out.lt;have U:=D.out.zpe;go_region_with
  ((
   go_at_call 237;rw[I.out];refine(zlE v i T f.drew R.out.drew W.out Q.out s.out J.out).mono ?_;rintro e z ⟨n,X,rfl,M,O⟩;have a:=zc X;have c:=zc M;have d:=zc O;have G:=zc (D.out.of (w':=z) (O.block t A (D.out.zrx R.out)));clear X M O c0 o A U k0 k1 p V;obtain⟨c0,o⟩:=G.out.c2;rw[<-I.out]at c0;have A:=G.out.lt;have U:=G.out.zpe;rw[<-I.out]))
 all_goals
  go_wp2;go_ret;have hp:=zae n (v,i) T J.out;have h7:=Z.out.size;have h0:=d.out.size;have u:n∉T.bl:=fun hh=>by have:=K.out.lt n hh;have:=a.out;simp at this;omega
  have g:n<z.heap.size:=c.out.lt n (hp.mem_iff.2 (by simp));refine⟨rfl,Rb.stored (w0:=w) (w:=w) G.out c.out ((hp.nodup_iff).2 (zed W.out u)) (zbp n (v,i) T Q.out).1 (B.out n).1 Y.out ?_ (.inl r.out),?_⟩
  ·intro b hb;rcases List.mem_cons.1 (hp.mem_iff.1 hb)with rfl | hb
   ·exact .inr ⟨by have:=a.out;simp at this;omega,by simpa using g⟩
   ·exact .inl (C.out b hb)
  ·exact(((zo8.zo7 (zv Z.out)).trans d.out fun x hx=>.inl (C.out x hx)).setCell (.inl r.out) _).setCell (.inl r.out) _
theorem zj6{k:Int×Int}{A:List (Int×Int)}(h:A.Pairwise zqk):(A.erase k).Pairwise zqk:=h.sublist (List.erase_sublist ..)
theorem zcn(v i:Int)(w:World)(F:Nat->Prop)(t:Nat)(a:List (Int×Int))(h:Rb w F t a)(j:(v,i)∈a)(hl:a.length<=10000):
 Calls prog 203 #[.pointer (some ⟨t,0,none⟩),.agg #[.int .i64 v,.int .i64 i]] w fun e w'=>e=.returned (.bool true)/\Rb w' F t (a.erase (v,i))/\zo8 F w w':=by
 obtain⟨⟨T,m,d,r,P,y,h5,Q⟩,C,hp⟩:=h;subst h5;have J:=zc (zhS (v,i) T hp j);have U:=zc j;have q:Hid (T.size<=100000):=zc (by rw[Tt.zqp];omega);have O:=zc hp;have Y:=zc (zj6 (k:=(v,i)) hp);have u:=zc d;have HI:=zc r;have K:=zc P;have z:=zc y;have s:=zc Q;have o:=zc C;obtain⟨c0,f⟩:=d.c2;have A:=d.lt;obtain⟨L,M⟩:=zh T.pt
 rw[<-M]at c0;have H:=zc M;clear d r P y Q C hp j hl M;go_enter func203,ntmps203;go_wp2;obtain⟨Z,D⟩:=zh (w.alloc (yg v i))
 have G:Below w.heap.size w Z:=by rw[D];exact zk w _
 have c:Kx Z w.heap.size v i:=by rw[D];exact Kx.new w v i
 have B:=zc (u.out.of (G.block t u.out.lt));have R:=zc (HI.out.behind G);have l:=zc G;obtain⟨k0,S⟩:=c.c2;have g:=c.lt;have X:=c.zpe;rw[<-D];clear D G c c0 f A;obtain⟨c0,f⟩:=B.out.c2;rw[<-H.out]at c0;have A:=B.out.lt;have V:=B.out.zpe;go_region_with
  ((
   go_at_call 236;rw[H.out];refine(zf6 T (v,i) Z.drew R.out.drew K.out z.out q.out O.out U.out).mono ?_;rintro e W ⟨rfl,I,N⟩;have n:=zc I;have p:=zc N;have E:=zc (B.out.of (w':=W) (N.block t A (B.out.zrx R.out)));clear I N c0 f A V k0 S g X;obtain⟨c0,f⟩:=E.out.c2;rw[<-H.out]at c0;have A:=E.out.lt;have V:=E.out.zpe;rw[<-H.out]))
 all_goals
  go_wp2;go_ret;refine⟨rfl,Rb.stored (w0:=w) (w:=w) E.out n.out (zag K.out) (zc1 T (v,i) z.out).1 J.out.1 Y.out (fun b hb=>s.out b (qc hb)) o.out,?_⟩;exact(((zo8.zo7 (zv l.out)).trans p.out fun x hx=>.inl (s.out x hx)).setCell (.inl o.out) _).setCell (.inl o.out) _
theorem zlM(w:World):Calls prog 121 #[] w fun e w'=>e=.returned (.pointer (some ⟨w.heap.size,0,none⟩))/\Rb w' (fun k=>k=w.heap.size) w.heap.size []/\w'=w.alloc (.cells #[.pointer none,.int .i64 0] 283):=
 (znC w).mono fun e w' ⟨he,hw⟩=>⟨he,by rw[hw];exact⟨⟨.nil,0,heap_alloc_new w _,trivial,by simp[Tt.bl],trivial,rfl,by intro b hb;simp[Tt.bl]at hb⟩,rfl,List.Pairwise.nil⟩,hw⟩
end
structure En where
 id:Int
 w:Int
 v:Int
 rem:Int
def En.key(e:En):Int×Int:=(e.v,e.id)
structure Qu where
 l:List En
 cur:Int
 min:Int
def Qu.new:Qu:=⟨[],-1,0⟩
def ua(i:Int)(e:En):Bool:=decide (e.id=i)
def Qu.get(x:Qu)(i:Int):Option En:=x.l.find? (ua i)
def vE(e:En):List En->List En
 | []=> [e]
 | a::r=>if zqk e.key a.key then e::a::r else a::vE e r
def Qu.raise(x:Qu):Qu:=match x.l with
 | []=>x
 | e::_=>{ x with min:=max x.min e.v }
def zpq(i:Int)(l:List En):List En:=l.filter (fun e=>!ua i e)
def uZ(w:Int):Bool:=decide (2<=w/\w<=262144)
def Qu.zqe(x:Qu)(e:En):Int:=if e.id<0 then 1 else if uZ e.w=false then 4 else if e.w<=e.rem then 1 else if(x.get e.id).isSome then 6 else if x.l.length=128 then 3 else 0
def Qu.put(x:Qu)(e:En):Qu:=if x.zqe e=0 then({ x with l:=vE e x.l }:Qu).raise else x
def Qu.drop(x:Qu)(i:Int):Qu:=match x.get i with
 | none=>x
 | some _=>({ l:=zpq i x.l,cur:=if x.cur=i then -1 else x.cur,min:=x.min }:Qu).raise
def Qu.zpo(x:Qu)(i w:Int):Qu:=match x.get i with
 | none=>x
 | some e=>if uZ w=false then x else{ x with l:=x.l.map (fun a=>if ua i a then{ a with rem:=a.rem*w/a.w,w:=w }else a) }
def Qu.zpg(x:Qu)(ns:Int):Qu:=match x.get x.cur with
 | none=>x
 | some e=>({ x with l:=vE { e with v:=vZ e.v ((e.rem+ns*1024) /e.w),rem:=(e.rem+ns*1024) %e.w } (zpq x.cur x.l) }:Qu).raise
def Qu.first(x:Qu):Option En:=x.l.find? (fun e=>!ua x.cur e)
def zgb(g:Int):Int:=if g<0 then 0 else if 1099511627776<g then 1099511627776 else g
def zqD(a b:En)(g:Int):Bool:=decide (a.v<=vZ b.v (zgb g))
def Qu.pick(x:Qu)(g:Int):Qu:=match x.first with
 | none=>x
 | some o=>match x.get x.cur with
  | none=>{ x with cur:=o.id }
  | some c=>if zqD c o g then x else{ x with cur:=o.id }
def Qu.yield(x:Qu)(g:Int):Qu:=match x.first,x.get x.cur with
 | some o,some c=>if zqD o c g then{ x with cur:=o.id }else x.pick g
 | _,_=>x.pick g
structure En.Ok(e:En):Prop where
 id:0<=e.id/\e.id<=1000000
 w:2<=e.w/\e.w<=262144
 v: -9223372036854775808<=e.v/\e.v<=9223372036854775807
 rem:0<=e.rem/\e.rem<e.w
structure Qu.Ok(x:Qu):Prop where
 zpR:∀e∈x.l,e.Ok
 ids:(x.l.map En.id).Nodup
 ord:(x.l.map En.key).Pairwise zqk
 cur:x.cur= -1∨∃e∈x.l,e.id=x.cur
 min: -9223372036854775808<=x.min/\x.min<=9223372036854775807
 len:x.l.length<=128
theorem yh{x:Qu}{i:Int}{e:En}(h:x.get i=some e):e∈x.l/\e.id=i:=by have B:=List.mem_of_find?_eq_some h;have A:=List.find?_some h;exact⟨B,by simpa[ua]using A⟩
theorem get_none{x:Qu}{i:Int}(h:x.get i=none):∀e∈x.l,e.id≠i:=by intro e he A;have:=List.find?_eq_none.1 h e he;simp[ua,A]at this
theorem zjy{l:List En}(h:(l.map En.id).Nodup){a b:En}(D:a∈l)(hb:b∈l)(e:a.id=b.id):a=b:=by
 induction l with
 | nil=>simp at D
 | cons c l ih=>
  simp only[List.map_cons,List.nodup_cons,List.mem_map,not_exists,not_and]at h;rcases List.mem_cons.1 D with B | B
  ·rcases List.mem_cons.1 hb with A | A
   ·rw[B,A]
   ·rw[B]at e;exact absurd e.symm (h.1 b A)
  ·rcases List.mem_cons.1 hb with A | A
   ·rw[A]at e;exact absurd e (h.1 a B)
   ·exact ih h.2 B A
theorem zou{x:Qu}(h:(x.l.map En.id).Nodup){e:En}(he:e∈x.l):x.get e.id=some e:=by
 cases hg:x.get e.id with
 | none=>exact absurd rfl (get_none hg e he)
 | some a=>obtain⟨B,A⟩:=yh hg;rw[zjy h B he A]
theorem qT(e:En):∀l:List En,(vE e l).map En.key=qE e.key (l.map En.key)
 | []=>rfl
 | a::r=>by
  simp only[vE,List.map_cons,qE];split
  ·rfl
  ·rw[List.map_cons,qT e r]
theorem yI(e:En):∀(l:List En) (a:En),a∈vE e l↔a=e∨a∈l
 | [],a=>by simp[vE]
 | b::r,a=>by
  simp only[vE];split
  ·simp
  ·rw[List.mem_cons,yI e r a,List.mem_cons];constructor
   ·rintro(h | h | h) <;> simp[h]
   ·rintro(h | h | h) <;> simp[h]
theorem zb0(e:En):∀l:List En,(vE e l).Perm (e::l)
 | []=>.refl _
 | a::r=>by
  simp only[vE];split
  ·exact .refl _
  ·exact((zb0 e r).cons a).trans (List.Perm.swap e a r)
theorem vM(e:En)(l:List En):(vE e l).length=l.length+1:=by rw[(zb0 e l).length_eq];rfl
theorem zgc{e:En}{l:List En}(h:(l.map En.id).Nodup)(D:∀a∈l,a.id≠e.id):((vE e l).map En.id).Nodup:=by rw[((zb0 e l).map En.id).nodup_iff,List.map_cons];refine List.nodup_cons.2 ⟨?_,h⟩;intro hm;obtain⟨a,A,B⟩:=List.mem_map.1 hm;exact D a A B
theorem zgd{e:En}{l:List En}(h:(l.map En.key).Pairwise zqk)(D:∀a∈l,a.id≠e.id):((vE e l).map En.key).Pairwise zqk:=by rw[qT];refine zc5 h fun hm=>?_;obtain⟨a,B,A⟩:=List.mem_map.1 hm;exact D a B (congrArg Prod.snd A)
theorem ya{i:Int}{l:List En}{a:En}:a∈zpq i l↔a∈l/\a.id≠i:=by simp[zpq,ua]
theorem qy{l:List En}{e:En}(h:(l.map En.id).Nodup)(he:e∈l):(zpq e.id l).map En.key=(l.map En.key).erase e.key:=by
 induction l with
 | nil=>simp at he
 | cons a r ih=>
  simp only[List.map_cons,List.nodup_cons,List.mem_map,not_exists,not_and]at h;unfold zpq at ih ⊢;rcases List.mem_cons.1 he with rfl | he
  ·rw[List.filter_cons_of_neg (by simp[ua]),List.map_cons,List.erase_cons_head];rw[List.filter_eq_self.2];intro b hb;have:=h.1 b hb;simp[ua,this]
  ·have A:a.id≠e.id:=fun B=>h.1 e he B.symm;rw[List.filter_cons_of_pos (by simp[ua,A]),List.map_cons,List.map_cons,ih h.2 he,List.erase_cons_tail];have:¬a.key=e.key:=fun B=>A (congrArg Prod.snd B);simpa using this
theorem uE{l:List En}{e:En}(h:(l.map En.id).Nodup)(he:e∈l):(zpq e.id l).length+1=l.length:=by have A:=congrArg List.length (qy h he);rw[List.length_map,List.length_erase_of_mem (List.mem_map.2 ⟨e,he,rfl⟩),List.length_map]at A;have:=List.length_pos_of_mem he;omega
theorem zc8{i:Int}{l:List En}(h:(l.map En.id).Nodup):((zpq i l).map En.id).Nodup:=h.sublist ((List.filter_sublist ..).map _)
theorem zc9{i:Int}{l:List En}(h:(l.map En.key).Pairwise zqk):((zpq i l).map En.key).Pairwise zqk:=h.sublist ((List.filter_sublist ..).map _)
theorem qt(x:Qu):x.raise.l=x.l:=by unfold Qu.raise;split <;> rfl
theorem qU(x:Qu):x.raise.cur=x.cur:=by unfold Qu.raise;split <;> rfl
theorem Qu.Ok.raise{x:Qu}(h:x.Ok):x.raise.Ok:=by
 refine⟨by rw[qt];exact h.zpR,by rw[qt];exact h.ids,by rw[qt];exact h.ord,by rw[qt,qU];exact h.cur,?_,by rw[qt];exact h.len⟩;unfold Qu.raise;split
 ·exact h.min
 ·rename_i e l A;have:=(h.zpR e (by rw[A];simp)).v;have:=h.min;simp only;omega
theorem Qu.Ok.put{x:Qu}(h:x.Ok){e:En}(he:e.Ok)(E:x.get e.id=none)(hl:x.l.length<128):({ x with l:=vE e x.l }:Qu).Ok:=by
 have D:=get_none E;refine⟨fun a A=>?_,zgc h.ids D,zgd h.ord D,?_,h.min,by rw[vM];omega⟩
 ·rcases(yI e x.l a).1 A with rfl | A
  ·exact he
  ·exact h.zpR a A
 ·rcases h.cur with B | ⟨a,A,B⟩
  ·exact .inl B
  ·exact .inr ⟨a,(yI e x.l a).2 (.inr A),B⟩
theorem Qu.Ok.zpq{x:Qu}(h:x.Ok)(i:Int):({ l:=zpq i x.l,cur:=if x.cur=i then -1 else x.cur,min:=x.min }:Qu).Ok:=by
 refine⟨fun a D=>h.zpR a (ya.1 D).1,zc8 h.ids,zc9 h.ord,?_,h.min,?_⟩
 ·simp only;split
  ·exact .inl rfl
  ·rename_i B;rcases h.cur with A | ⟨a,D,A⟩
   ·exact .inl A
   ·exact .inr ⟨a,ya.2 ⟨D,by rw[A];exact B⟩,A⟩
 ·have:=List.length_filter_le (fun e=>!ua i e) x.l;have hl:=h.len;show(x.l.filter (fun e=>!ua i e)).length<=128;omega
section
attribute [local go_sem ↓] Go.wp_at_zero Go.wp_at_succ
theorem zlV:(prog.info? 289).map (fun i=>(i.zero,i.size,i.bytes))=some (some (.agg #[.int .i64 0,.int .i64 0]),2,16):=by kernel_rfl
def zry(A:List (Int×Int)):List Value:=A.flatMap fun k=> [.int .i64 k.1,.int .i64 k.2]
theorem zda(a b:List (Int×Int)):zry (a++b)=zry a++zry b:=by simp[zry]
theorem zjz(k:Int×Int):zry [k]= [.int .i64 k.1,.int .i64 k.2]:=by simp[zry]
def zdb(v:Value)(base n:Nat)(xs A:List (Int×Int))(w:World)(e:Ending)(w':World):Prop:=∃a c,e=.returned (.slice a (n+A.length) c)/\w'.ownsRow base 289 2 (.slice a (n+A.length) c) (n+A.length) (zry (xs++A))/\zo8 (fun k=>v.ownBlock=some k) w w'/\(∀k,(Value.slice a (n+A.length) c).ownBlock=some k->v.ownBlock=some k∨w.heap.size<=k)
theorem zlW(a:Option Addr)(base n c:Nat)(xs:List (Int×Int))(w:World)(h:w.ownsRow base 289 2 (.slice a n c) n (zry xs)):
 Calls prog 223 #[.pointer none,.slice a n c] w (zdb (.slice a n c) base n xs [] w):=by
 have H:=zc h;clear h;go_enter func223,ntmps223;go_wp2;go_ret;exact⟨a,c,rfl,by simpa using H.out,zo8.refl _ _,fun k A=>.inl A⟩
theorem zkb(a:Option Addr)(b:Nat)(x j L:Int)(l r:Tt)(base n c:Nat)(xs:List (Int×Int))(w:World)(hT:(Tt.node b x j L l r).In w)(hb:∀k∈(Tt.node b x j L l r).bl,k<base)(h:w.ownsRow base 289 2 (.slice a n c) n (zry xs))(V:base<=w.heap.size)
 (hs:n+(Tt.node b x j L l r).size<=100000)
 (K:∀(a:Option Addr) (n c:Nat) (xs:List (Int×Int)) (w:World),l.In w->w.ownsRow base 289 2 (.slice a n c) n (zry xs)->base<=w.heap.size->n+l.size<=100000->Calls prog 223 #[.pointer l.pt,.slice a n c] w (zdb (.slice a n c) base n xs l.keys w))
 (S:∀(a:Option Addr) (n c:Nat) (xs:List (Int×Int)) (w:World),r.In w->w.ownsRow base 289 2 (.slice a n c) n (zry xs)->base<=w.heap.size->n+r.size<=100000->Calls prog 223 #[.pointer r.pt,.slice a n c] w (zdb (.slice a n c) base n xs r.keys w)):
 Calls prog 223 #[.pointer (some ⟨b,0,none⟩),.slice a n c] w (zdb (.slice a n c) base n xs (Tt.node b x j L l r).keys w):=by
 obtain⟨i0,hi,F,h6,h4⟩:=info_parts zlV;obtain⟨ks,u⟩:=zh ((Tt.node b x j L l r).keys)
 rw[<-u];have y:=zc u;obtain⟨h1,h2,h3⟩:=hT;have hc:=hb b (by simp[Tt.bl]);have HB:=zc h1;have HL:=zc h2;have HR:=zc h3;have P:=zc hb;have m:=zc h;have h9:=zc K;have hg:=zc S;have d:=zc V;obtain⟨c0,g,c2,c3,c4⟩:=h1.c5;have E:=h1.lt;obtain⟨lp,v⟩:=zh l.pt
 obtain⟨rp,s⟩:=zh r.pt
 have H:=zc v;have O:=zc s;rw[<-v]at c3;rw[<-s]at c4;have hf:l.size=l.keys.length:=l.zqp;simp only[Tt.size]at hs;have HS:Hid (n+l.keys.length+r.size+1<=100000):=zc (by omega);have h8:Hid (n+l.size<=100000):=zc (by omega);clear h1 h2 h3 hb h K S u v s hs hf c2 V;go_enter func223,ntmps223;go_wp2_with fail;have M:∀w',zo8 (fun k=>(Value.slice a n c).ownBlock=some k) w w'->Nx w' b x j L l.pt r.pt/\l.In w'/\r.In w':=by
  intro w' ht;have o:∀k,k<base->¬(Value.slice a n c).ownBlock=some k:=fun k J e=>by have:=(m.out.lt k e).1;omega
  exact⟨HB.out.of (ht.block b HB.out.lt (o b hc)),HL.out.zpW ht fun k J=>o k (P.out k (by simp[Tt.bl,J])),HR.out.zpW ht fun k J=>o k (P.out k (by simp[Tt.bl,J]))⟩
 have M:=zc M;go_region_held3 (fun w'=>w'.cell? ⟨b,0,none⟩=some (.int .i64 x)/\w'.cell? ⟨b,1,none⟩=some (.int .i64 j)/\w'.cell? ⟨b,3,none⟩=some (.pointer lp)/\w'.cell? ⟨b,4,none⟩=some (.pointer rp)) (go_keep)
  (first
   | (
    go_at_call_of 223 (lp);rw[H.out];refine(h9.out a n c xs w.drew HL.out.drew m.out d.out h8.out).mono ?_;rintro e w1 ⟨W,Z,rfl,T,A,X⟩;have q:=zc T;have I:Hid (zo8 (fun k=>(Value.slice a n c).ownBlock=some k) w w1):=zc ⟨A.os,A.tape,A.output,A.size,A.block⟩;have R:Hid (∀k,(Value.slice W (n+l.keys.length) Z).ownBlock=some k->(Value.slice a n c).ownBlock=some k∨w.heap.size<=k):=zc X;have G:=(M.out w1 I.out).1;clear T A X c0 g c3 c4 E;obtain⟨c0,g,c2,c3,c4⟩:=G.c5;have E:=G.lt;clear G c2;rw[<-H.out]at c3;rw[<-O.out]at c4;rw[<-H.out])
   | (
    go_at_call_of 223 (lp);rw[H.out];refine(h9.out a n c xs (w.alloc (yg x j)).drew (HL.out.behind (zk w _)).drew (m.out.alloc _) (by have:=d.out;simp;omega) h8.out).mono ?_;rintro e w1 ⟨W,Z,rfl,T,A,X⟩;have q:=zc T;have I:Hid (zo8 (fun k=>(Value.slice a n c).ownBlock=some k) w w1):=zc (((zo8.refl _ w).alloc (yg x j)).trans ⟨A.os,A.tape,A.output,A.size,A.block⟩ fun k J=>.inl J);have R:Hid (∀k,(Value.slice W (n+l.keys.length) Z).ownBlock=some k->(Value.slice a n c).ownBlock=some k∨w.heap.size<=k):=zc (fun k J=>(X k J).imp id (fun h=>by simp at h;omega))
    have h0:Hid (w1.heap[w.heap.size]?=some (yg x j)):=zc (by rw[A.block w.heap.size (by simp) (fun e=>by have:=(m.out.lt _ e).2;omega)];exact heap_alloc_new w _);have G:=(M.out w1 I.out).1;clear T A X c0 g c3 c4 E;obtain⟨c0,g,c2,c3,c4⟩:=G.c5;have E:=G.lt;clear G c2;rw[<-H.out]at c3;rw[<-O.out]at c4;rw[<-H.out])
   | (
    refine step_append_lies _ (by rfl) _ _ _ (by rfl) base 289 i0 _ 2 16 underlying286 hi F h6 h4 rfl (by omega) (.slice W (n+l.keys.length) Z) (n+l.keys.length) (zry (xs++l.keys)) (by rfl) (q.out.alloc _)
     ⟨w1.heap.size,0,none⟩ 1 1 [.int .i64 x,.int .i64 j] (by rfl) (by rfl) (World.news_of_block (cs:=#[.int .i64 x,.int .i64 j]) (t:=289) (fr:=(0,0)) (heap_alloc_new w1 _)) (by simp[Value.oneCell'])
     (by omega) (by have:=HS.out;unfold maxLen;omega) (by have:=HS.out;omega) (by have:=I.out.size;have:=d.out;first | omega | (simp;omega)) (w1.heap.size+1) (by first | rfl | simp) ?_
    intro g2 cap2 f B D Y U;have C:Hid (f.ownsRow base 289 2 (.slice (some ⟨g2,0,none⟩) (n+l.keys.length+1) cap2) (n+l.keys.length+1) (zry (xs++l.keys++ [(x,j)]))):=zc (by rw[zda,zjz];exact B);have N:Hid (zo8 (fun k=>(Value.slice a n c).ownBlock=some k) w f):=zc ((I.out.alloc (yg x j)).grown D fun k J=>R.out k J);have p:Hid (g2<f.heap.size/\((Value.slice a n c).ownBlock=some g2∨w.heap.size<=g2)):=zc ⟨U,by
     rcases Y with h | h
     ·exact R.out g2 h
     ·have:=I.out.size;exact .inr (by omega)⟩
    have G:=(M.out f N.out).1;clear B D Y U c0 g c3 c4 E;obtain⟨c0,g,c2,c3,c4⟩:=G.c5;have E:=G.lt;clear G c2;rw[<-H.out]at c3;rw[<-O.out]at c4)
   | (
    refine step_append_lies _ (by rfl) _ _ _ (by rfl) base 289 i0 _ 2 16 underlying286 hi F h6 h4 rfl (by omega) (.slice W (n+l.keys.length) Z) (n+l.keys.length) (zry (xs++l.keys)) (by rfl) (q.out)
     ⟨w.heap.size,0,none⟩ 1 1 [.int .i64 x,.int .i64 j] (by rfl) (by rfl) (World.news_of_block (cs:=#[.int .i64 x,.int .i64 j]) (t:=289) (fr:=(0,0)) (h0.out)) (by simp[Value.oneCell'])
     (by omega) (by have:=HS.out;unfold maxLen;omega) (by have:=HS.out;omega) (by have:=I.out.size;have:=d.out;first | omega | (simp;omega)) (w1.heap.size) (by first | rfl | simp) ?_
    intro g2 cap2 f B D Y U;have C:Hid (f.ownsRow base 289 2 (.slice (some ⟨g2,0,none⟩) (n+l.keys.length+1) cap2) (n+l.keys.length+1) (zry (xs++l.keys++ [(x,j)]))):=zc (by rw[zda,zjz];exact B);have N:Hid (zo8 (fun k=>(Value.slice a n c).ownBlock=some k) w f):=zc (I.out.grown D fun k J=>R.out k J);have p:Hid (g2<f.heap.size/\((Value.slice a n c).ownBlock=some g2∨w.heap.size<=g2)):=zc ⟨U,by
     rcases Y with h | h
     ·exact R.out g2 h
     ·have:=I.out.size;exact .inr (by omega)⟩
    have G:=(M.out f N.out).1;clear B D Y U c0 g c3 c4 E;obtain⟨c0,g,c2,c3,c4⟩:=G.c5;have E:=G.lt;clear G c2;rw[<-H.out]at c3;rw[<-O.out]at c4)
   | (
    go_at_call_of 223 (rp);rw[O.out];refine(hg.out (some ⟨g2,0,none⟩) (n+l.keys.length+1) cap2 (xs++l.keys++ [(x,j)]) f (M.out f N.out).2.2 C.out (by have:=N.out.size;have:=d.out;omega) (by have:=HS.out;omega)).mono ?_;rintro e w3 ⟨a3,z,rfl,Q,h5,h7⟩;have hh:=zc Q;have ha:Hid (zo8 (fun k=>(Value.slice a n c).ownBlock=some k) w w3):=zc (N.out.trans h5 fun k J=>by simp[Value.ownBlock]at J;rw[<-J];exact p.out.2);have hj:Hid (∀k,(Value.slice a3 (n+l.keys.length+1+r.keys.length) z).ownBlock=some k->(Value.slice a n c).ownBlock=some k∨w.heap.size<=k):=zc (fun k J=>by
     rcases h7 k J with h | h
     ·simp[Value.ownBlock]at h;rw[<-h];exact p.out.2
     ·have:=N.out.size;exact .inr (by omega))
    have G:=(M.out w3 ha.out).1;clear Q h5 h7 c0 g c3 c4 E;obtain⟨c0,g,c2,c3,c4⟩:=G.c5;have E:=G.lt;clear G c2;rw[<-H.out]at c3;rw[<-O.out]at c4;rw[<-O.out]))
 all_goals
  go_wp2;go_ret;have e:n+ks.length=n+l.keys.length+1+r.keys.length:=by rw[y.out];simp only[Tt.keys,List.length_append,List.length_cons];omega
  refine⟨a3,z,?_,?_,ha.out,?_⟩
  ·rw[e];rfl
  ·rw[e,y.out];have e2:xs++(Tt.node b x j L l r).keys=xs++l.keys++ [(x,j)]++r.keys:=by simp[Tt.keys]
   rw[e2];exact hh.out
  ·rw[e];exact hj.out
theorem zlX(base:Nat)(t:Tt):∀(a:Option Addr) (n c:Nat) (xs:List (Int×Int)) (w:World),t.In w->(∀k∈t.bl,k<base)->w.ownsRow base 289 2 (.slice a n c) n (zry xs)->base<=w.heap.size->n+t.size<=100000->Calls prog 223 #[.pointer t.pt,.slice a n c] w (zdb (.slice a n c) base n xs t.keys w):=by
 induction t with
 | nil=>intro a n c xs w _ _ H _ _;exact zlW a base n c xs w H
 | node b x j L l r ihl ihr=>
  intro a n c xs w J hb H A hs;exact zkb a b x j L l r base n c xs w J hb H A hs
   (fun a n c xs w G B I E=>ihl a n c xs w G (fun k D=>hb k (by simp[Tt.bl,D])) B I E)
   (fun a n c xs w G B I E=>ihr a n c xs w G (fun k D=>hb k (by simp[Tt.bl,D])) B I E)
theorem zkc(w:World)(F:Nat->Prop)(t:Nat)(A:List (Int×Int))(h:Rb w F t A)(hs:A.length<=10000):
 Calls prog 180 #[.pointer (some ⟨t,0,none⟩)] w fun e w'=>∃a c,e=.returned (.slice a A.length c)/\w'.ownsRow w.heap.size 289 2 (.slice a A.length c) A.length (zry A)/\Below w.heap.size w w':=by
 obtain⟨⟨T,m,G,E,Y,U,H,Z⟩,I,hp⟩:=h;obtain⟨c0,X⟩:=G.c2;have h0:=G.lt;have J:=zc (zlX w.heap.size T none 0 0 [] w E E.lt (World.ownsRow_nil _ _ _ _) (zg _) (by rw[T.zqp,H];omega));rw[H]at J;obtain⟨O,B⟩:=zh T.pt
 rw[<-B]at c0 J;clear G E Y U H Z I hp X hs B;go_enter func180,ntmps180;go_wp2_with fail;refine J.out.mono ?_;rintro e w2 ⟨a,c,rfl,N,M,I⟩;have V:=zc N;have D:=zc M;clear N M I;go_wp2;go_ret;refine⟨a,c,?_,?_,⟨D.out.os,D.out.tape,D.out.output,D.out.size,fun k R=>D.out.block k R (by simp[Value.ownBlock])⟩⟩
 ·rfl
 ·have:=V.out;simpa using this
end
end Go.Proofs.YtmgekibncmnmiaaGreatDoor
