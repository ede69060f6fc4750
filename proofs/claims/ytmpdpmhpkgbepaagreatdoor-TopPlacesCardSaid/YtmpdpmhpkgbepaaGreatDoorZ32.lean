/- Parts for TopPlaces. Conditions: as stated. -/
import Derived.Test.YtmpdpmhpkgbepaaGreatDoorZ31
set_option linter.unusedVariables false
set_option maxRecDepth 100000
set_option maxHeartbeats 4000000
open Go.Value renaming int->zd,pointer->ze,slice->zf,agg->zg,bool->zh,tuple->zi
open Go.IntKind renaming i64->zj,u64->zk,signed->yq
open Go.Ending renaming returned->zm
open Go.Obj renaming cells->zn
open Option renaming some->zo,none->zp
open Bool renaming true->zq,false->zt
open Go renaming World->zu,Calls->zw,Value->zz
open Option.some renaming inj->zx,injEq->ya
open List renaming getElem?_eq_getElem->zy,length_append->zE,getElem?_append_left->zF,getD_eq_getElem?_getD->zH,getElem?_append_right->zV,mem_of_getElem?->zW,mem_map->yh,range->yi,mem_cons_self->yk
open Go.World renaming cell?_setCell_other->zB,cell?->zN
open Int renaming toNat_natCast->zI
open And renaming intro->zQ
open Go.Proofs.Tryz
namespace Go.Proofs.YtmpdpmhpkgbepaaGreatDoor
open Go Go.RowKit Go.ChangeShapes Go.WideShapes
variable {W w:zu}{X n B k g s p:Nat}{a:Option Addr}{l:List Ev}{S:Sc}{D M:Sc->Ev->Out->Prop}{F:Nat->Prop}{L:Lay}{d:TL}{y:Gp}
attribute [local go_sem ↓] Go.wp_at_zero Go.wp_at_succ
theorem XL{w1:zu}{D:Nat}{T:Bool}{U V J N M R I:Int}(O:w1.heap[D]?=zo (zn (qB T U V J N M R I) 49 (0,0)))(E:Bool)(H sh ns G B A st:Int):
 (((((((((w1.setCell ⟨D,0,zp⟩ (zh E)).setCell ⟨D,1,zp⟩ (zd zj H)).setCell ⟨D,2,zp⟩ (zd zk sh)).setCell ⟨D,3,zp⟩ (zd zj ns)).setCell ⟨D,4,zp⟩ (zd zj G)).setCell ⟨D,5,zp⟩ (zd zj B)).setCell ⟨D,6,zp⟩ (zd zj A)).setCell ⟨D,7,zp⟩ (zd zk st))).heap[D]?=zo (zn (qB E H sh ns G B A st) 49 (0,0))/\OA (fun k=>k=D) w1 ((((((((w1.setCell ⟨D,0,zp⟩ (zh E)).setCell ⟨D,1,zp⟩ (zd zj H)).setCell ⟨D,2,zp⟩ (zd zk sh)).setCell ⟨D,3,zp⟩ (zd zj ns)).setCell ⟨D,4,zp⟩ (zd zj G)).setCell ⟨D,5,zp⟩ (zd zj B)).setCell ⟨D,6,zp⟩ (zd zj A)).setCell ⟨D,7,zp⟩ (zd zk st)):=by
 refine⟨by have h:=(yD (i:=7) (u:=zd zk st) (yD (i:=6) (u:=zd zj A) (yD (i:=5) (u:=zd zj B) (yD (i:=4) (u:=zd zj G) (yD (i:=3) (u:=zd zj ns) (yD (i:=2) (u:=zd zk sh) (yD (i:=1) (u:=zd zj H) (yD (i:=0) (u:=zh E) O))))))));simpa using h,(((((((((OA.refl (fun k=>k=D) w1).setCell (p:=⟨D,0,zp⟩) (.inl rfl) _).setCell (p:=⟨D,1,zp⟩) (.inl rfl) _).setCell (p:=⟨D,2,zp⟩) (.inl rfl) _).setCell (p:=⟨D,3,zp⟩) (.inl rfl) _).setCell (p:=⟨D,4,zp⟩) (.inl rfl) _).setCell (p:=⟨D,5,zp⟩) (.inl rfl) _).setCell (p:=⟨D,6,zp⟩) (.inl rfl) _).setCell (p:=⟨D,7,zp⟩) (.inl rfl) _)⟩
theorem Mn{o:Option Obj}(h:W.heap[X]?=o):W.drew.heap[X]?=o:=h
theorem BD{E:Bool}{G sh ns A B D st:Int}(H:W.heap[X]?=zo (zn (qB E G sh ns A B D st) 49 (0,0)))(m:Int):(W.setCell ⟨X,1,zp⟩ (zd zj m)).heap[X]?=zo (zn (qB E m sh ns A B D st) 49 (0,0)):=by have h:=yD (i:=1) (u:=zd zj m) H;simpa using h
theorem BE{G:Bool}{E sh ns A B D st:Int}(H:W.heap[X]?=zo (zn (qB G E sh ns A B D st) 49 (0,0)))(m:Int):(W.setCell ⟨X,7,zp⟩ (zd zk m)).heap[X]?=zo (zn (qB G E sh ns A B D m) 49 (0,0)):=by have h:=yD (i:=7) (u:=zd zk m) H;simpa using h
theorem BF{A:zu}{ns:Int}(G:A.heap[X]?=zo (zn (qB zt 0 0 ns 0 0 0 0) 49 (0,0)))(sh B D E:Int):
 (((((((A.setCell ⟨X,0,zp⟩ (zh zq)).setCell ⟨X,1,zp⟩ (zd zj (-1))).setCell ⟨X,2,zp⟩ (zd zk sh)).setCell ⟨X,4,zp⟩ (zd zj B)).setCell ⟨X,5,zp⟩ (zd zj D)).setCell ⟨X,6,zp⟩ (zd zj E))).heap[X]?=zo (zn (qB zq (-1) sh ns B D E 0) 49 (0,0))/\OA (fun k=>k=X) A ((((((A.setCell ⟨X,0,zp⟩ (zh zq)).setCell ⟨X,1,zp⟩ (zd zj (-1))).setCell ⟨X,2,zp⟩ (zd zk sh)).setCell ⟨X,4,zp⟩ (zd zj B)).setCell ⟨X,5,zp⟩ (zd zj D)).setCell ⟨X,6,zp⟩ (zd zj E)):=by
 refine⟨by have h:=(yD (i:=6) (u:=zd zj E) (yD (i:=5) (u:=zd zj D) (yD (i:=4) (u:=zd zj B) (yD (i:=2) (u:=zd zk sh) (yD (i:=1) (u:=zd zj (-1)) (yD (i:=0) (u:=zh zq) G))))));simpa using h,(((((((OA.refl (fun k=>k=X) A).setCell (p:=⟨X,0,zp⟩) (.inl rfl) _).setCell (p:=⟨X,1,zp⟩) (.inl rfl) _).setCell (p:=⟨X,2,zp⟩) (.inl rfl) _).setCell (p:=⟨X,4,zp⟩) (.inl rfl) _).setCell (p:=⟨X,5,zp⟩) (.inl rfl) _).setCell (p:=⟨X,6,zp⟩) (.inl rfl) _)⟩
theorem Ap(n:Nat)(x:Gp)(b:Nat)(w:zu)(F:Nat->Prop)(s:Nat)(S:Sc)(L:Lay)(h:yK w F s S L)(ok:S.Ok b)(hn:S.gs[n]?=zo x)(H2:x.there=zq):
 zw prog 15 #[ptr s,zd zj n] w (FZ w S n):=by
 have K8:=ok.RY;have m0:=ok.gl;have k9:=ok.ps;have m4:=(yy hn).1;obtain⟨w1,h9⟩:=yB (w.alloc (zn (qB zt 0 0 0 0 0 0 0) 49))
 have H8:Below w.heap.size w w1:=by rw[h9];exact yE w _
 have kj:w1.heap[w.heap.size]?=zo (zn (qB zt 0 0 0 0 0 0 0) 49 (0,0)):=by rw[h9];exact heap_alloc_new w _
 have HS:Hid (yK w (fun k=>F k/\k<w.heap.size) s S L):=yw h.PA;have kc:=yw ok;have h1:=h.behind H8;have T:=yw (zQ hn H2);have kk:S.grp? n=zo n:=by unfold Sc.grp?;rw[if_pos ⟨by omega,by omega,by rw[zI,Sc.PE hn];exact H2⟩,zI]
 obtain⟨H9,G,kl,-⟩:=h1.bV;have K1:=yw (KO w1 G L.bk n S.book kl (by omega));have H:=h1.RZ.2;have hm:Hid (And (Below w.heap.size w w1) (w1.heap[w.heap.size]?=zo (zn (qB zt 0 0 0 0 0 0 0) 49 (0,0)))):=yw (zQ H8 kj);obtain⟨D,hD⟩:=yB w.heap.size
 have HD:=yw hD;clear h kj H8 kl hn H2 h1;go_enter func15,ntmps15;go_upto_region 1 with(fail)
 rw[show w.alloc (zn #[zh zt,zd zj 0,zd zk 0,zd zj 0,zd zj 0,zd zj 0,zd zj 0,zd zk 0] 49)=w1 from h9.symm,<-hD];clear h9 hD;go_wp2_with fail;refine K1.out.mono ?_;rintro z K ⟨rfl,M⟩;obtain rfl:=M.symm;obtain⟨K,M⟩:=yB (w1.alloc (zn (qB zt 0 0 (S.book.bg n) 0 0 0 0) 49))
 have H0:Below w1.heap.size w1 K:=by rw[M];exact yE w1 _
 have hp:K.heap[w1.heap.size]?=zo (zn (qB zt 0 0 (S.book.bg n) 0 0 0 0) 49 (0,0)):=by rw[M];exact heap_alloc_new w1 _
 obtain⟨X,hX⟩:=yB w1.heap.size
 have P:=yw (yC hm.out.1 H0 hm.out.1.size);have h2:=HS.out.behind P.out;have k4:=yw (xG n K _ s S L h2 (by omega));rw[kk,show Yg L.gb (zo n)=ptr (L.gb n)from rfl]at k4;rw[<-hX]at hp;have R:=yw (zQ hp (zQ H0 hX));have kq:=yw M;clear H0 H9 kk M hX;go_upto_region 4 with(fail)
 rw[show w1.alloc (zn #[zh zt,zd zj 0,zd zk 0,zd zj (S.book.bg n),zd zj 0,zd zj 0,zd zj 0,zd zk 0] 49)=K from kq.out.symm,<-R.out.2.2];go_wp2_with fail;refine k4.out.mono ?_;rintro z A ⟨rfl,K2⟩;obtain rfl:=K2.symm;have kg:w.heap.size<=X:=by have:=R.out.2.2;have:=hm.out.1.size;omega
 have Z:=yw kg;have ha:Hid (∀W,OA (fun k=>k=X) K W->yK W (fun k=>F k/\k<w.heap.size) s S L):=yw fun W I=>h2.kept fun k hk hf=>I.block k hk (by have:=hf.2;omega);obtain⟨bv,hl⟩:∃bv:Option Addr,bv=(if x.band.isSome=zq then zo ⟨L.bb n,0,zp⟩else zp):=⟨_,rfl⟩
 have ks:Hid (∀W,OA (fun k=>k=X) K W->zw prog 28 #[ze bv] W fun z w'=>∃v,z=zm (zd zj v)/\w'=W):=yw fun W I=>by rw[hl];exact BC (ha.out W I) T.out.1
 have kp:Hid (∀W,OA (fun k=>k=X) K W->zw prog 29 #[ze bv] W fun z w'=>∃v,z=zm (zd zj v)/\(∀d,x.band=zo d->v=d.spent)/\w'=W):=yw fun W I=>by rw[hl];exact XK (ha.out W I) T.out.1
 obtain⟨y0,y1,y2,y3,y4,y5,-⟩:=(h2.gp T.out.1).c7;have yl:=(h2.gp T.out.1).lt;rw[<-hl]at y5;clear hl;have k7:X≠L.gb n:=fun e=>by have h3:=(HS.out.gp T.out.1).lt;omega
 obtain⟨Y,hY⟩:=yB (L.gb n)
 have HY:=yw hY;rw[<-hY]at y0 y1 y2 y3 y4 y5 yl k7 ⊢;have K5:Y≠X:=fun e=>k7 e.symm;obtain⟨x0,x1,x2,x3,x4,x5,x6,x7,xl,xf⟩:=vS R.out.1;have ki:=yw (zQ y1 (zQ y2 yl));clear h2 hp hY H kg;go_upto_region 7 with(fail)
 go_cut []from 27 to 50 (fun wx=>∃Q V:Int,(∀d,x.band=zo d->V=d.spent)/\wx.heap[X]?=zo (zn (qB zq (-1) x.shares (S.book.bg n) x.quota Q V 0) 49 (0,0))/\OA (fun k=>k=X) K wx)
 case first=>
  go_region_held3 (fun w'=>w'.cell? ⟨Y,3,zp⟩=zo (zd zk x.shares)/\w'.cell? ⟨Y,4,zp⟩=zo (zd zj x.quota)/\w'.cell? ⟨Y,5,zp⟩=zo (ze bv)) (go_keep)
   (first
    | (
     go_at_call 28;refine(ks.out _ (by first|exact(OA.refl _ _).drew|exact OA.refl _ _|exact(OA.refl _ _).drewN _)).mono ?_;rintro z J ⟨Q,rfl,ky⟩;obtain rfl:=ky.symm)
    | (
     go_at_call 29;refine(kp.out _ (by first|exact(OA.refl _ _).drew|exact OA.refl _ _|exact(OA.refl _ _).drewN _)).mono ?_;rintro z w6 ⟨V,rfl,ho,kn⟩;have Hg:=yw ho;obtain rfl:=kn.symm))
  all_goals
   go_wp2_with fail;go_meet
   case rel=>
    obtain⟨e1,e2⟩:=BF R.out.1 x.shares x.quota Q V;exact⟨Q,V,Hg.out,Mn e1,e2.drew⟩
 case rest=>
  obtain⟨Q,V,ho,k2,O⟩:=hcut
  rename zu=>A
  have l:=yw (zQ ho (zQ k2 O));have kt:=O.size;have h3:=ha.out A O;have ke:Hid (Below w.heap.size w A):=yw (P.out.trans (O.below P.out.size fun k hk=>by rw[hk];exact Z.out));have h0:Hid (∀W,Below A.heap.size A W->zw prog 30 #[ptr L.t,zg #[zd zj x.hi,zd zj x.hg]] W fun z w'=>∃(i g e:Int),z=zm (zi #[zg #[zd zj i,zd zj g],zd zj e])/\(e≠0∨(e=0/\∃(j m:Nat) (y:Gp),i=j/\j<32/\S.pl j=zo m/\S.gs[m]?=zo y))/\Below W.heap.size W w'):=yw fun W hb=>LJ kc.out T.out.1 T.out.2 W L.t L.tp (h3.behind hb).dW.1;obtain⟨-,s5,H⟩:=h3.dW;replace y1:=(O.block Y yl K5)
  have r:A.cell? ⟨Y,1,zp⟩=zo (zd zj x.hi):=by rw[<-ki.out.1];simp[zN,y1]
  have q:A.cell? ⟨Y,2,zp⟩=zo (zd zj x.hg):=by rw[<-ki.out.2.1];simp[zN,y1]
  have N:=yz yl kt;clear y0 y1 y2 y3 y4 y5 yl x0 x1 x2 x3 x4 x5 x6 x7 xl xf ho k2 O h3;go_upto_region 8 with(fail)
  go_cut [7,8]from 52 to 62 (fun v7 v8 wx=>∃(U:Nat) (i g e:Int),v7=ptr U/\v8=zd zj e/\(e≠0∨(e=0/\∃(j m:Nat) (y:Gp),i=j/\j<32/\S.pl j=zo m/\S.gs[m]?=zo y))/\A.heap.size<=U/\wx.heap[U]?=zo (zn #[zd zj i,zd zj g] 78 (0,0))/\Below A.heap.size A wx)
  case first=>
   go_region_held3 (fun w'=>w'.cell? ⟨s,5,zp⟩=zo (ptr L.t)/\w'.cell? ⟨Y,1,zp⟩=zo (zd zj x.hi)/\w'.cell? ⟨Y,2,zp⟩=zo (zd zj x.hg)) (go_keep)
    (first
     | (
      go_at_call 30;refine(h0.out _ (by first|exact Below.refl _ _|exact yI (Below.refl _ _))).mono ?_;rintro z J ⟨i,g,e,rfl,hi,E⟩;have H5:=yw hi;have B:Hid (Below A.heap.size A J):=yw ⟨E.os,E.tape,E.output,E.size,E.block⟩;replace s5:=(B.out.cell (p:=⟨s,5,zp⟩) H).trans s5;replace r:=(B.out.cell (p:=⟨Y,1,zp⟩) N).trans r;replace q:=(B.out.cell (p:=⟨Y,2,zp⟩) N).trans q;clear hi E)
     | (
      go_at_call 30;refine(h0.out _ (by first|exact yE A _|exact yI (yE A _))).mono ?_;rintro z J ⟨i,g,e,rfl,hi,E⟩;have H5:=yw hi;have H7:Below (A.alloc (zn #[zd zj 0,zd zj 0] 78)).heap.size (A.alloc (zn #[zd zj 0,zd zj 0] 78)) J:=⟨E.os,E.tape,E.output,E.size,E.block⟩
      have B:Hid (Below A.heap.size A J):=yw (yC (yE A _) H7 (by simp));have c:J.heap[A.heap.size]?=zo (zn #[zd zj 0,zd zj 0] 78 (0,0)):=(H7.block _ (by simp)).trans (heap_alloc_new A _);have K4:=yw c;have v0:J.cell? ⟨A.heap.size,0,zp⟩=zo (zd zj 0):=by simp[zN,c]
      have v1:J.cell? ⟨A.heap.size,1,zp⟩=zo (zd zj 0):=by simp[zN,c]
      have vf:∀j,J.frozen? ⟨A.heap.size,j,zp⟩=zt:=by intro j;simp[World.frozen?,c]
      have n1:s≠A.heap.size:=Nat.ne_of_lt H;have n2:A.heap.size≠s:=fun e=>n1 e.symm;have n3:Y≠A.heap.size:=Nat.ne_of_lt N;have n4:A.heap.size≠Y:=fun e=>n3 e.symm;replace s5:=(B.out.cell (p:=⟨s,5,zp⟩) H).trans s5;replace r:=(B.out.cell (p:=⟨Y,1,zp⟩) N).trans r;replace q:=(B.out.cell (p:=⟨Y,2,zp⟩) N).trans q;clear hi E c H7))
   all_goals
    go_wp2_with fail;go_meet
    case rel=>
     first
      | exact⟨_,i,g,e,rfl,rfl,H5.out,B.out.size,heap_alloc_new J _,yC B.out (yE J _) B.out.size⟩
      | exact⟨_,i,g,e,rfl,rfl,H5.out,yA _,yD (yD K4.out),(B.out.setCell (p:=⟨A.heap.size,0,zp⟩) (yA _) _).setCell (p:=⟨A.heap.size,1,zp⟩) (yA _) _⟩
      | fail
  case rest=>
   obtain⟨U,i,g,e,rfl,rfl,hi,hU,Hy,C⟩:=hcut
   rename zu=>w4
   have kf:=yw (yC ke.out C ke.out.size);have k0:=(C.block X (yx l.out.2.1).1).trans l.out.2.1;have h4:yK w4 (fun k=>F k/\k<w.heap.size) s S L:=(ha.out A l.out.2.2).behind C;obtain⟨hh,H4,k6,HI⟩:=Qf h4 k0 (zQ hU (zQ Hy C)) hi;clear hi hU Hy C k0 h4 s5 r q N H;obtain⟨eb,kz⟩:∃eb,(e == 0)=eb:=⟨_,rfl⟩
   have k8:=yw kz;go_upto_if 64 with(fail)
   go_cut []from 65 to 75 (fun wx=>∃pa:Int,wx.heap[X]?=zo (zn (qB zq pa x.shares (S.book.bg n) x.quota Q V 0) 49 (0,0))/\OA (fun k=>k=X) w4 wx)
   case first=>
    rcases HI.out with he|⟨he,j,m,y,k5,hj,kd,hy⟩
    .have hq:eb=zt:=by rw[<-k8.out];simp[he]
     subst hq;go_wp2_with fail;go_meet
     case rel=>exact⟨-1,H4.out,.refl _ _⟩
    .have hq:eb=zq:=by rw[<-k8.out,he];rfl
     subst hq;have u0:w4.cell? ⟨U,0,zp⟩=zo (zd zj j):=by simp[zN,k6.out.2.1,k5]
     have sj:=hh.out.pl_ hj;rw[kd]at sj;obtain⟨z0,-⟩:=(hh.out.gp hy).c7;have zl:=(hh.out.gp hy).lt;obtain⟨Zb,hw⟩:=yB (L.gb m)
     have m3:w4.cell? ⟨s,9+j,zp⟩=zo (ptr Zb):=by rw[hw];exact sj
     rw[<-hw]at z0 zl;obtain⟨x0,x1,x2,x3,x4,x5,x6,x7,xl,xf⟩:=vS H4.out;have m2:(j:Int) <32:=by omega
     clear sj k5 kd hy hw;go_wp2_with fail;go_region
     all_goals
      go_wp2_with fail;go_meet
      case rel=>
       have I:=(OA.refl (fun k=>k=X) w4).setCell (p:=⟨X,1,zp⟩) (.inl rfl) (zd zj (m:Int));exact⟨m,Mn (BD H4.out m),I.drew⟩
   case rest=>
    obtain⟨pa,k1,h8⟩:=hcut
    rename zu=>J
    have ka:=yw (zQ k1 h8);have h5:yK J (fun k=>F k/\k<w.heap.size) s S L:=hh.out.kept fun k hk hf=>h8.block k hk (by have:=hf.2;have:=Z.out;omega);have kx:=yw h5;have B:Hid (Below w.heap.size w J):=yw (kf.out.trans (h8.below kf.out.size fun k hk=>by rw[hk];exact Z.out));have f:0<S.ps:=by omega
    obtain⟨rh,K7,hr⟩:=h5.eD f;have kr:=yw hr;obtain⟨h7,-,-⟩:=h5.SK f hr;have H:=h5.RZ.2;obtain⟨ps,a⟩:=yB S.ps
    have K0:=yw a;rw[<-a]at h7 k9 f;have K9:=k9.2;clear k1 h8 h5 hr a;go_wp2_with fail;go_loopw [9,10,81] (fun _ _ i wr=>∃(k:Nat) (st:Int),k<=ps/\i=zd zj k/\wr.heap[X]?=zo (zn (qB zq pa x.shares (S.book.bg n) x.quota Q V st) 49 (0,0))/\OA (fun k=>k=X) J wr) (fun _ _ i _=>ps-(intOf i).toNat)
    case atStart=>exact⟨0,0,by omega,rfl,ka.out.1,.refl _ _⟩
    case round=>
     obtain⟨k,st,hk,rfl,hx,I⟩:=hrel;have hc:=yw (zQ hx I);have h6:yK wr (fun k=>F k/\k<w.heap.size) s S L:=kx.out.kept fun k hk hf=>I.block k hk (by have:=hf.2;have:=Z.out;omega);have k3:Hid (Below w.heap.size w wr):=yw (B.out.trans (I.below B.out.size fun k hk=>by rw[hk];exact Z.out));clear h7 H;by_cases kv:k<ps
     .have kh:k<S.ps:=by rw[<-K0.out];exact kv
      have m1:(k:Int) <(ps:Int):=by omega
      obtain⟨-,rk,rl⟩:=h6.SK kh kr.out;have km:=yw (Ao h6 kc.out T.out.1 T.out.2 kh);obtain⟨z0,z1,-⟩:=(h6.gp T.out.1).c7;have zl:=(h6.gp T.out.1).lt;rw[<-HY.out]at z0 z1 zl;obtain⟨x0,x1,x2,x3,x4,x5,x6,x7,xl,xf⟩:=vS hx;clear h6 hx I;go_wp2_with fail;refine km.out.mono ?_;rintro z wq ⟨v,rfl,K6⟩;obtain rfl:=K6.symm;cases v with
      | false=>
       go_wp2_with fail;go_roundw
       case rel=>exact⟨k+1,st,by omega,by go_num,hc.out.1,hc.out.2⟩
       case measure=>simp[intOf];omega
      | true=>
       go_wp2_with fail;go_roundw
       case rel=>
        have I:=fun u=>hc.out.2.setCell (p:=⟨X,7,zp⟩) (.inl rfl) u;exact⟨k+1,_,by omega,by go_num,BE hc.out.1 _,I _⟩
       case measure=>simp[intOf];omega
     .have kw:k=ps:=by omega
      subst kw;have o:=hm.out.2;rw[<-HD.out]at o;have H6:D≠X:=by have:=R.out.2.2;have:=(yx o).1;omega
      have H1:=(R.out.2.1.block D (yx o).1).trans o;have hu:=(l.out.2.2.block D (yx H1).1 H6).trans H1;have H3:=(k6.out.2.2.block D (yx hu).1).trans hu;have hz:=(ka.out.2.block D (yx H3).1 H6).trans H3;have hv:=(I.block D (yx hz).1 H6).trans hz;have ku:=yw hv;obtain⟨x0,x1,x2,x3,x4,x5,x6,x7,xl,xf⟩:=vS hx;obtain⟨d0,d1,d2,d3,d4,d5,d6,d7,dl,df⟩:=vS hv;clear o H1 hu H3 hz hv hx I h6;go_wp2;obtain⟨K3,ko⟩:=XL ku.out zq pa x.shares (S.book.bg n) x.quota Q V st
      obtain⟨q0,q1,q2,q3,q4,q5,q6,q7,-,-⟩:=vS K3;refine bodyPost_ret (v:=zg (qB zq pa x.shares (S.book.bg n) x.quota Q V st)) ?_ rfl ⟨pa,x.shares,x.quota,Q,V,st,rfl,fun x' d kb hd=>?_,k3.out.trans (ko.below k3.out.size fun k hk=>by rw[hk,HD.out];exact yA _)⟩
      .simp[results,results15,go_sem,q0,q1,q2,q3,q4,q5,q6,q7]
      .rw[T.out.1]at kb;obtain rfl:=zx kb;exact l.out.1 d hd
theorem XP:(prog.info? 35).map (fun i=>(i.zero,i.size,i.bytes))=zo (zo (zg #[zd zj 0,zd zj 0,zd zj 0,zd zj 0,zd zj 0,zd zk 0]),6,48):=by kernel_rfl
theorem As:(prog.info? 31).map (fun i=>(i.zero,i.size,i.bytes))=zo (zo (zg #[zd zj 0,zd zj 0]),2,16):=by kernel_rfl
def vT(l:List Ev):List zz:=l.flatMap fun e=> [zd zj e.kind,zd zj e.a,zd zj e.b,zd zj e.n,zd zj e.m,zd zk e.mask]
theorem XQ(l:List Ev)(e:Ev):vT (l++ [e])=vT l++ [zd zj e.kind,zd zj e.a,zd zj e.b,zd zj e.n,zd zj e.m,zd zk e.mask]:=by simp[vT]
theorem Mr:∀(l:List Ev) (k:Nat) (e:Ev),l[k]?=zo e->(vT l)[k*6]?=zo (zd zj e.kind)/\(vT l)[k*6+1]?=zo (zd zj e.a)/\(vT l)[k*6+2]?=zo (zd zj e.b)/\(vT l)[k*6+3]?=zo (zd zj e.n)/\(vT l)[k*6+4]?=zo (zd zj e.m)/\(vT l)[k*6+5]?=zo (zd zk e.mask)
 | [],k,e,h=>by simp at h
 | d::l,0,e,h=>by simp at h;subst h;simp[vT]
 | d::l,k+1,e,h=>by
  have B:l[k]?=zo e:=by simpa using h
  obtain⟨G,D,I,E,H,A⟩:=Mr l k e B;have J:vT (d::l)= [zd zj d.kind,zd zj d.a,zd zj d.b,zd zj d.n,zd zj d.m,zd zk d.mask]++vT l:=rfl;rw[J];refine⟨?_,?_,?_,?_,?_,?_⟩
  .rw[zV (by simp;omega)];simpa[show(k+1)*6-6=k*6 by omega]using G
  .rw[zV (by simp;omega)];simpa[show(k+1)*6+1-6=k*6+1 by omega]using D
  .rw[zV (by simp;omega)];simpa[show(k+1)*6+2-6=k*6+2 by omega]using I
  .rw[zV (by simp;omega)];simpa[show(k+1)*6+3-6=k*6+3 by omega]using E
  .rw[zV (by simp;omega)];simpa[show(k+1)*6+4-6=k*6+4 by omega]using H
  .rw[zV (by simp;omega)];simpa[show(k+1)*6+5-6=k*6+5 by omega]using A
def Bw(w:zu)(a:Option Addr)(l:List Ev):Prop:=∀k e,l[k]?=zo e->∃r,a=zo ⟨r,0,zp⟩/\r<w.heap.size/\w.cell? ⟨r,k*6,zp⟩=zo (zd zj e.kind)/\w.cell? ⟨r,k*6+1,zp⟩=zo (zd zj e.a)/\w.cell? ⟨r,k*6+2,zp⟩=zo (zd zj e.b)/\w.cell? ⟨r,k*6+3,zp⟩=zo (zd zj e.n)/\w.cell? ⟨r,k*6+4,zp⟩=zo (zd zj e.m)/\w.cell? ⟨r,k*6+5,zp⟩=zo (zd zk e.mask)
theorem Bw.kept{w':zu}(h:Bw w a l)(hb:∀r,a=zo ⟨r,0,zp⟩->r<w.heap.size->w'.heap[r]?=w.heap[r]?)(hs:w.heap.size<=w'.heap.size):Bw w' a l:=fun k e B=>by
 obtain⟨r,A,D,J,H,E,M,G,I⟩:=h k e B;have c:∀j,w'.cell? ⟨r,j,zp⟩=w.cell? ⟨r,j,zp⟩:=fun j=>by simp[zN,hb r A D]
 exact⟨r,A,by omega,(c _).trans J,(c _).trans H,(c _).trans E,(c _).trans M,(c _).trans G,(c _).trans I⟩
theorem Bw.behind{w':zu}(h:Bw w a l)(hb:Below w.heap.size w w'):Bw w' a l:=h.kept (fun r _ A=>hb.block r A) hb.size
theorem Bw.SW{base:Nat}{t:TypeId}{c:Nat}(A:w.ownsRow base t 6 (zf a n c) n (vT l)):Bw w a l:=fun k x U=>by
 obtain⟨H,D,G,T,I,J⟩:=Mr l k x U;rcases A.2 with⟨E,B⟩|⟨g,h8,cur,E,hb,O,_⟩
 .have M:=A.1;have h6:=(yy D).1;rw[B]at M;omega
 .have N:=(yx O).1;injection E with e1 e2 e3
  subst e1;have at_:∀j u,(vT l)[j]?=zo u->w.cell? ⟨g,j,zp⟩=zo u:=fun j u R=>by have:=A.cells (g:=g) rfl j u R;rw[Xq]at this;exact this
  exact⟨g,rfl,N,at_ _ _ H,at_ _ _ D,at_ _ _ G,at_ _ _ T,at_ _ _ I,at_ _ _ J⟩
def Kf(l:List (Int×Int)):List zz:=l.flatMap fun a=> [zd zj a.1,zd zj a.2]
theorem XR(l:List (Int×Int))(a:Int×Int):Kf (l++ [a])=Kf l++ [zd zj a.1,zd zj a.2]:=by simp[Kf]
theorem Ms:∀(l:List (Int×Int)) (k:Nat) (a:Int×Int),l[k]?=zo a->(Kf l)[k*2]?=zo (zd zj a.1)/\(Kf l)[k*2+1]?=zo (zd zj a.2)
 | [],k,a,h=>by simp at h
 | d::l,0,a,h=>by simp at h;subst h;simp[Kf]
 | d::l,k+1,a,h=>by
  have A:l[k]?=zo a:=by simpa using h
  obtain⟨D,B⟩:=Ms l k a A;have E:Kf (d::l)= [zd zj d.1,zd zj d.2]++Kf l:=rfl;rw[E];refine⟨?_,?_⟩
  .rw[zV (by simp;omega)];simpa[show(k+1)*2-2=k*2 by omega]using D
  .rw[zV (by simp;omega)];simpa[show(k+1)*2+1-2=k*2+1 by omega]using B
def LN(w:zu)(a:Option Addr)(l:List (Int×Int)):Prop:=∀k e,l[k]?=zo e->∃r,a=zo ⟨r,0,zp⟩/\r<w.heap.size/\w.cell? ⟨r,k*2,zp⟩=zo (zd zj e.1)/\w.cell? ⟨r,k*2+1,zp⟩=zo (zd zj e.2)
theorem LN.SW{base:Nat}{t:TypeId}{c:Nat}{l:List (Int×Int)}(A:w.ownsRow base t 2 (zf a n c) n (Kf l)):LN w a l:=fun k x N=>by
 obtain⟨G,D⟩:=Ms l k x N;rcases A.2 with⟨E,B⟩|⟨g,h2,cur,E,hb,J,_⟩
 .have H:=A.1;have h6:=(yy D).1;rw[B]at H;omega
 .have I:=(yx J).1;injection E with e1 e2 e3
  subst e1;have at_:∀j u,(Kf l)[j]?=zo u->w.cell? ⟨g,j,zp⟩=zo u:=fun j u M=>by have:=A.cells (g:=g) rfl j u M;rw[Xq]at this;exact this
  exact⟨g,rfl,I,at_ _ _ G,at_ _ _ D⟩
def Ev.plain(e:Ev):Prop:=e.kind=1∨e.kind=5∨e.kind=6∨e.kind=11
def Sc.iV(S:Sc)(e:Ev):Out:=if e.kind=1 then S.grow e else if e.kind=5 then S.TQ e else if e.kind=6 then S.spawn e else S.PP e
def Sc.doF(S:Sc)(e:Ev):Sc×Int×Int:=if(S.iV e).2.2=0 then((S.iV e).1.settle,(S.iV e).2.1,0)else((S.iV e).1,0,(S.iV e).2.2)
def Sc.bD:Sc->List Ev->Sc×List (Int×Int)
 | s,[]=>(s,[])
 | s,e::r=>(((s.doF e).1.bD r).1,(s.doF e).2::((s.doF e).1.bD r).2)
theorem LO{B:Sc}{e:Ev}{n f:Int}(h:S.gB D M e B n f)(hk:e.plain):(B,n,f)=S.doF e:=by
 rcases h with⟨A,_⟩|⟨o,E,H⟩
 .unfold Ev.plain at hk;omega
 .have G:o=S.iV e:=by
   unfold Sc.iV;unfold Ev.plain at hk;rcases E with⟨k,h⟩|⟨k,h⟩|⟨k,h⟩|⟨k,h⟩|⟨k,h⟩|⟨k,h⟩|⟨k,h⟩|⟨k,h⟩|⟨k,h⟩|⟨k,h⟩|⟨k,h⟩|⟨k,h⟩|⟨k,h⟩|⟨k,h⟩|⟨k,h⟩
   .rw[if_pos k];exact h
   .omega
   .omega
   .omega
   .rw[if_neg (by omega),if_pos k];exact h
   .rw[if_neg (by omega),if_neg (by omega),if_pos k];exact h
   .omega
   .omega
   .omega
   .omega
   .rw[if_neg (by omega),if_neg (by omega),if_neg (by omega)];exact h
   .omega
   .omega
   .omega
   .omega
  subst G;unfold Sc.doF;rcases H with⟨A,rfl,rfl,rfl⟩|⟨A,rfl,rfl,rfl⟩
  .rw[if_pos A]
  .rw[if_neg A]
inductive Sc.AN(D M:Sc->Ev->Out->Prop):Sc->List Ev->Sc->List (Int×Int)->Prop
 | nil (S:Sc):Sc.AN D M S [] S []
 | cons {S S1 S2:Sc} {e:Ev} {r:List Ev} {n f:Int} {l:List (Int×Int)} (h:S.gB D M e S1 n f) (t:Sc.AN D M S1 r S2 l):Sc.AN D M S (e::r) S2 ((n,f)::l)
theorem BJ{A:Sc}{a:List (Int×Int)}(h:Sc.AN D M S l A a)(hk:∀e∈l,e.plain):(A,a)=S.bD l:=by
 induction h with
 | nil S=>rfl
 | cons h t ih=>
  have G:=LO h (hk _ yk);have E:=ih fun e B=>hk e (List.mem_cons_of_mem _ B);unfold Sc.bD;rw[<-G];simp only;rw[<-E]
def vz:List Ev:= [⟨1,0,0,1024,0,0⟩,⟨1,0,0,1024,0,0⟩,⟨5,1,0,30,10,0⟩,⟨6,1,0,0,0,1⟩,⟨6,2,0,0,0,1⟩,⟨11,0,0,10,0,0⟩,⟨11,0,0,10,0,0⟩]
theorem Pe:∀e∈vz,e.plain:=by unfold Ev.plain;decide
theorem BK:∀e∈vz,e.Ok:=by unfold Ev.Ok;decide
theorem XS:((Sc.new 1 100 0 0 100).bD vz).2= [(1,0),(2,0),(0,0),(0,0),(1,0),(0,0),(1,0)]:=by decide+kernel
theorem XT:((Sc.new 1 100 0 0 100).bD vz).1.book.bt 1=10:=by decide+kernel
theorem XU:(((Sc.new 1 100 0 0 100).bD vz).1.g 1).band.map (fun b=>b.spent)=zo 10:=by decide+kernel
theorem zr:(((Sc.new 1 100 0 0 100).bD vz).1.g 1).there=zq:=by decide+kernel
theorem XV:((Sc.new 1 100 0 0 100).bD vz).1.gs.length=3/\((Sc.new 1 100 0 0 100).bD vz).1.ts.length=2:=by decide+kernel
def Jz(A:Nat->Nat)(w:zu)(B bd ln:Nat)(k:Nat):Nat:=if k=B then 2 else if k=bd then 3 else if k=ln then 4 else yV A w 2 k
def NK(F:Nat->Prop)(w w':zu)(B bd ln:Nat)(k:Nat):Prop:=Ext F w w' k∨k=B∨k=bd∨k=ln
theorem Pg{w':zu}{D:Nat->Nat}{d bd ln:Nat}(hk:k<w.heap.size)(A:Own F D d k)(G:¬F B)(hd:¬F bd)(E:¬F ln):Own (NK F w w' B bd ln) (Jz D w B bd ln) d k:=
 ⟨.inl (.inl A.1),by unfold Jz;rw[if_neg (by rintro rfl;exact G A.1),if_neg (by rintro rfl;exact hd A.1),if_neg (by rintro rfl;exact E A.1)];unfold yV;rw[if_pos hk];exact A.2⟩
theorem Kg{X:zu->(Nat->Prop)->Prop}(hk:∀{w w':zu} {G:Nat->Prop},X w G->xz G w w'->X w' G)(J:∀{w:zu} {G I:Nat->Prop},X w G->(∀k,k<w.heap.size->G k->I k)->X w I)
 {w':zu}  {E:Nat->Nat} {d bd ln:Nat} (h:X w (Own F E d)) (D:∀k,k<w.heap.size->Own F E d k->w'.heap[k]?=w.heap[k]?) (M:¬F B) (hd:¬F bd) (H:¬F ln):
 X w' (Own (NK F w w' B bd ln) (Jz E w B bd ln) d):=
 J (hk (J h (fun k H A=>(⟨A,H⟩:Own F E d k/\k<w.heap.size))) (fun k H A=>D k A.2 A.1)) fun k _ A=>Pg A.2 A.1 M hd H
theorem Ax(gb:Nat->Nat)(l:List Gp)(g:Gp)(B:Nat)(D:g.there=zq):xL (OV gb l.length B) (l++ [g])=xL gb l++ [zo B]:=by
 unfold xL;rw[zE,List.length_singleton,List.range_succ,List.map_append]
 congr 1
 .refine List.map_congr_left fun n E=>?_;have A:=List.mem_range.1 E;rw[yQ _ _ (by omega)];rw[zH,zH,zF A]
 .simp[yR,D]
theorem XX{l:List Gp}{g x:Gp}(h:(l++ [g])[n]?=zo x):(n<l.length/\l[n]?=zo x)∨(n=l.length/\x=g):=by
 by_cases A:n<l.length
 .rw[zF A]at h;exact .inl ⟨A,h⟩
 .have D:=(yy h).1;have B:n=l.length:=by simp at D;omega
  subst B;simp at h;exact .inr ⟨rfl,h.symm⟩
theorem Ph{f:Nat->Nat}(E:∀a c,a<n->c<n->f a=f c->a=c)(D:∀k,k<n->f k≠B):∀a c,a<n+1->c<n+1->OV f n B a=OV f n B c->a=c:=by
 intro a c ha hc A;unfold OV at A;split at A
 .rename_i e1;split at A
  .omega
  .exact absurd A.symm (D c (by omega))
 .split at A
  .exact absurd A (D a (by omega))
  .exact E a c (by omega) (by omega) A
theorem yK.iW(h:yK w F s S L)(bd ln:Nat)(hd:¬F bd)(Z:¬F ln):
 ∃bb lb,yK w F s S { L with bb:=bb,lb:=lb }/\(∀k,k<S.gs.length->bb k≠bd)/\∀k,k<S.gs.length->lb k≠ln:=by
 obtain⟨M,h⟩:=h;have H:∀(f:Nat->Nat) (x:Nat),(∀n m,n<S.gs.length->m<S.gs.length->f n=f m->n=m)->(∀(n:Nat) (g:Gp),S.gs[n]?=zo g->g.band.isSome=zq->f n<w.heap.size/\f n≠x)->
  ∃f':Nat->Nat,(∀(n:Nat) (g:Gp),S.gs[n]?=zo g->g.band.isSome=zq->f' n=f n)/\(∀n m,n<S.gs.length->m<S.gs.length->f' n=f' m->n=m)/\∀k,k<S.gs.length->f' k≠x:=by
  intro f x c E;refine⟨fun n=>if(S.g n).band.isSome=zq then f n else w.heap.size+x+1+n,fun n g B hb=>?_,fun n m T U d=>?_,fun k hk=>?_⟩
  .show(if(S.g n).band.isSome=zq then f n else w.heap.size+x+1+n)=f n;rw[Sc.PE B,if_pos hb]
  .have A:(if(S.g n).band.isSome=zq then f n else w.heap.size+x+1+n)=if(S.g m).band.isSome=zq then f m else w.heap.size+x+1+m:=d
   obtain⟨y,I⟩:∃y,S.gs[n]?=zo y:=⟨_,zy T⟩
   obtain⟨z,R⟩:∃z,S.gs[m]?=zo z:=⟨_,zy U⟩
   rw[Sc.PE I,Sc.PE R]at A;by_cases D:y.band.isSome=zq
   .have:=(E n y I D).1;rw[if_pos D]at A;by_cases G:z.band.isSome=zq
    .rw[if_pos G]at A;exact c n m T U A
    .rw[if_neg G]at A;omega
   .rw[if_neg D]at A;by_cases G:z.band.isSome=zq
    .have:=(E m z R G).1;rw[if_pos G]at A;omega
    .rw[if_neg G]at A;omega
  .show(if(S.g k).band.isSome=zq then f k else w.heap.size+x+1+k)≠x;obtain⟨y,I⟩:∃y,S.gs[k]?=zo y:=⟨_,zy hk⟩
   rw[Sc.PE I];by_cases D:y.band.isSome=zq
   .rw[if_pos D];exact(E k y I D).2
   .rw[if_neg D];omega
 have J:∀(n:Nat) (g:Gp),S.gs[n]?=zo g->g.band.isSome=zq->L.bb n<w.heap.size/\L.bb n≠bd:=fun n g B hb=>by obtain⟨b,hb⟩:=Option.isSome_iff_exists.1 hb;obtain⟨o,k⟩:=h.bs.bd n g b B hb;exact⟨k.lt,fun e=>hd (by rw[<-e];exact o.1)⟩
 have N:∀(n:Nat) (g:Gp),S.gs[n]?=zo g->g.band.isSome=zq->L.lb n<w.heap.size/\L.lb n≠ln:=fun n g B hb=>by obtain⟨o,k⟩:=h.ls.ln n g B hb;exact⟨k.lt,fun e=>Z (by rw[<-e];exact o.1)⟩
 obtain⟨bb,O,a,X⟩:=H L.bb bd h.bs.inj J;obtain⟨lb,V,j,Y⟩:=H L.lb ln h.ls.inj N;refine⟨bb,lb,⟨M,⟨h.sx.ty,h.sx.own,h.sx.c0,h.sx.c1,h.sx.c2,h.sx.c3,h.sx.c4,h.sx.c5,h.sx.c6,h.sx.c7,h.sx.c8,h.sx.pl,h.sx.at_,h.sx.vh,h.sx.vc,h.sx.bk⟩,h.ts,⟨h.gs.row,fun n g B=>⟨(h.gs.gp n g B).1,?_⟩,h.gs.inj⟩,⟨fun n g b B hb=>?_,a⟩,⟨fun n g B hb=>?_,j⟩,h.cs,h.tr,h.po,h.bk,h.vh,h.hs⟩,X,Y⟩
 .have E:=(h.gs.gp n g B).2;unfold bG at E ⊢;by_cases hb:g.band.isSome=zq
  .show w.heap[L.gb n]?=zo (zn (Kw n (bb n) (lb n) g) 86 (0,0));rw[O n g B hb,V n g B hb];exact E
  .show w.heap[L.gb n]?=zo (zn (Kw n (bb n) (lb n) g) 86 (0,0));rw[E];unfold Kw;rw[if_neg hb,if_neg hb];simp[hb]
 .show Own F M 3 (bb n)/\Qt.OC w (bb n) b;rw[O n g B (by rw[hb];rfl)];exact h.bs.bd n g b B hb
 .show Own F M 4 (lb n)/\xa w (lb n) g.line;rw[V n g B hb];exact h.ls.ln n g B hb
theorem yK.pushG{w':zu}{bd ln I:Nat}{g:Gp}{v':zz}(h:yK w F s S L)(H:¬F B)(hd:¬F bd)(M:¬F ln)(hz:B≠bd)(h9:B≠ln)(hq:bd≠ln)
 (hx:bG w B S.gs.length bd ln g) (hw:g.there=zq) (h5:g.band=zo d) (u:Qt.OC w bd d) (v:xa w ln g.line) (h7:∀k,k<S.gs.length->L.bb k≠bd) (H4:∀k,k<S.gs.length->L.lb k≠ln)
 (H2:∀i n,S.pl i=zo n->n<S.gs.length) (h6:∀(n:Nat) (t:Tk),S.ts[n]?=zo t->t.OG<S.gs.length)
 (ht:OA (fun k=>k=s∨L.vg.ownBlock=zo k) w w') (U:w'.ownsRow 0 59 1 v' (S.gs.length+1) (xK (xL L.gb S.gs++ [zo B])))
 (Q:∀k,v'.ownBlock=zo k->L.vg.ownBlock=zo k∨w.heap.size<=k) (hs:∃cs,w'.heap[s]?=zo (zn cs 66 (0,0)))
 (h8:w'.cell? ⟨s,8,zp⟩=zo v') (hu:w'.cell? ⟨s,9+I,zp⟩=zo (ze (zo ⟨B,0,zp⟩))) (x:∀j,j≠8->j≠9+I->w'.cell? ⟨s,j,zp⟩=w.cell? ⟨s,j,zp⟩) (hI:I<32):
 yK w' (NK F w w' B bd ln) s { S with gs:=S.gs++ [g],pl:=OV S.pl I (zo S.gs.length) } { L with gb:=OV L.gb S.gs.length B,bb:=OV L.bb S.gs.length bd,lb:=OV L.lb S.gs.length ln,vg:=v' }:=by
 obtain⟨tg,h⟩:=h;have N:Own F tg 0 s:=h.sx.own;have R:∀k,L.vg.ownBlock=zo k->Own F tg 2 k:=h.gs.row.own;have hj:=h.sx.lt;have H6:s≠B:=by rintro rfl;exact H N.1
 have H7:s≠bd:=by rintro rfl;exact hd N.1
 have H5:s≠ln:=by rintro rfl;exact M N.1
 have A:∀d,d≠0->d≠2->∀k,k<w.heap.size->Own F tg d k->w'.heap[k]?=w.heap[k]?:=fun d h0 V k hk z=>ht.block k hk (by
  rintro(e|e)
  .subst e;exact h0 (z.2.symm.trans N.2)
  .exact V (z.2.symm.trans (R k e).2))
 have o:∀k,k<w.heap.size->¬F k->w'.heap[k]?=w.heap[k]?:=fun k hk z=>ht.block k hk (by
  rintro(e|e)
  .subst e;exact z N.1
  .exact z (R k e).1)
 have Y:=hx.lt;have W:=u.lt;have H0:=v.lt;have J:∀{f:Nat->Nat} {B k:Nat},k<S.gs.length->OV f S.gs.length B k=f k:=fun hk=>yQ _ _ (by omega);have h4:∀k,k<S.gs.length->L.gb k≠B:=fun k hk e=>by
  obtain⟨y,E⟩:∃y,S.gs[k]?=zo y:=⟨_,zy hk⟩
  have:=(h.gs.gp k y E).1.1;rw[e]at this;exact H this
 refine⟨Jz tg w B bd ln,?_,?_,?_,?_,?_,Kg (X:=fun w G=>AC w G L.cb L.vc S.ps S.cs) AC.kept AC.mono h.cs (A 5 (by omega) (by omega)) H hd M,
  Kg (X:=fun w G=>xt w G L.t L.tp S.tree) xt.kept xt.mono h.tr (A 6 (by omega) (by omega)) H hd M,Kg (X:=fun w G=>xy w G L.pp S.pool) xy.kept xy.mono h.po (A 7 (by omega) (by omega)) H hd M,
  Kg (X:=fun w G=>xj w G L.bk S.book) xj.kept xj.mono h.bk (A 8 (by omega) (by omega)) H hd M,?_,fun p hp=>Kg (X:=fun w G=>yT w G (L.hb p) (S.hs p)) yT.kept yT.mono (h.hs p hp) (A (p+9) (by omega) (by omega)) H hd M⟩
 .have e:=fun j (V:j≠8) (h2:j≠9+I)=>x j V h2;refine⟨hs,Pg hj N H hd M,(e _ (by omega) (by omega)).trans h.sx.c0,(e _ (by omega) (by omega)).trans h.sx.c1,(e _ (by omega) (by omega)).trans h.sx.c2,(e _ (by omega) (by omega)).trans h.sx.c3,(e _ (by omega) (by omega)).trans h.sx.c4,(e _ (by omega) (by omega)).trans h.sx.c5,(e _ (by omega) (by omega)).trans h.sx.c6,(e _ (by omega) (by omega)).trans h.sx.c7,h8,fun i hi=>?_,fun i hi=>(e _ (by omega) (by omega)).trans (h.sx.at_ i hi),(e _ (by omega) (by omega)).trans h.sx.vh,(e _ (by omega) (by omega)).trans h.sx.vc,(e _ (by omega) (by omega)).trans h.sx.bk⟩
  show w'.cell? ⟨s,9+i,zp⟩=zo (ze ((OV S.pl I (zo S.gs.length) i).map fun n=>⟨OV L.gb S.gs.length B n,0,zp⟩));by_cases ei:i=I
  .subst ei;rw[yR,hu];show _=zo (ze (zo ⟨OV L.gb S.gs.length B S.gs.length,0,zp⟩));rw[yR]
  .rw[yQ _ _ ei,e _ (by omega) (by omega),h.sx.pl i hi];cases hp:S.pl i with
   | none=>rfl
   | some n=>show zo (ze (zo ⟨L.gb n,0,zp⟩))=zo (ze (zo ⟨OV L.gb S.gs.length B n,0,zp⟩));rw[J (H2 i n hp)]
 .refine⟨⟨⟨h.ts.row.row.1,?_⟩,fun k hk=>Pg (h.ts.row.row.lt k hk).2 (h.ts.row.own k hk) H hd M⟩,fun m y E=>?_,h.ts.inj⟩
  .rcases h.ts.row.row.2 with hn|⟨r,q,cur,C,hb,T,hr⟩
   .exact .inl hn
   .have hg:=h.ts.row.own r (by rw[C];rfl);exact .inr ⟨r,q,cur,C,hb,(A 1 (by omega) (by omega) r (yx T).1 hg).trans T,hr⟩
  .obtain⟨O,D⟩:=h.ts.tk m y E;refine⟨Pg D.lt O H hd M,?_⟩;have h3:RR w' (L.tb m) L.gb y:=D.of (A 1 (by omega) (by omega) _ D.lt O);show w'.heap[L.tb m]?=zo (zn (Ju (OV L.gb S.gs.length B) y) 82 (0,0));rw[show w'.heap[L.tb m]?=zo (zn (Ju L.gb y) 82 (0,0))from h3];unfold Ju;rw[J (h6 m y E)]
 .refine⟨⟨?_,fun k hk=>?_⟩,fun m y E=>?_,?_⟩
  .rw[Ax _ _ _ _ hw,zE,xo];exact U
  .rcases Q k hk with V|V
   .exact Pg (h.gs.row.row.lt k V).2 (R k V) H hd M
   .have h2:=(U.lt k hk).2;refine⟨.inl (.inr ⟨V,h2⟩),?_⟩;unfold Jz;rw[if_neg (by omega),if_neg (by omega),if_neg (by omega)];unfold yV;rw[if_neg (by omega)]
  .rcases XX E with⟨l,E⟩|⟨rfl,rfl⟩
   .obtain⟨O,D⟩:=h.gs.gp m y E;show Own _ _ 2 (OV L.gb S.gs.length B m)/\bG w' (OV L.gb S.gs.length B m) m (OV L.bb S.gs.length bd m) (OV L.lb S.gs.length ln m) y;rw[J l,J l,J l];refine⟨Pg D.lt O H hd M,D.of (ht.block _ D.lt ?_)⟩;rintro(e|e)
    .rw[e]at O;have:=O.2;have:=N.2;omega
    .exact yS h.gs.row.row (show w.heap[L.gb m]?=zo (zn _ _ _)from D) (by decide) e
   .show Own _ _ 2 (OV L.gb S.gs.length B S.gs.length)/\bG w' (OV L.gb S.gs.length B S.gs.length) S.gs.length (OV L.bb S.gs.length bd S.gs.length) (OV L.lb S.gs.length ln S.gs.length) y;rw[yR,yR,yR];exact⟨⟨.inr (.inl rfl),by unfold Jz;rw[if_pos rfl]⟩,hx.of (o _ Y H)⟩
  .intro a c K Z P;have H3:a<S.gs.length+1:=by simpa using K
   have ho:c<S.gs.length+1:=by simpa using Z
   exact Ph h.gs.inj h4 a c H3 ho P
 .refine⟨fun m y b E hb=>?_,fun a c K Z P=>?_⟩
  .rcases XX E with⟨l,E⟩|⟨rfl,rfl⟩
   .obtain⟨O,D⟩:=h.bs.bd m y b E hb;show Own _ _ 3 (OV L.bb S.gs.length bd m)/\Qt.OC w' (OV L.bb S.gs.length bd m) b;rw[J l];exact⟨Pg D.lt O H hd M,D.kept (A 3 (by omega) (by omega) _ D.lt O)⟩
   .rw[h5]at hb;obtain rfl:=zx hb;show Own _ _ 3 (OV L.bb S.gs.length bd S.gs.length)/\Qt.OC w' (OV L.bb S.gs.length bd S.gs.length) d;rw[yR];exact⟨⟨.inr (.inr (.inl rfl)),by unfold Jz;rw[if_neg (Ne.symm hz),if_pos rfl]⟩,u.kept (o _ W hd)⟩
  .exact Ph h.bs.inj h7 a c (by simpa using K) (by simpa using Z) P
 .refine⟨fun m y E hb=>?_,fun a c K Z P=>?_⟩
  .rcases XX E with⟨l,E⟩|⟨rfl,rfl⟩
   .obtain⟨O,D⟩:=h.ls.ln m y E hb;show Own _ _ 4 (OV L.lb S.gs.length ln m)/\xa w' (OV L.lb S.gs.length ln m) y.line;rw[J l];exact⟨Pg D.lt O H hd M,D.of (A 4 (by omega) (by omega) _ D.lt O)⟩
   .show Own _ _ 4 (OV L.lb S.gs.length ln S.gs.length)/\xa w' (OV L.lb S.gs.length ln S.gs.length) y.line;rw[yR];exact⟨⟨.inr (.inr (.inr rfl)),by unfold Jz;rw[if_neg (Ne.symm h9),if_neg (Ne.symm hq),if_pos rfl]⟩,v.of (o _ H0 M)⟩
  .exact Ph h.ls.inj H4 a c (by simpa using K) (by simpa using Z) P
 .refine⟨⟨h.vh.row.1,?_⟩,fun k hk=>Pg (h.vh.row.lt k hk).2 (h.vh.own k hk) H hd M⟩;rcases h.vh.row.2 with hn|⟨r,q,cur,C,hb,T,hr⟩
  .exact .inl hn
  .refine .inr ⟨r,q,cur,C,hb,?_,hr⟩;have Y:=(yx T).1;have H1:=h.vh.own r (by rw[C];rfl);rw[ht.block r Y ?_];exact T;rintro(e|e)
   .obtain⟨cs,Z⟩:=h.sx.ty;rw[e,Z]at T;simp only[ya,Obj.cells.injEq]at T;exact absurd T.2.1 (by decide)
   .have:=(R r e).2;have:=H1.2;omega
theorem yK.gP(h:yK w F s S L):w.ownsRow 0 59 1 L.vg S.gs.length (xK (xL L.gb S.gs))/\∀k,L.vg.ownBlock=zo k->F k:=by obtain⟨tg,h⟩:=h;have:=h.gs.row.row;rw[xo]at this;exact⟨this,fun k hk=>(h.gs.row.own k hk).1⟩
theorem yK.plC(h:yK w F s S L){i:Nat}(A:i<32):w.cell? ⟨s,9+i,zp⟩=zo (ze ((S.pl i).map fun n=>⟨L.gb n,0,zp⟩)):=by obtain⟨tg,h⟩:=h;exact h.sx.pl i A
theorem yK.c8(h:yK w F s S L):w.cell? ⟨s,8,zp⟩=zo L.vg:=by obtain⟨tg,h⟩:=h;exact h.sx.c8
theorem yK.iX{D:zu}{bd ln I g2 cap2 vc:Nat}{R:Option Addr}{g:Gp}(h:yK w F s S L)(hB:¬F B)(hd:¬F bd)(P:¬F ln)(m:B≠bd)(y:B≠ln)(q:bd≠ln)
 (hx:bG w B S.gs.length bd ln g) (a:g.there=zq) (V:g.band=zo d) (Y:Qt.OC w bd d) (X:xa w ln g.line)
 (v:∀i n,S.pl i=zo n->n<S.gs.length) (c:∀(n:Nat) (t:Tk),S.ts[n]?=zo t->t.OG<S.gs.length) (x:L.vg=zf R n vc) (hn:n=S.gs.length)
 (C:OA (fun k=>(zf R n vc).ownBlock=zo k) w D) (Q:D.ownsRow 0 59 1 (zf (zo ⟨g2,0,zp⟩) (n+1) cap2) (n+1) (xK (xL L.gb S.gs)++ [ptr B])) (M:(zf R n vc).ownBlock=zo g2∨g2=w.heap.size+1) (K:I<32):
 ∃L',yG w (fun k=>F k∨k=B∨k=bd∨k=ln) s { S with gs:=S.gs++ [g],pl:=OV S.pl I (zo S.gs.length) } L' ((D.setCell ⟨s,8,zp⟩ (zf (zo ⟨g2,0,zp⟩) (n+1) cap2)).setCell ⟨s,9+I,zp⟩ (ptr B)):=by
 obtain⟨bb,lb,h,o,z⟩:=h.iW bd ln hd P;have b:=h.RZ.2;obtain⟨E,r⟩:=h.gP;have E:w.ownsRow 0 59 1 L.vg S.gs.length (xK (xL L.gb S.gs)):=E;obtain⟨cs,T⟩:=h.tyS;have J:∀k,(zf R n vc).ownBlock=zo k->k≠s:=fun k hk f=>by subst f;rw[<-x]at hk;exact yS E T (by decide) hk
 have H:D.heap[s]?=w.heap[s]?:=C.block s b fun f=>J s f rfl;have l:g2≠s:=by
  rcases M with A|A
  .exact J g2 A
  .omega
 have N:OA (fun k=>k=s) D ((D.setCell ⟨s,8,zp⟩ (zf (zo ⟨g2,0,zp⟩) (n+1) cap2)).setCell ⟨s,9+I,zp⟩ (ptr B)):=(OA.refl (fun k=>k=s) D).one.one;have O:OA (fun k=>k=s∨L.vg.ownBlock=zo k) w ((D.setCell ⟨s,8,zp⟩ (zf (zo ⟨g2,0,zp⟩) (n+1) cap2)).setCell ⟨s,9+I,zp⟩ (ptr B)):=by rw[x];exact(C.mono (G:=fun k=>k=s∨(zf R n vc).ownBlock=zo k) fun k hk=>.inr hk).trans N fun k hk=>.inl (.inl hk)
 have Z:g2<D.heap.size:=(Q.lt g2 rfl).2;have U:((D.setCell ⟨s,8,zp⟩ (zf (zo ⟨g2,0,zp⟩) (n+1) cap2)).setCell ⟨s,9+I,zp⟩ (ptr B)).ownsRow 0 59 1 (zf (zo ⟨g2,0,zp⟩) (n+1) cap2) (S.gs.length+1) (xK (xL L.gb S.gs++ [zo B])):=by rw[show xK (xL L.gb S.gs++ [zo B])=xK (xL L.gb S.gs)++ [ptr B]by simp[xK],<-hn];refine Bu Q fun k hk=>?_;obtain rfl:g2=k:=zx hk;exact N.block g2 Z l
 have hP:=h.pushG (B:=B) (bd:=bd) (ln:=ln) (I:=I) (g:=g) (d:=d) (v':=zf (zo ⟨g2,0,zp⟩) (n+1) cap2) hB hd P m y q hx a V Y X o z v c O U (fun k hk=>by
  obtain rfl:g2=k:=zx hk;show L.vg.ownBlock=zo g2∨_;rw[x];rcases M with A|A
  .exact .inl A
  .exact .inr (by omega)) ⟨_,yD (yD (H.trans T))⟩ (by
  have W:D.cell? ⟨s,8,zp⟩=zo L.vg:=by have:w.cell? ⟨s,8,zp⟩=zo L.vg:=h.c8;rw[<-this];simp[zN,H]
  rw[zB _ _ _ _ (by intro e;injection e with e1 e2;omega)];exact World.cell?_setCell_same _ _ _ W) (by
  have p:D.cell? ⟨s,9+I,zp⟩=zo (ze ((S.pl I).map fun n=>⟨L.gb n,0,zp⟩)):=by have:w.cell? ⟨s,9+I,zp⟩=zo (ze ((S.pl I).map fun n=>⟨L.gb n,0,zp⟩)):=h.plC K;rw[<-this];simp[zN,H]
  exact World.cell?_setCell_same _ _ _ (u:=ze ((S.pl I).map fun n=>⟨L.gb n,0,zp⟩)) (by rw[zB _ _ _ _ (by intro e;injection e with e1 e2;omega)];exact p)) (fun j A h2=>by
  have:D.cell? ⟨s,j,zp⟩=w.cell? ⟨s,j,zp⟩:=by simp[zN,H]
  rw[zB _ _ _ _ (by intro e;injection e with e1 e2;omega),zB _ _ _ _ (by intro e;injection e with e1 e2;omega),this]) K
 refine⟨_,hP.mono fun k hk hf=>?_,O.mono fun k hk=>.inl ?_⟩
 .rcases hf with(A|A)|A
  .exact .inl (.inl A)
  .exact .inr A
  .exact .inl (.inr A)
 .rcases hk with A|A
  .subst A;exact h.gO.1
  .exact r k A
def qq(y:Gp)(d:TL):Nat:=2*y.line.length+(if 0<d.pool then 1 else 0)
theorem YI(A:(S.SE g k).gs[g]?=zo y)(hd:y.band=zo d):S.SE g (k+1)=if(S.SE g k).load g k=0 then(S.SE g k).OF g (y.ON (d.back k (xA d k)))else S.SE g k:=by rw[Sc.SE,Sc.PE A,hd]
theorem ZC(g:Nat)(x:Gp)(dx:TL)(b:Nat)(w:zu)(F:Nat->Prop)(s:Nat)(S:Sc)(L:Lay)(h:yK w F s S L)(ok:S.Fit b)(hg:S.gs[g]?=zo x)(ht:x.there=zq)(ke:x.band=zo dx):
 zw prog 56 #[ptr s,ptr (L.gb g)] w fun z w'=>(∃v,z=zm v)/\yG w F s (S.share g) L w':=by
 have h0:=ok.1.SA hg ke;obtain⟨HH,Hy,HX,ki⟩:=Qf h ok hg ht;obtain⟨s0,H8⟩:=h.RZ;have kv:=ok.1.ps.2;obtain⟨n,hN⟩:=yB S.ps
 have HN:=yw hN;have kk:S.share g=Sc.serve g 200 (S.SE g S.ps):=rfl;rw[kk];rw[<-hN]at s0 kv ⊢;obtain⟨T0,H6⟩:=yB (S.SE g n)
 have kr:=yw H6;rw[<-H6];clear h ok hN hg ht ke kk H6;go_enter func56,ntmps56;go_wp2_with fail;clear s0 H8;go_loopw [4,12] (fun _ i wr=>∃(k:Nat),k<=n/\i=zd zj k/\yG w F s (S.SE g k) L wr) (fun _ i _=>n-(intOf i).toNat)
 case atStart=>exact⟨0,by omega,rfl,yG.refl HH.out⟩
 case round=>
  obtain⟨k,hk,rfl,hl⟩:=hrel;have t:=yw hl;clear hl;obtain⟨fT,nT⟩:=Cb Hy.out HX.out ki.out k (by rw[<-HN.out];exact hk);obtain⟨y,I,_,_,U,_,_⟩:=nT.g g x HX.out;rw[ki.out]at U;obtain⟨d,hd,f,X⟩:=fT.1.band I U h0;obtain⟨O,K,a,HD,M⟩:=Qg fT nT I hd U;by_cases km:k<n
  .have Y:=YI I hd;obtain⟨T,hT⟩:=yB (S.SE g k)
   rw[<-hT]at t O K a Y f;have D:=yw Y;have kp:k<d.l.length:=by rw[f,K.out.ps,<-HN.out];exact km
   have H4:=X.small (by have:=Hy.out.1.RY;omega);have HC:=yw (Yh g k y b wr _ s T L t.out.1 O.out.1 a.out M.out (by omega));have K5:(k:Int) <(n:Int):=by omega
   obtain⟨lo,H7⟩:=yB (T.load g k)
   rw[<-H7]at HC D;by_cases hz:lo=0
   .have HE:Hid (S.SE g (k+1)=T.OF g (y.ON (d.back k (xA d k)))):=yw (by rw[D.out,if_pos hz]);rw[hz]at HC;have H9:=yw (uB kp);clear Y hT I hd U f X fT nT H7 hz;go_wp2_with fail;refine HC.out.mono ?_;rintro z w4 ⟨rfl,Z⟩;have B:=yw (t.out.below Z);clear Z;obtain⟨-,-,-,-,-,Q,-⟩:=(B.out.1.gp a.out).c7;have J:=(B.out.1.gp a.out).lt;rw[HD.out]at Q;simp only[Option.isSome_some,if_true]at Q;have HR:=yw (Qt.eU k (xA d k) w4 (L.bb g) d (B.out.1.band a.out HD.out) H4 H9.out);go_wp2_with fail;refine HR.out.mono ?_;rintro z w5 ⟨rfl,N,V⟩;have A:=yw (B.out.then (B.out.1.cC a.out HD.out V N))
    clear N V Q J;go_wp2_with fail;go_roundw
    case rel=>exact⟨k+1,by omega,by go_num,by rw[HE.out];exact A.out⟩
    case measure=>simp[intOf];omega
   .have HE:Hid (S.SE g (k+1)=T):=yw (by rw[D.out,if_neg hz]);clear Y hT I hd U f X fT nT H7;have K6:(lo == 0)=zt:=by simpa using hz
    clear hz;go_wp2_with fail;refine HC.out.mono ?_;rintro z w4 ⟨rfl,Z⟩;have B:=yw (t.out.below Z);clear Z;go_wp2_with fail;go_roundw
    case rel=>exact⟨k+1,by omega,by go_num,by rw[HE.out];exact B.out⟩
    case measure=>simp[intOf];omega
  .have ks:k=n:=by omega
   subst ks;rw[<-kr.out]at t O K a;have K0:y.line.length<=64:=by obtain⟨rg,fr,hx,h2⟩:=t.out.1.line a.out (by rw[hd];rfl);have:=hx.n;omega
   have u:qq y d<200:=by unfold qq;split<;>omega
   have o:=yw u;clear I hd U f X fT nT K0 u;go_wp2_with fail;go_loopg [5,6] 200 (fun m _ _ wr=>∃(k:Nat) (T:Sc) (y:Gp) (d:TL),yG w F s T L wr/\T.Fit b/\S.PX T/\T.gs[g]?=zo y/\y.there=zq/\y.band=zo d/\qq y d<=m/\qq y d<k/\Sc.serve g k T=Sc.serve g 200 T0)
   case atStart=>exact⟨200,T0,y,d,t.out,O.out,K.out,a.out,M.out,HD.out,Nat.le_of_lt o.out,o.out,rfl⟩
   case round=>
    clear o HD M a K O t;obtain⟨j,T,y,d,hl,hf,h6,I,U,hd,hm,hj,k8⟩:=hrel;obtain⟨t,O,kg,a,M,HD,kc,HJ⟩:=Qj hl hf h6 I U hd hm hj;have k0:=yw k8;obtain⟨-,-,-,-,-,Q,x6⟩:=(hl.1.gp I).c7;have J:=(hl.1.gp I).lt;have H0:y.band.isSome=zq:=by rw[hd];rfl
    rw[H0]at Q x6;simp only[if_true]at Q x6;have hu:=yw H0;have H5:=yw (Qt.dH wr (L.bb g) d (hl.1.band I hd));clear hl hf h6 U hm hj k8 H0;by_cases W:0<d.pool
    .have K3:=yw W;cases hln:y.line with
     | nil=>
      have h8:Hid (Sc.serve g 200 T0=T):=yw (by rw[<-k0.out];exact Cc I hd (.inl hln));have q:=t.out.1.line I hu.out;rw[hln]at q;have H2:=yw (Ka wr (L.lb g) q);clear hln q I hd;go_wp2_with fail;refine H5.out.mono ?_;rintro z w4 ⟨rfl,rfl⟩;go_wp2_with fail;refine H2.out.mono ?_;rintro z w4 ⟨rfl,hw⟩;obtain rfl:=hw.symm;go_wp2;exact bodyPost_ret (results_none rfl _ _ _) rfl ⟨⟨_,rfl⟩,by rw[h8.out];exact t.out⟩
     | cons p r=>
      obtain⟨hp,f1,n1,f2,n2⟩:=Hs O.out I M.out hd hln;obtain⟨d',ka,f,X⟩:=O.out.1.band I M.out h0;rw[hd]at ka;obtain rfl:=zx ka;have H4:=X.small (by have:=Hy.out.1.RY;omega);have Hg:=uB (b:=d) (p:=p) (by omega);obtain⟨j',k2⟩:∃j',j=j'+1:=⟨j-1,by have:=HJ.out;omega⟩
      have Y:=Hr (k:=j') I hd hln W;rw[<-k2,k0.out]at Y;have kb:y.line.length=r.length+1:=by rw[hln];rfl
      have h5:qq y d=2*(r.length+1)+1:=by unfold qq;rw[kb,if_pos W]
      have hr:=yw h5;have kh:=yw k2;have q:=t.out.1.line I hu.out;rw[hln]at q;obtain⟨H2,C,hn,K4,D⟩:=Qg (Dw wr (L.lb g) p r q) f2 n2 f1 Y;have k6:p<64:=by have:=O.out.1.ps.2;omega
      have h9:=yw hp;obtain⟨E,hE⟩:=yB (d.SQ p (xA d p))
      have R:=LB X Hg;rw[<-hE]at C hn D R;have kd:=yw hE;have k5:=O.out.1.iR I M.out h0;have H9:=yw Hg;clear hln q Y kb h5 k2 f1 n1 f2 n2 f X Hg hE hd I;go_wp2_with fail;refine H5.out.mono ?_;rintro z w4 ⟨rfl,rfl⟩;go_wp2_with fail;refine H2.out.mono ?_;rintro z w4 ⟨rfl,Z,kj⟩;have B:=yw (t.out.then (t.out.1.dR a.out hu.out kj Z));have ha:=yw (xg (g':=y.OP r) a.out);clear Z kj Q x6 J;obtain⟨-,-,-,-,-,Q,-⟩:=(B.out.1.gp ha.out).c7;have J:=(B.out.1.gp ha.out).lt;simp only[Gp.OP,hu.out,if_true]at Q
      have ho:=yw (Qt.TF p (xA d p) w4 (L.bb g) d (B.out.1.band ha.out HD.out) H4 H9.out);cases hmay:d.may (xA d p)with
      | true=>
       rw[hmay]at ho D;simp only[if_true]at D;clear hmay R;go_wp2_with fail;refine ho.out.mono ?_;rintro z w5 ⟨rfl,N,V⟩;rw[<-kd.out]at N;have c:=B.out.then (B.out.1.cC ha.out HD.out V N);rw[qA]at c;have A:=yw c;clear N V Q J c;have H:=yw (xg (g':=(y.OP r).ON E) a.out);obtain⟨yr,H3⟩:=C.out.1.gr H.out M.out (p:=p) h9.out;have k3:=C.out.1.hc p h9.out;have hh:=C.out.1.credit;have F3:=yw (Jy C.out h9.out y.hi zt);obtain⟨T5,hq⟩:=yB (T.OF g ((y.OP r).ON E))
       have k1:p<T5.ps:=by rw[hq];exact h9.out
       have kz:Hid (T5.hs p=T.hs p):=yw (by rw[hq];rfl);rw[<-hq]at A H H3 k3 hh hn D F3;obtain⟨r1,K7,hv⟩:=A.out.1.eD k1;obtain⟨k4,rp,ku⟩:=A.out.1.SK k1 hv;obtain⟨-,g1,-⟩:=(A.out.1.gp H.out).c7;have J:=(A.out.1.gp H.out).lt;have H8:=A.out.1.RZ.2;obtain⟨G,hH,hU⟩:=A.out.1.SX k1;have HU:=yw hU;have kn:=yw (Dl y.hi zt w5.drew G (L.hb p) (T5.hs p) yr (hH.kept fun k _ _=>rfl) H3 k5 (by rw[k3];omega));have K1:(p:Int) <(T5.ps:Int):=by omega
       simp only[Gp.ON,Gp.OP]at g1;clear H3 hv hU hH k3 hh hq;go_wp2_with fail;go_region_with
        (
         go_at_call 82;refine kn.out.mono ?_;rintro z w8 ⟨rfl,k7⟩;have kx:=yw (HU.out _ _ (qv.NZ (F:=G) (⟨rfl,rfl,rfl,yA _,fun _ _=>rfl⟩:Below w5.heap.size w5 w5.drew) k7));clear k7 k4 rp ku g1 J H8)
       all_goals
        go_wp2_with fail;go_roundg (2*r.length+1)
        case measure=>have:=hr.out;have:=kc.out;omega
        case rel=>
         refine⟨j',T5.OM p ((T5.hs p).stop y.hi zt),(y.OP r).ON E,E,A.out.then kx.out,F3.out,kg.out.trans (hn.out.OM _ _),H.out,M.out,rfl,?_,?_,?_⟩
         .unfold qq;show 2*r.length+(if 0<E.pool then 1 else 0)<=2*r.length+1;split<;>omega
         .have h1:=hr.out;have h2:=HJ.out;have h3:=kh.out;unfold qq;show 2*r.length+(if 0<E.pool then 1 else 0) <j';split<;>omega
         .rw[D.out,kz.out]
      | false=>
       have P:=R hmay;rw[hmay]at ho D;simp only[if_neg (show ¬(zt=zq)by decide)]at D;have h7:=yw P;clear hmay R P;go_wp2_with fail;refine ho.out.mono ?_;rintro z w5 ⟨rfl,N,V⟩;rw[<-kd.out]at N;have c:=B.out.then (B.out.1.cC ha.out HD.out V N);rw[qA]at c;have A:=yw c;clear N V Q J c;have H:=yw (xg (g':=(y.OP r).ON E) a.out);obtain⟨-,-,-,-,-,-,x6⟩:=(A.out.1.gp H.out).c7;have J:=(A.out.1.gp H.out).lt;simp only[Gp.ON,Gp.OP,Option.isSome_some,if_true]at x6;have kw:=yw (Sy w5 (L.lb g) p r (A.out.1.line (g:=(y.OP r).ON E) H.out rfl) (by omega));go_wp2_with fail
       refine kw.out.mono ?_;rintro z w6 ⟨⟨v6,rfl⟩,kf,k9⟩;have H1:=A.out.then (A.out.1.dR H.out rfl k9 kf);rw[qA]at H1;have kq:=yw H1;have ko:=yw (xg (g':=((y.OP r).ON E).OP (xe r p)) a.out);obtain⟨f6,n6⟩:=C.out.OP (l:=xe r p) H.out h0 (Yi (by exact h9.out));rw[qA]at f6 n6;have ky:=yw f6;have kt:=yw n6;have kl:(xe r p).length<=r.length+1:=by unfold xe;split<;>simp
       have he:=yw kl;clear kf k9 x6 J H1 f6 n6 kl;go_wp2_with fail;go_roundg (2*(r.length+1))
       case measure=>have:=hr.out;have:=kc.out;omega
       case rel=>
        refine⟨j',_,_,E,kq.out,ky.out,kg.out.trans (hn.out.trans kt.out),ko.out,M.out,rfl,?_,?_,D.out.symm⟩
        .have:=he.out;have h2:=h7.out;unfold qq;show 2*(xe r p).length+(if 0<E.pool then 1 else 0)<=2*(r.length+1);rw[h2];simp;omega
        .have:=he.out;have h2:=h7.out;have h1:=hr.out;have h3:=HJ.out;have h4:=kh.out;unfold qq;show 2*(xe r p).length+(if 0<E.pool then 1 else 0) <j';rw[h2];simp;omega
    .have h8:Hid (Sc.serve g 200 T0=T):=yw (by rw[<-k0.out];exact Cc I hd (.inr W));have K2:d.pool<=0:=by omega
     clear W I hd;go_wp2_with fail;refine H5.out.mono ?_;rintro z w4 ⟨rfl,rfl⟩;go_wp2;go_end0;exact⟨⟨_,rfl⟩,by rw[h8.out];exact t.out⟩
abbrev plv(gb:Nat->Nat)(x:Option Nat):zz:=ze (x.map fun n=>⟨gb n,0,zp⟩)
theorem ZD(S:Sc)(k:Nat):S.PO (k+1)=if k=0 then S.PO k else match(S.PO k).pl k with
 | none=>S.PO k
 | some g=>(S.PO k).OT g:=rfl
theorem GO(w:zu)(s:Nat)(fn:Nat->zz)(h:∀i,i<32->w.cell? ⟨s,9+i,zp⟩=zo (fn i)):(Go.Instr.loadAt 60 (ze (zo ⟨s,9,zp⟩))).run prog w=.ok (zg ((yi 32).map fn).toArray) w:=by
 have D:=run_loadCells (P:=prog) w ⟨s,9,zp⟩ 32 fn (fun j A=>by rw[show(⟨s,9,zp⟩:Addr).add j=⟨s,9+j,zp⟩by unfold Addr.add;split<;>simp_all];exact h j A);have G:(isAgg 60).run prog w=.ok zq w:=by simp[isAgg,go_sem]
 have B:(sizeOf 60).run prog w=.ok 32 w:=by
  simp[sizeOf,go_sem]
  kernel_rfl
 have E:(Go.Instr.sureAddr (ze (zo ⟨s,9,zp⟩))).run prog w=.ok ⟨s,9,zp⟩ w:=by simp[Go.Instr.sureAddr,go_sem]
 unfold Go.Instr.loadAt;rw[Sem.run_bind,E];unfold loadVar;simp only[Result.andThen];rw[Sem.run_bind,G];simp only[Result.andThen,if_true];rw[Sem.run_bind,B];simp only[Result.andThen];rw[Sem.run_bind,D];simp[Result.andThen,go_sem]
theorem Ec(S:Sc):S.RQ ((yi 31).map fun i=>S.pl (i+1))=S.limited S.cF:=by unfold Sc.RQ Sc.cF;rw[List.filterMap_map];rfl
theorem ZE(S:Sc)(g:Nat)(r:List Nat):S.shares (g::r)=(S.share g).shares r:=rfl
theorem ZF(S:Sc)(p:Nat):S.choice (p+1)=Sc.PY p 40 (S.choice p):=by rw[Sc.choice]
theorem Pn(h:(S.choose p).2=zq):Sc.PY p (k+1) S=(S.choose p).1:=by rw[Sc.PY,if_pos h]
theorem Iy(h:(S.choose p).2=zt):Sc.PY p (k+1) S=Sc.PY p k (S.choose p).1:=by rw[Sc.PY,if_neg (by rw[h];decide)]
theorem Po(A:Array zz)(k:Nat)(v:zz)(h:A[k]?=zo v)(hk:k<32)(W:zu):(Go.Instr.index 60 (zg A) (zd zj (k:Nat))).run prog W=.ok v W:=by
 have B:(0:Int)<=k:=by omega
 simp[Go.Instr.index,go_sem,h,B];intro h3;omega
theorem Pp(b:Nat)(w:zu)(F:Nat->Prop)(s:Nat)(S:Sc)(L:Lay)(h:yK w F s S L)(ok:S.Fit b):
 zw prog 19 #[ptr s] w fun z w'=>(∃v,z=zm v)/\yG w F s S.settle L w':=by
 have HH:=yw h;have ku:=yw ok;obtain⟨s0,a⟩:=h.RZ;obtain⟨fn,hf⟩:∃fn:Nat->zz,fn=fun i=>plv L.gb (S.pl i):=⟨_,rfl⟩
 have K1:=yw hf;have HP:Hid (∀i,i<32->w.cell? ⟨s,9+i,zp⟩=zo (fn i)):=yw (fun i hi=>by rw[hf];exact h.pl_ hi);obtain⟨T9,hT⟩:∃T,T=S.settle:=⟨_,rfl⟩
 have HT:=yw hT;rw[<-hT];have h4:=GO w s fn HP.out;obtain⟨AR,h8⟩:=yB (((yi 32).map fn).toArray)
 have kp:Hid (∀k,k<32->AR[k]?=zo (fn k)):=yw (by rw[h8];exact Pm fn);rw[<-h8]at h4;have H9:=yw h4;clear h4 h8;clear h ok hT hf s0;go_enter func19,ntmps19;go_wp2_with (refine uO w rfl 60 (.tmp 9) rfl (ze (zo ⟨s,9,zp⟩)) _ rfl H9.out ?_);clear a H9;go_loopw [2,3,11] (fun _ _ i wr=>∃(k:Nat),k<=32/\i=zd zj k/\yG w F s (S.PO k) L wr) (fun _ _ i _=>32-(intOf i).toNat)
 case atStart=>exact⟨0,by omega,rfl,yG.refl HH.out⟩
 case round=>
  obtain⟨k,hk,rfl,V⟩:=hrel;have HL:=yw V;clear V;obtain⟨fT,nT⟩:=Uw ku.out k;have I:=yw fT;have K7:=yw nT;by_cases N:k<32
  .have ki:(k:Int) <32:=by omega
   have B:=kp.out k N;have l:(S.PO k).pl k=S.pl k:=by obtain⟨hs,e⟩:=nT;rw[e]
   have D:=ZD S k;rw[l]at D;have h2:fn k=plv L.gb (S.pl k):=by rw[K1.out]
   rw[h2]at B;by_cases c:k=0
   .have W:Hid (S.PO (k+1)=S.PO k):=yw (by rw[D,if_pos c]);have K5:¬(0:Int) <k:=by omega
    obtain⟨pv,k7⟩:=yB (plv L.gb (S.pl k))
    rw[<-k7]at B;have H3:=Po AR k pv B N;clear D l h2 fT nT c k7 B;go_wp2_with fail;go_roundw
    case rel=>exact⟨k+1,by omega,by go_num,by rw[W.out];exact HL.out⟩
    case measure=>simp[intOf];omega
   .have kb:(0:Int) <k:=by omega
    rw[if_neg c]at D;cases hg:S.pl k with
    | none=>
     rw[hg]at D B;have W:Hid (S.PO (k+1)=S.PO k):=yw D;simp only[plv,Option.map_none]at B;have H3:=Po AR k _ B N;clear D l h2 fT nT hg c B;go_wp2_with fail;go_roundw
     case rel=>exact⟨k+1,by omega,by go_num,by rw[W.out];exact HL.out⟩
     case measure=>simp[intOf];omega
    | some g=>
     rw[hg]at D B;have W:Hid (S.PO (k+1)=(S.PO k).OT g):=yw D;simp only[plv,Option.map_some]at B;have H3:=Po AR k _ B N;obtain⟨x,hx,X,ks⟩:=I.out.1.pl k g (l.trans hg);have H4:g≠0:=by rintro rfl;obtain⟨x0,H5,K4,_⟩:=I.out.1.g0;rw[hx]at H5;obtain rfl:=zx H5;omega
     have HW:=yw (Aj g x b wr _ s (S.PO k) L HL.out.1 I.out hx X H4);clear D l h2 fT nT hg c hx X ks H4 B;go_wp2_with fail;refine HW.out.mono ?_;rintro z w2 ⟨⟨v,rfl⟩,Hg⟩;have kv:=yw (HL.out.then Hg);clear Hg;go_wp2_with fail;go_roundw
     case rel=>exact⟨k+1,by omega,by go_num,by rw[W.out];exact kv.out⟩
     case measure=>simp[intOf];omega
  .have Q:k=32:=by omega
   subst Q;obtain⟨H,hv⟩:=yB (S.PO 32)
   have kd:=yw hv;rw[<-hv]at HL I;obtain⟨F1,ha⟩:∃F1:Nat->Prop,F1=fun k=>Ext F w wr k/\k<wr.heap.size:=⟨_,rfl⟩
   have Z:Hid (∀k,F1 k->Ext F w wr k/\k<wr.heap.size):=yw (by rw[ha];exact fun k hk=>hk);have O:Hid (yK wr F1 s H L):=yw (by rw[ha];exact HL.out.1.PA);have H7:Oz wr (zo ⟨s,10,zp⟩) (xK (((yi 31).map fun i=>H.pl (i+1)).map (Option.map L.gb))):=fun j u hu=>by
    have hj:j<31:=by have:=(yy hu).1;simpa[xK]using this
    refine⟨s,10,rfl,?_,O.out.RZ.2⟩;have h1:=O.out.pl_ (i:=j+1) (by omega);rw[show 10+j=9+(j+1)by omega,h1];rw[<-hu];simp[xK,hj,Function.comp_def]
   have Y:=yw (Xk ((yi 31).map fun i=>H.pl (i+1)) (zo ⟨s,10,zp⟩) 31 31 wr F1 s H L O.out (by simp) (by omega) H7 (fun q hq=>by obtain⟨i,_,e⟩:=yh.1 hq;obtain⟨y,hy,ke,_⟩:=I.out.1.pl _ _ e;exact⟨y,hy,ke⟩));rw[Ec]at Y;obtain⟨M,K⟩:=yB (H.limited H.cF)
   have hz:=yw K;have H0:Hid (H.AV M):=yw (by rw[K];exact Ad I.out.1);have ko:M.length<=31:=by have h1:=Ew H ((yi 31).map fun i=>H.pl (i+1));rw[Ec,<-K]at h1;simpa using h1
   rw[<-K]at Y;obtain⟨nl,hw⟩:=yB M.length
   have Hy:=yw hw;rw[<-hw]at Y ko;have a:=O.out.RZ.2;clear hv ha H7 K hw fT nT;go_wp2_with fail;refine Y.out.mono ?_;rintro z w4 ⟨a4,c4,rfl,J,ka⟩;have he:=yw ka;have kr:=yw (O.out.behind he.out);have kf:=yw (xE.SG J);have kn:Hid (∀r,a4=zo ⟨r,0,zp⟩->¬F1 r):=yw (fun r hr hF=>by have h1:=(J.lt r (by rw[hr];rfl)).1;have:=(Z.out r hF).2;omega);clear J ka a;go_wp2_with fail;obtain⟨wq,k6⟩:=yB wr
   rw[<-k6]at HL O Z he;clear k6 Y;go_loopw [5,31] (fun _ i wr=>∃(k:Nat) (T:Sc),k<=nl/\i=zd zj k/\yG w4 F1 s T L wr/\T.Fit b/\H.PX T/\T.shares (M.drop k)=H.shares M) (fun _ i _=>nl-(intOf i).toNat)
   case atStart=>exact⟨0,H,by omega,rfl,yG.refl kr.out,I.out,.refl H,rfl⟩
   case round=>
    obtain⟨k,T,hk,rfl,V,A,o,k9⟩:=hrel;obtain⟨h0,E,k3,k0⟩:=Qf V A o k9;clear V A o k9;by_cases N:k<nl
    .have ki:(k:Int) <(nl:Int):=by omega
     have hh:k<M.length:=by rw[<-Hy.out];exact N
     obtain⟨q,hq⟩:∃q,M[k]?=zo q:=⟨_,zy hh⟩
     have k8:M.drop k=q::M.drop (k+1):=by
      rw[List.drop_eq_getElem_cons hh]
      congr 1
      rw[zy hh]at hq;exact zx hq
     have kj:Hid ((T.share q).shares (M.drop (k+1))=H.shares M):=yw (by rw[<-k0.out,k8,ZE]);obtain⟨x,d,hx,X,hd⟩:=(H0.out.TB k3.out I.out.1 E.out.1) q (zW hq);obtain⟨f6,n6⟩:=Mh E.out hx X;have ky:=yw f6;have kk:=yw n6;obtain⟨r4,kz,kl,kx⟩:=(kf.out.RB h0.out.2 kn.out) k (ptr (L.gb q)) (Bo hq);subst kz;have K0:=yw (ZC q x d b wr _ s T L h0.out.1 E.out hx X hd);clear hq k8 hx X hd f6 n6;go_wp2_with fail;refine K0.out.mono ?_;rintro z w6 ⟨⟨v,rfl⟩,k2⟩;have P:=yw (h0.out.then k2);clear k2 kl kx;go_wp2_with fail;go_roundw
     case rel=>exact⟨k+1,_,by omega,by go_num,P.out,ky.out,k3.out.trans kk.out,kj.out⟩
     case measure=>simp[intOf];omega
    .have Q:k=nl:=by omega
     have k4:T=H.shares M:=by rw[<-k0.out,Q,Hy.out,List.drop_length];rfl
     have kq:=yw k4;have P:Hid (yG w F s T L wr):=yw (HL.out.then (yG.NZ he.out (h0.out.grow (G:=Ext F w wq) fun q hq=>(Z.out q hq).1)));obtain⟨s0,a⟩:=P.out.1.RZ;have H1:Hid (T9=T.choice T.ps):=yw (by rw[HT.out];unfold Sc.settle;simp only;rw[<-kd.out,<-hz.out,<-kq.out]);obtain⟨n,hn⟩:=yB T.ps
     have h7:=yw hn;have K6:n<=64:=by rw[hn];exact E.out.1.ps.2
     rw[<-hn]at s0;clear k4 Q hn;go_wp2_with fail;clear s0 a;go_loopg [6,44] n (fun m _ i wr=>∃(p:Nat),p<=n/\n-p=m/\i=zd zj p/\yG w F s (T.choice p) L wr)
     case atStart=>exact⟨0,by omega,by omega,rfl,P.out⟩
     case round=>
      obtain⟨p,hp,hm,rfl,V⟩:=hrel;have ho:=yw V;have HM:=yw hm;clear V hm;obtain⟨fP,nP⟩:=Uy E.out p (by rw[<-h7.out];exact hp);by_cases K2:p<n
      .have m0:(p:Int) <(n:Int):=by omega
       have H6:Hid (Sc.PY p 40 (T.choice p)=T.choice (p+1)):=yw (ZF T p).symm;obtain⟨T7,h9⟩:=yB (T.choice p)
       have kc:Hid (p<T7.ps):=yw (by rw[h9,nP.ps,<-h7.out];exact K2);rw[<-h9]at ho H6 fP;have kg:=yw fP;clear h9 fP nP;go_wp2_with fail;go_loopg [] 32 (fun m wr=>∃(j:Nat) (U:Sc),yG w F s U L wr/\U.Fit b/\p<U.ps/\(U.hs p).going<=m/\(U.hs p).going<j/\Sc.PY p j U=T.choice (p+1))
       case atStart=>exact⟨40,T7,ho.out,kg.out,kc.out,Aa _,Nat.lt_of_le_of_lt (Aa _) (by omega),H6.out⟩
       case round=>
        obtain⟨j,U,V,A,R,h6,ht,f⟩:=hrel;obtain⟨k1,K8,kh,K3,K9⟩:=Qg V A R h6 f;obtain⟨j',t⟩:∃j',j=j'+1:=⟨j-1,by omega⟩
        obtain⟨HJ,kw,h3⟩:=Qe t ht (Pd p b wr _ s U L V.1 A R);obtain⟨f9,n9⟩:=Hq A R;have kt:=yw f9;have km:=yw n9;cases hc:(U.choose p).2 with
        | true=>
         rw[hc]at h3;have W:Hid (T.choice (p+1)=(U.choose p).1):=yw (by rw[<-f,t,Pn hc]);clear V A R h6 ht f t f9 n9 hc;go_wp2_with fail;refine h3.out.mono ?_;rintro z w9 ⟨rfl,C⟩;have h5:=yw (k1.out.then C);clear C;go_wp2_with fail;go_roundg (n-(p+1))
         case measure=>have:=HM.out;omega
         case rel=>exact⟨p+1,by omega,rfl,by go_num,by rw[W.out];exact h5.out⟩
        | false=>
         rw[hc]at h3;have W:Hid (Sc.PY p j' (U.choose p).1=T.choice (p+1)):=yw (by rw[<-f,t,Iy hc]);have H8:=yw (Ac A R hc);clear V A R h6 ht f t f9 n9 hc;go_wp2_with fail;refine h3.out.mono ?_;rintro z w9 ⟨rfl,C⟩;have h5:=yw (k1.out.then C);clear C;go_wp2_with fail;go_roundg (((U.choose p).1.hs p).going)
         case measure=>have:=H8.out;have:=K3.out;omega
         case rel=>exact⟨j',_,h5.out,kt.out,by rw[km.out.ps];exact kh.out,yA _,by have:=H8.out;have:=kw.out;have:=HJ.out;omega,W.out⟩
      .have k5:p=n:=by omega
       have H2:Hid (yG w F s T9 L wr):=yw (by rw[H1.out,<-h7.out,<-k5];exact ho.out);clear fP nP k5;go_wp2;go_end0;exact⟨⟨_,rfl⟩,H2.out⟩
theorem yK.vc_(h:yK w F s S L)(B:p<S.ps):∃r A,L.vc=zf (zo ⟨r,0,zp⟩) S.ps A:=by obtain⟨tg,h⟩:=h;obtain⟨r,A,D,h2,h3⟩:=Kb h.cs.row B;exact⟨r,A,D⟩
theorem yK.iY(h:yK w F s S L){r A:Nat}(D:p<S.ps)(E:L.vc=zf (zo ⟨r,0,zp⟩) n A):w.cell? ⟨s,106,zp⟩=zo (zf (zo ⟨r,0,zp⟩) n A)/\w.cell? ⟨r,p,zp⟩=zo (ptr (L.cb p))/\r<w.heap.size/\xO w (L.cb p) (S.cs p):=by obtain⟨tg,h⟩:=h;obtain⟨r',h0,B,G,H⟩:=Kb h.cs.row D;rw[E]at B;simp only[Value.slice.injEq,ya,Addr.mk.injEq,and_true]at B;obtain⟨e,_⟩:=B;subst e;exact⟨by rw[<-E];exact h.sx.vc,G,H,(h.cs.ck p D).2⟩
theorem yK.rowG(h:yK w F s S L){r A:Nat}{g:Gp}(hk:S.gs[k]?=zo g)(I:g.there=zq)(D:L.vg=zf (zo ⟨r,0,zp⟩) n A):w.cell? ⟨s,8,zp⟩=zo (zf (zo ⟨r,0,zp⟩) n A)/\w.cell? ⟨r,k,zp⟩=zo (ptr (L.gb k))/\r<w.heap.size:=by obtain⟨-,E,H⟩:=h.bU;obtain⟨r',h0,B,G,J⟩:=H k g hk I;rw[D]at B;simp only[Value.slice.injEq,ya,Addr.mk.injEq,and_true]at B;obtain⟨e,_⟩:=B;subst e;exact⟨by rw[<-D];exact E,G,J⟩
theorem BN(e:Ev)(b:Nat)(w:zu)(F:Nat->Prop)(s:Nat)(S:Sc)(L:Lay)(h:yK w F s S L)(ok:S.Fit b)(H0:b<900)(hp:S.TN e.a)(kw:¬(e.n<0∨S.tick<e.n))(p:Nat)(m0:e.a=p)(n:Nat)(t:Tk)(g:Gp)(hr:S.running p=n)(hn:S.ts[n]?=zo t)(n9:t.on=zq)(hg:S.gs[t.OG]?=zo g)(kb:g.there=zq)(na:(S.hs p).running≠ -1):
 zw prog 52 #[ptr s,zg (OX e)] w (TM w F s L (S.PP e)):=by
 have my:e.a.toNat=p:=by omega
 have ho:=Vc hp kw (by rw[my];exact hr) hn;rw[my]at ho;obtain⟨O,hO⟩:=yB (S.PP e)
 rw[<-hO]at ho ⊢;have kd:=yw ho;unfold TM;obtain⟨w1,kz⟩:=yB (w.alloc (zn (OX e) 35))
 have M8:Below w.heap.size w w1:=by rw[kz];exact yE w _
 have hE:RG w1 w.heap.size e:=by rw[kz];exact RG.new w e
 obtain⟨F0,ka⟩:∃F0:Nat->Prop,F0=fun k=>F k/\k<w.heap.size:=⟨_,rfl⟩
 have nd:Hid (∀k,F0 k->F k):=yw (by rw[ka];exact fun k hk=>hk.1);have K0:Hid (yK w1 F0 s S L):=yw (by rw[ka];exact h.PA.behind M8);have mv:=yw M8;have kl:=yw (uu e.a w1 F0 s S L K0.out);obtain⟨D,hD⟩:=yB w.heap.size
 have mo:Hid (¬F0 D):=yw (by rw[ka,hD];intro hk;omega);have r3:Hid (∀k,F0 k->k<w.heap.size):=yw (by rw[ka];exact fun k hk=>hk.2);rw[<-hD]at hE;have HE:=yw hE;obtain⟨-,J,-,U,-,-⟩:=hE.c6;have A:=hE.lt;have s1:=K0.out.eO;have B:=K0.out.RZ.2;clear h M8 hE ka;rw[decide_eq_true hp]at kl;have K6:p<S.ps:=by have:=hp.2;omega
 have s3:=ok.1.tick;have ha:0<=e.n:=by omega
 have H3:e.n<=1000000000:=by omega
 have s0:e.n<=S.tick:=by omega
 have R9:IntKind.u64.wrap e.n=e.n:=by simp only[IntKind.wrap,yq,IntKind.bits];simp;omega
 have R1:p<64:=by have:=ok.1.ps.2;omega
 have hf:=yw m0;rw[m0]at J;have kq:=ok.1.ck p K6;have pe:=kq.1.small (by omega);have k2:=(yy hn).1;have R8:=ok.1.tl;have nj:(if S.TN (p:Int)then S.running (p:Int).toNat else -1)=(n:Int):=by rw[if_pos (by rw[<-m0];exact hp),zI,hr]
 obtain⟨ra,ml,H9,HN,HG,K2,rd⟩:=Qi nj K6 ok hn hg kb na;have P5:=(ok.1.on hn n9).wt;obtain⟨h6,M6,nw⟩:=ok.1.dB hg kb;obtain⟨p6,Hy,N7⟩:=Hw ok H0 K6 (n:=n) hg kb ha H3;obtain⟨rf,pr,pz,r6⟩:=Qf p6 Hy N7 k2;have R7:(n:Int) <(S.ts.length:Int):=by omega
 have n8:n<1000:=by omega
 have Q:=yw (XI ok H0 K6 (n:=n) hg kb ha H3);have m2:Hid (S.SY p n t.OG e.n=Sc.PT p e.n (S.limited (S.SP t.OG)) (({ S with book:=S.book.credit (0::S.SP t.OG) n e.n }:Sc).OM p ((S.hs p).OK e.n))):=yw rfl;obtain⟨S3,no⟩:=yB (S.SY p n t.OG e.n)
 rw[<-no]at rf pr pz m2 kd;obtain⟨f,m3⟩:=yB (S.SP t.OG)
 have K9:=yw m3;rw[<-m3]at Q m2;obtain⟨S1,K7⟩:∃S1,S1=({ S with book:=S.book.credit (0::f) n e.n }:Sc):=⟨_,rfl⟩
 have m1:Hid (S1.ps=S.ps/\S1.gs=S.gs/\S1.ts=S.ts/\S1.hs=S.hs/\S1=({ S with book:=S.book.credit (0::f) n e.n }:Sc)):=yw (by rw[K7];exact⟨rfl,rfl,rfl,rfl,rfl⟩);obtain⟨S2,mu⟩:=yB (S1.OM p ((S.hs p).OK e.n))
 have k5:Hid (S2.ps=S.ps/\S2.gs=S.gs/\S2.ts=S.ts/\S2=S1.OM p ((S.hs p).OK e.n)):=yw (by rw[mu,K7];exact⟨rfl,rfl,rfl,rfl⟩);obtain⟨LM,M7⟩:=yB (S.limited f)
 have P4:=yw M7;rw[<-M7,<-K7,<-mu]at Q m2;obtain⟨m,hm⟩:=yB f.length
 have HM:=yw hm;rw[<-m3]at h6 M6 nw;rw[<-hm]at nw;have pf:=yw h6;have rv:=yw M6;clear hp ok ho hr kw m0 my nj hO hn hg kb na n9 kq pe k2 p6 Hy N7 m3 hm h6 M6 no K7 mu M7;go_enter func52,ntmps52;go_wp2_with fail;rw[show w.alloc (zn (OX e) 35)=w1 from kz.symm,<-hD];clear kz hD;refine kl.out.mono ?_;rintro z w2 ⟨rfl,hw⟩;obtain rfl:=hw.symm;go_wp2_with fail;go_quiet (fail);obtain⟨w2,M3⟩:=yB (w1.drewN nq)
 have m5:Hid (Below w1.heap.size w1 w2):=yw (by rw[M3];exact yH (Below.refl _ w1) nq);rw[<-M3];clear M3 J U A s1 B;have N4:=yw (K0.out.behind m5.out);have M0:=yw (HE.out.behind m5.out);obtain⟨-,J,-,U,-,-⟩:=M0.out.c6;rw[hf.out]at J;have A:=M0.out.lt;have ku:=yw (xT p w2 F0 s S L N4.out);rw[ra.out]at ku;go_wp2_with fail;refine ku.out.mono ?_;rintro z w3 ⟨rfl,K4⟩;have M4:=yw (yC (yC mv.out m5.out mv.out.size) K4 (by have:=mv.out.size;have:=m5.out.size;omega));have k8:=yw (N4.out.behind K4);have mg:=yw (M0.out.behind K4);clear K4 J U A;obtain⟨-,J,-,U,-,-⟩:=mg.out.c6
 rw[hf.out]at J;have A:=mg.out.lt;obtain⟨-,s7,h5⟩:=k8.out.RN;obtain⟨rt,ct,p8,rx,n4⟩:=h5 n r6.out;rw[p8]at s7;have B:=k8.out.RZ.2;obtain⟨-,-,-,-,-,t5,-⟩:=(k8.out.tk HN.out).TY;have HW:=yw (Mc t.OG g b w3 F0 s S L k8.out H9.out.1 HG.out K2.out);rw[<-K9.out,<-HM.out]at HW;clear h5 p8;go_wp2_with fail;refine HW.out.mono ?_;rintro z w4 ⟨a4,c4,rfl,hz,m8⟩;obtain⟨nf,pi,P9,P1⟩:=Qf (yC M4.out m8 M4.out.size) (k8.out.behind m8) hz (mg.out.behind m8);clear hz m8 s7 rx n4 B t5 J U A;go_wp2_with fail;obtain⟨w5,K3⟩:=yB (w4.alloc (zn #[zd zj 0] 3))
 have ki:Hid (Below w4.heap.size w4 w5):=yw (by rw[K3];exact yE w4 _);have r0:Hid (w5.ownsRow w4.heap.size 3 1 (zf (zo ⟨w4.heap.size,0,zp⟩) 1 1) 1 [zd zj 0]):=yw (by rw[K3];exact LI w4 _ _ _ (yA _));have pn:=yw (qQ P9.out ki.out);rw[<-K3];clear K3;obtain⟨i0,hi,ri,r7,rk⟩:=info_parts Gw;go_loopw [9,11,71] (fun v _ i wr=>∃(k:Nat) (ar:Option Addr) (cr:Nat),k<=m/\i=zd zj k/\v=zf ar (k+1:Nat) cr/\wr.ownsRow w4.heap.size 3 1 (zf ar (k+1) cr) (k+1) (jv ((0::f.take k).map Int.ofNat))/\Below w4.heap.size w4 wr/\wr.ownsRow w3.heap.size 59 1 (zf a4 m c4) m (bH L.gb f)) (fun _ _ i _=>m-(intOf i).toNat)
 case atStart=>exact⟨0,zo ⟨w4.heap.size,0,zp⟩,1,by omega,rfl,rfl,r0.out,ki.out,pn.out⟩
 case round=>
  obtain⟨k,ar,cr,hk,rfl,rfl,kj,hb,h5⟩:=hrel;obtain⟨HO,HB,HR,HS⟩:=Qf kj hb h5 (pi.out.behind hb);clear kj hb h5;by_cases mn:k<m
  .obtain⟨q,C⟩:∃q,f[k]?=zo q:=⟨_,zy (by rw[<-HM.out];exact mn)⟩
   obtain⟨r,P7,hc,K⟩:=(xE.SG HR.out) k (ptr (L.gb q)) (Bo C);subst P7;obtain⟨y,hy,nn,_⟩:=H9.out.1.AW HG.out K2.out q (by rw[<-K9.out];exact zW C);obtain⟨g0,-⟩:=(HS.out.gp hy).c7;have md:=(HS.out.gp hy).lt;have ng:=yw (VY f k q C);obtain⟨ys,p5⟩:=yB (jv ((0::f.take k).map Int.ofNat))
   rw[<-p5]at HO ng;have rh:(k:Int) <(m:Int):=by omega
   have po:=HB.out.size;clear p5 C hy;go_wp2_with (at_builtin;go_loud (refine wpList_append_own _ rfl _ _ 43 rfl w4.heap.size 3 i0 (zd zj 0) 1 8 underlying43 hi ri r7 rk rfl (by decide) _ (k+1) ys rfl (HO.out.alloc _) ⟨wr.heap.size,0,zp⟩ 1 1 [zd zj (q:Nat)] rfl rfl ?c1 ?c2 ?c3 ?c4 ?c5 ?_))
   case c1=>exact World.news_of_block (cs:=#[zd zj (q:Nat)]) (t:=3) (fr:=(0,0)) (heap_alloc_new wr _)
   case c2=>intro u hu;simp at hu;subst hu;rfl
   case c3=>unfold maxLen;omega
   case c4=>omega
   case c5=>simp;omega
   intro v' w6 h8 mi _;have nx:Below w4.heap.size w4 w6:=(HB.out.alloc po _).grown mi (by simp;omega) fun j hj=>(HO.out.lt j hj).1;obtain⟨pd,ph,rn⟩:=Qe (Tw mi (HO.out.alloc _) (HR.out.alloc _) (by decide)) nx h8;rcases h8.2 with⟨_,h0⟩|⟨g,N0,cur,hv,_⟩
   .omega
   subst hv;clear nx h8 mi hc K g0 md;go_wp2_with fail;go_roundw
   case rel=>exact⟨k+1,_,_,by omega,by go_num,rfl,by rw[ng.out];exact rn.out,ph.out,pd.out⟩
   case measure=>simp[intOf];omega
  .have ma:k=m:=by omega
   have p7:=yw ma;clear ma;have nh:f.take k=f:=by rw[p7.out,HM.out,List.take_length]
   rw[nh]at HO;have H6:=HS.out.bV.1;have P6:=(HS.out.kept (w':=wr.drew) fun _ _ _=>rfl).bV;obtain⟨-,G,hK,nr⟩:=P6;have rm:=yw nr;have k4:=H9.out.1.bk;have X:(0::f).length=k+1:=by rw[List.length_cons,<-HM.out,p7.out]
   have pb:=yw (Tq (0::f) ar cr w4.heap.size n e.n wr.drew G L.bk S.book hK (by rw[X];exact HO.out) (by rw[X];omega) (by rw[X];omega)
    (Mm (List.nodup_cons.2 ⟨fun hh=>rv.out 0 hh rfl,pf.out⟩)) (fun q C=>by
     rcases List.mem_cons.1 C with rfl|C
     .omega
     .obtain⟨y,hy,_⟩:=H9.out.1.AW HG.out K2.out q (by rw[<-K9.out];exact C);have h1:=(yy hy).1;have h2:=H9.out.1.gl.2;omega) (by omega) ha k4.total.1 (by have:=k4.total.2;omega) (k4.bt n) k4.bg (by have:=k4.many;omega))
   rw[X]at pb;have H1:=yw (P1.out.behind HB.out);obtain⟨-,-,-,U,-,-⟩:=H1.out.c6;have A:=H1.out.lt;have B:=HS.out.RZ.2;have nz:=yw (xE.SG HR.out);have mx:=yw (yC nf.out HB.out nf.out.size);have n5:Hid (∀r,a4=zo ⟨r,0,zp⟩->¬F0 r):=yw (fun r hr hF=>by have h1:=(HR.out.lt r (by rw[hr];rfl)).1;have h2:=r3.out r hF;have h3:=M4.out.size;omega);clear hK nr k4 X nh;go_wp2_with fail;go_region_held3 (fun w'=>w'.cell? ⟨s,107,zp⟩=zo (ptr L.bk)/\w'.cell? ⟨D,3,zp⟩=zo (zd zj e.n)) (go_keep)
    (first
     | (
      go_at_call 98;refine pb.out.mono ?_;rintro z w6 ⟨rfl,p2,p0⟩;have o:Hid (yG wr F0 s S1 L w6):=yw (by rw[m1.out.2.2.2.2];exact yG.NZ (⟨rfl,rfl,rfl,yA _,fun _ _=>rfl⟩:Below wr.heap.size wr wr.drew) (rm.out _ _ p2 p0));clear p2 p0 H6 U A B;have H6:=o.out.1.bV.1;have k7:Hid (RG w6 D e):=yw ((o.out.2.block D H1.out.lt mo.out).trans H1.out);obtain⟨-,-,-,U,-,-⟩:=k7.out.c6;have A:=k7.out.lt;have B:=o.out.1.RZ.2))
   all_goals
    clear H6 U A B;have mc:Hid (p<S1.ps):=yw (by rw[m1.out.1];exact ml.out);have R0:(p:Int) <(S1.ps:Int):=by have:=mc.out;omega
    obtain⟨-,J,-,U,-,-⟩:=k7.out.c6;rw[hf.out]at J;have A:=k7.out.lt;obtain⟨r1,N0,hv⟩:=o.out.1.eD mc.out;have ru:=yw hv;obtain⟨V,rp,K⟩:=o.out.1.SK mc.out hv;have B:=o.out.1.RZ.2;obtain⟨G2,hH,hU⟩:=o.out.1.SX mc.out;have px:=yw hU;have pm:=yw (Su e.n w6.drew G2 (L.hb p) (S1.hs p) (hH.kept fun _ _ _=>rfl) (by rw[m1.out.2.2.2.1];exact rd.out) ha H3);clear hv hH hU;go_wp2_with fail;go_region_held3 (fun w'=>w'.cell? ⟨s,105,zp⟩=zo (zf (zo ⟨r1,0,zp⟩) S1.ps N0)/\w'.cell? ⟨r1,p,zp⟩=zo (ptr (L.hb p))/\w'.cell? ⟨D,1,zp⟩=zo (zd zj p)/\w'.cell? ⟨D,3,zp⟩=zo (zd zj e.n)) (go_keep)
     (first
      | (
       go_at_call 99;refine pm.out.mono ?_;rintro z w7 ⟨rfl,N9⟩;have he:Hid (yG wr F0 s S2 L w7):=yw (by have:=o.out.then (px.out _ _ (qv.NZ (F:=G2) (⟨rfl,rfl,rfl,yA _,fun _ _=>rfl⟩:Below w6.heap.size w6 w6.drew) N9));rw[m1.out.2.2.2.1]at this;rw[k5.out.2.2.2];exact this);clear N9 J U A V rp K B;have mh:Hid (RG w7 D e):=yw ((he.out.2.block D H1.out.lt mo.out).trans H1.out);obtain⟨-,J,-,U,-,-⟩:=mh.out.c6;rw[hf.out]at J;have A:=mh.out.lt;have B:=he.out.1.RZ.2;obtain⟨V,rp,K⟩:=he.out.1.SK (p:=p) (n:=S1.ps) (by rw[k5.out.1];exact ml.out) ru.out))
    all_goals
     clear J U A V rp K B;have nc:Oz w7 a4 (xK ((f.map zo).map (Option.map L.gb))):=by rw[Ak];exact .of_v (nz.out.RB he.out.2 n5.out)
     obtain⟨F2,Hy⟩:∃F2:Nat->Prop,F2=fun k=>Ext F0 wr w7 k/\k<w7.heap.size:=⟨_,rfl⟩
     have P:Hid (∀k,F2 k->Ext F0 wr w7 k/\k<w7.heap.size):=yw (by rw[Hy];exact fun k hk=>hk);have nu:Hid (yK w7 F2 s S2 L):=yw (by rw[Hy];exact he.out.1.PA);have H5:Hid (¬F2 D):=yw (fun hk=>by
      rcases(P.out D hk).1 with h1|h1
      .exact mo.out h1
      .have:=H1.out.lt;omega)
     have M2:=yw (Xk (f.map zo) a4 m c4 w7 F2 s S2 L nu.out (by rw[List.length_map];exact HM.out) (by omega) nc (fun q C=>by obtain⟨q',N8,e⟩:=yh.1 C;obtain rfl:=zx e;rw[K9.out]at N8;obtain⟨y,hy,nn,_⟩:=H9.out.1.AW HG.out K2.out q' N8;exact⟨y,by rw[k5.out.2.1];exact hy,nn⟩));have mr:S2.RQ (f.map zo)=LM:=by rw[Hz,P4.out];unfold Sc.limited Sc.g;rw[k5.out.2.1]
     rw[mr]at M2;have M9:LM.length<=8:=by have h1:=Ew S2 (f.map zo);rw[mr,List.length_map,<-HM.out]at h1;omega
     obtain⟨nl,k2⟩:=yB LM.length
     have kt:=yw k2;rw[<-k2]at M2 M9;clear nc Hy mr k2;go_wp2_with fail;refine M2.out.mono ?_;rintro z w8 ⟨a8,c8,rfl,h7,m9⟩;obtain⟨N5,P8,k3,rz⟩:=Qf m9 (nu.out.behind m9) (mh.out.behind m9) (xE.SG h7);have n7:Hid (∀r,a8=zo ⟨r,0,zp⟩->¬F2 r):=yw (fun r hr hF=>by have h1:=(h7.lt r (by rw[hr];rfl)).1;have:=(P.out r hF).2;omega);clear h7 m9;go_wp2_with fail;obtain⟨wv,N6⟩:=yB wr
     rw[<-N6]at he mx P;clear N6 o k7 nz;go_loopw [14,110] (fun _ i wr=>∃(k:Nat) (T:Sc),k<=nl/\i=zd zj k/\yG w8 F2 s T L wr/\T.Fit (b+1)/\S2.PX T/\T.cJ b (LM.drop k)/\Sc.PT p e.n (LM.drop k) T=S3) (fun _ i _=>nl-(intOf i).toNat)
     case atStart=>exact⟨0,S2,by omega,rfl,yG.refl P8.out,Q.out.1,.refl S2,Q.out.2.2,m2.out.symm⟩
     case round=>
      obtain⟨k,T,hk,rfl,hl,kg,ht,H2,ny⟩:=hrel;obtain⟨HL,k9,mj,r2,p1⟩:=Qg hl kg ht H2 ny;clear hl kg ht H2 ny;have K5:p<T.ps:=by rw[mj.out.ps,k5.out.1];exact ml.out
      have me:=yw K5;have N1:Hid (RG wr D e):=yw ((HL.out.2.block D k3.out.lt H5.out).trans k3.out);obtain⟨-,J,-,U,-,-⟩:=N1.out.c6;rw[hf.out]at J;have A:=N1.out.lt;by_cases mn:k<nl
      .have rh:(k:Int) <(nl:Int):=by omega
       have mm:k<LM.length:=by rw[<-kt.out];exact mn
       obtain⟨q,C⟩:∃q,LM[k]?=zo q:=⟨_,zy mm⟩
       have K8:LM.drop k=q::LM.drop (k+1):=by
        rw[List.drop_eq_getElem_cons mm]
        congr 1
        rw[zy mm]at C;exact zx C
       have H2:=r2.out;rw[K8]at H2;have nk:(q::LM.drop (k+1)).Nodup:=by rw[<-K8];exact Q.out.2.1.sublist (List.drop_sublist _ _)
       obtain⟨x,d,hx,P2,hd,py,K1⟩:=H2 q yk;have mf:=uB (b:=d) (p:=p) (by omega);have mz:=Hv (p:=p) K1 (by omega) ha H3;have m6:=Bt (p:=p) (ns:=e.n) (r:=LM.drop (k+1)) hx hd;rw[<-K8,p1.out]at m6;obtain⟨E,hE⟩:=yB ((d.OW p (xA d p) e.n).SQ p (d.left (xA d p) e.n))
       rw[<-hE]at mz m6;have ks:E.l.length=d.l.length:=by rw[hE,Wt,Ct]
       obtain⟨f1,n1⟩:=k9.out.ON (d':=E) hx hd (fun _=>mz) ks;obtain⟨pg,r4,rq,n6⟩:=Qf f1 n1 m6 (XJ (x':=x.ON E) H2 nk);obtain⟨r8,pu,pw,pc⟩:=(rz.out.RB HL.out.2 n7.out) k (ptr (L.gb q)) (Bo C);subst pu;obtain⟨-,-,-,-,-,x5,-⟩:=(HL.out.1.gp hx).c7;have md:=(HL.out.1.gp hx).lt;rw[hd]at x5;simp only[Option.isSome_some,if_true]at x5;have mq:=yw (Qt.dZ p (xA d p) e.n wr.drew (L.bb q) d ((HL.out.1.kept (w':=wr.drew) fun _ _ _=>rfl).band hx hd) (K1.small (by omega)) mf ha H3 ((K1.OW mf ha H3).small (by omega)));rw[<-hE]at mq;have HX:=yw hx;have HD:=yw hd
       obtain⟨mb,pa⟩:=yB ((d.OW p (xA d p) e.n).may (d.left (xA d p) e.n))
       rw[<-pa]at mq;clear C K8 H2 nk hx P2 hd py K1 mf mz m6 hE ks f1 n1 pa;go_wp2_with fail;go_region_with
        (
         go_at_call 100;refine mq.out.mono ?_;rintro z w9 ⟨rfl,H,nm⟩;have pt:=yw (HL.out.then (yG.NZ (⟨rfl,rfl,rfl,yA _,fun _ _=>rfl⟩:Below wr.heap.size wr wr.drew) ((HL.out.1.kept (w':=wr.drew) fun _ _ _=>rfl).cC HX.out HD.out nm H)));clear H nm J U A x5 md pw pc)
       all_goals
        go_wp2_with fail;go_roundw
        case rel=>exact⟨k+1,_,by omega,by go_num,pt.out,pg.out,mj.out.trans r4.out,n6.out,rq.out.symm⟩
        case measure=>simp[intOf];omega
      .have ma:k=nl:=by omega
       have rb:T=S3:=by rw[<-p1.out,ma,kt.out,List.drop_length];rfl
       subst rb;obtain⟨x0,ke,_,_,H7,_⟩:=k9.out.1.g0;have P0:=yw ke;have m4:T.ts[n]?=zo t:=by rw[mj.out.ts,k5.out.2.2.1];exact HN.out
       have N2:=yw m4;obtain⟨rc,cc,ms⟩:=HL.out.1.vc_ K5;have pq:=yw ms;obtain⟨N,H4,R,hC⟩:=HL.out.1.iY K5 ms;obtain⟨-,-,-,-,-,-,-,t7,-⟩:=(HL.out.1.tk m4).TY;have Z:=(HL.out.1.tk m4).lt;have s8:=HL.out.1.bU.2.1;obtain⟨rg,n0,M1,k6,Y⟩:=HL.out.1.bU.2.2 0 x0 ke H7;rw[M1]at s8;have R2:0<T.gs.length:=(yy ke).1;have B:=HL.out.1.RZ.2;have p4:=yw (Yh 0 p x0 (b+1) wr.drew _ s T L (HL.out.1.kept (w':=wr.drew) fun _ _ _=>rfl) k9.out.1 ke H7 (by omega));obtain⟨lo,nb⟩:=yB (T.load 0 p)
       have kv:=k9.out.1.load 0 p;rw[<-nb]at p4 kv kd;obtain⟨c,hc⟩:=yB ((T.cs p).tick e.n)
       obtain⟨du,mw⟩:=yB (c.due t.w lo)
       rw[<-hc,<-mw]at kd;have p3:=(k9.out.1.ck p K5).1.small (by omega);have rj:Hid (∀W,xO W (L.cb p) (T.cs p)->zw prog 96 #[ptr (L.cb p),zd zk e.n,zd zk t.w,zd zk lo] W fun z w'=>z=zm (zi #[zh du,zd zj 0])/\xO w' (L.cb p) c/\OA (fun k=>k=L.cb p) W w'):=yw (by rw[mw,hc];exact fun W hW=>Ly e.n t.w lo W (L.cb p) (T.cs p) hW p3 ha H3 ⟨by omega,P5.2⟩ kv);have R3:(p:Int) <(T.ps:Int):=by omega
       have N3:=yw hC;have P3:=yw M1;clear nb hc mw p3 ke m4 hC M1 ms;go_wp2_with fail;go_region_held3 (fun w'=>w'.cell? ⟨s,106,zp⟩=zo (zf (zo ⟨rc,0,zp⟩) T.ps cc)/\w'.cell? ⟨rc,p,zp⟩=zo (ptr (L.cb p))/\w'.cell? ⟨D,1,zp⟩=zo (zd zj p)/\w'.cell? ⟨D,3,zp⟩=zo (zd zj e.n)/\w'.cell? ⟨L.tb n,7,zp⟩=zo (zd zk t.w)/\w'.cell? ⟨s,8,zp⟩=zo (zf (zo ⟨rg,0,zp⟩) T.gs.length n0)/\w'.cell? ⟨rg,0,zp⟩=zo (ptr (L.gb 0))) (go_keep)
        (first
         | (
          go_at_call 17;refine p4.out.mono ?_;rintro z w9 ⟨rfl,H⟩;have nt:=yw (show Below wr.heap.size wr w9 from⟨H.os,H.tape,H.output,H.size,H.block⟩);replace N:=(H.cell (p:=⟨s,106,zp⟩) B).trans N;replace H4:=(H.cell (p:=⟨rc,p,zp⟩) R).trans H4;replace J:=(H.cell (p:=⟨D,1,zp⟩) A).trans J;replace U:=(H.cell (p:=⟨D,3,zp⟩) A).trans U;replace t7:=(H.cell (p:=⟨L.tb n,7,zp⟩) Z).trans t7;replace s8:=(H.cell (p:=⟨s,8,zp⟩) B).trans s8;replace k6:=(H.cell (p:=⟨rg,0,zp⟩) Y).trans k6;replace B:=yz B H.size;replace R:=yz R H.size;replace A:=yz A H.size
          replace Z:=yz Z H.size;replace Y:=yz Y H.size;clear H)
         | (
          go_at_call 96;refine(rj.out w9 (N3.out.of (nt.out.block _ N3.out.lt))).mono ?_;rintro z Hg ⟨rfl,ko,kh⟩;have mp:=HL.out.below nt.out;have I:=mp.then (mp.1.eC me.out kh ko);have H8:=yw I;have h9:RG Hg D e:=(I.2.block D k3.out.lt H5.out).trans k3.out;clear ko kh mp N H4 R J U A t7 Z s8 k6 Y B;obtain⟨N,H4,R,-⟩:=I.1.iY (p:=p) me.out pq.out;obtain⟨-,J,-,U,-,-⟩:=h9.c6;rw[hf.out]at J;have A:=h9.lt;obtain⟨-,-,-,-,-,-,-,t7,-⟩:=(I.1.tk (n:=n) (t:=t) N2.out).TY;have Z:=(I.1.tk (n:=n) (t:=t) N2.out).lt;obtain⟨s8,k6,Y⟩:=I.1.rowG (k:=0) (g:=x0) P0.out H7 P3.out
          have B:=I.1.RZ.2;have kp:=yw h9;clear I h9))
       all_goals
        clear N H4 R J U A t7 Z s8 k6 Y B;have kf:Hid (yG w F s (T.PZ p c) L Hg):=yw (yG.NZ mx.out ((he.out.then (yG.NZ N5.out (H8.out.grow (G:=Ext F0 wv w7) fun q C=>(P.out q C).1))).grow (G:=F) nd.out));cases du with
        | false=>
         have ky:Hid (O=(T.PZ p c,(n:Int),0)):=yw (by rw[kd.out];rfl);go_wp2;go_ret2;rw[ky.out];exact⟨rfl,kf.out⟩
        | true=>
         obtain⟨S4,kc⟩:=yB (T.PZ p c)
         have ky:Hid (O=((S4.OM p (S4.hs p).yield.1).PZ p (c.begin (-1)),(n:Int),0)):=yw (by rw[kd.out,kc];rfl);have k0:Hid (p<S4.ps):=yw (by rw[kc];exact me.out);have re:Hid (S4.cs p=c):=yw (by rw[kc];exact yR _ _ _);have I:=H8.out;rw[<-kc]at I;have h4:=yw I;clear kc I kf H8;obtain⟨-,J,-,U,-,-⟩:=kp.out.c6;rw[hf.out]at J;have A:=kp.out.lt;obtain⟨r1,n2,hv⟩:=h4.out.1.eD k0.out;have ro:=yw hv;obtain⟨V,rp,K⟩:=h4.out.1.SK k0.out hv;have B:=h4.out.1.RZ.2;obtain⟨G3,hH,hU⟩:=h4.out.1.SX k0.out;have rl:=yw hU;have p9:=yw (Gu Hg.drew G3 (L.hb p) (S4.hs p) (hH.kept fun _ _ _=>rfl))
         have R6:(p:Int) <(S4.ps:Int):=by have:=k0.out;omega
         obtain⟨yv,ne⟩:=yB ((S4.hs p).yield.2)
         rw[<-ne]at p9;clear hv hH hU ne;go_wp2_with fail;go_region_held3 (fun w'=>w'.cell? ⟨s,105,zp⟩=zo (zf (zo ⟨r1,0,zp⟩) S4.ps n2)/\w'.cell? ⟨r1,p,zp⟩=zo (ptr (L.hb p))/\w'.cell? ⟨D,1,zp⟩=zo (zd zj p)) (go_keep)
          (first
           | (
            go_at_call 95;refine p9.out.mono ?_;rintro z k1 ⟨rfl,kr⟩;have M:=yw (h4.out.then (rl.out _ _ (qv.NZ (F:=G3) (⟨rfl,rfl,rfl,yA _,fun _ _=>rfl⟩:Below Hg.heap.size Hg Hg.drew) kr)));clear kr J U A V rp K B;have kx:Hid (RG k1 D e):=yw ((M.out.2.block D k3.out.lt H5.out).trans k3.out);obtain⟨-,J,-,U,-,-⟩:=kx.out.c6;rw[hf.out]at J;have A:=kx.out.lt;have B:=M.out.1.RZ.2;obtain⟨V,rp,K⟩:=M.out.1.SK (p:=p) (n:=S4.ps) k0.out ro.out))
         all_goals
          clear V rp K B;have m7:p<(S4.OM p (S4.hs p).yield.1).ps:=k0.out;obtain⟨r5,R4,kn⟩:=M.out.1.vc_ m7;obtain⟨N,H4,R,M5⟩:=M.out.1.iY m7 kn;have ni:(S4.OM p (S4.hs p).yield.1).cs p=c:=re.out;rw[ni]at M5;have B:=M.out.1.RZ.2;have pj:=yw (Uq (-1) k1.drew (L.cb p) c M5 (by omega) (by omega));obtain⟨S5,np⟩:=yB (S4.OM p (S4.hs p).yield.1)
          rw[<-np]at M N m7 ky;have rr:=yw m7;have R5:(p:Int) <(S5.ps:Int):=by omega
          clear kn M5 ni np;go_wp2_with fail;go_region_with
           (
            go_at_call 101;refine pj.out.mono ?_;rintro z ry ⟨⟨s2,rfl⟩,kk,km⟩;have n3:=yw (M.out.then (yG.NZ (⟨rfl,rfl,rfl,yA _,fun _ _=>rfl⟩:Below k1.heap.size k1 k1.drew) ((M.out.1.kept (w':=k1.drew) fun _ _ _=>rfl).eC rr.out km kk)));clear kk km J U A N H4 R B)
          all_goals
           have r9:Hid (yG w F s (S5.PZ p (c.begin (-1))) L ry):=yw (yG.NZ mx.out ((he.out.then (yG.NZ N5.out (n3.out.grow (G:=Ext F0 wv w7) fun q C=>(P.out q C).1))).grow (G:=F) nd.out));go_wp2;go_ret2;rw[ky.out];exact⟨rfl,r9.out⟩
theorem YJ(e:Ev)(b:Nat)(w:zu)(F:Nat->Prop)(s:Nat)(S:Sc)(L:Lay)(h:yK w F s S L)(E:S.Fit b)(A:b<900):
 zw prog 52 #[ptr s,zg (OX e)] w (TM w F s L (S.PP e)):=by
 by_cases D:S.TN e.a
 .by_cases B:e.n<0∨S.tick<e.n
  .exact FY e b w F s S L h E A D B
  .obtain⟨p,G⟩:∃p:Nat,e.a=p:=⟨e.a.toNat,by have:=D.1;omega⟩
   have H:p<S.ps:=by have:=D.2;omega
   by_cases I:S.running p= -1
   .exact VZ e b w F s S L h E A D B p G I
   .obtain⟨n,t,g,M,J,R,h4,O,T,N⟩:=E.run H I;exact BN e b w F s S L h E A D B p G n t g M J R O T N
 .exact FX e b w F s S L h E A D
def Ez(b g:Nat)(A T:Sc)(y:Gp)(B:Option Nat)(m:Nat):Prop:=
 T.Fit b/\T.gs[g]?=zo y/\y.there=zq/\y.band.isSome=zq/\(B=zp->T=A)/\∀p,B=zo p->p<T.ps/\y.line.length<m/\Sc.SN g y.line (T.OM p ((T.hs p).stop y.hi zt))=A
theorem YK{r:List Nat}{x:Gp}(A:S.gs[g]?=zo x):Sc.SN g (p::r) S=Sc.SN g r ((S.OF g (x.OP r)).OM p ((S.hs p).stop x.hi zt)):=by rw[Sc.SN,Sc.PE A]
theorem Bx{b:Nat}{A T:Sc}{r:List Nat}(I:T.Fit b)(D:T.gs[g]?=zo y)(G:y.there=zq)(hb:y.band.isSome=zq)(H:g≠0)(E:y.line=p::r)(J:Sc.SN g y.line T=A)(m:Nat)(R:r.length<m):Ez b g A (T.OF g (y.OP r)) (y.OP r) (zo p) m:=by
 have B:=(I.1.gx g y D G H).line;rw[E]at B;obtain⟨O,n1⟩:=I.OP (l:=r) D H fun M=>by rw[E]at M;exact Pb M
 refine⟨O,xg D,G,hb,fun h=>(by cases h),fun q N=>?_⟩;obtain rfl:=zx N;refine⟨B.1 p yk,R,?_⟩;rw[E,YK D]at J;exact J
theorem Ed{b:Nat}{A T:Sc}(H:T.Fit b)(G:T.gs[g]?=zo y)(I:y.there=zq)(hb:y.band.isSome=zq)(E:y.line= [])(B:Sc.SN g y.line T=A)(m:Nat):Ez b g A T y zp m:=by refine⟨H,G,I,hb,fun _=>?_,fun q D=>by cases D⟩;rw[E]at B;exact B
theorem ZG(e:Ev)(b:Nat)(w:zu)(F:Nat->Prop)(s:Nat)(S:Sc)(L:Lay)(h:yK w F s S L)(ok:S.Fit b):
 zw prog 43 #[ptr s,zg (OX e)] w (TM w F s L (S.TQ e)):=by
 obtain⟨w1,H⟩:=yB (w.alloc (zn (OX e) 35))
 have hh:Below w.heap.size w w1:=by rw[H];exact yE w _
 have h1:=h.behind hh;have hE:RG w1 w.heap.size e:=by rw[H];exact RG.new w e
 have H2:Hid (yG w F s S L w1):=yw ((yG.refl h).below hh);have HG:=yw (xG e.a w1 F s S L h1 (by have:=ok.1.gl;have:=ok.1.RY;omega));have hq:=yw (show yK w1 (fun k=>F k/\k<w.heap.size) s S L from(h.mono fun k hk hf=>⟨hf,hk⟩:yK w (fun k=>F k/\k<w.heap.size) s S L).behind hh);have K0:=yw hh;obtain⟨D,hD⟩:=yB w.heap.size
 have K3:=yw hD;rw[<-hD]at hE;have HE:=yw hE;obtain⟨-,e1,-,e3,e4,-⟩:=hE.c6;have H6:=hE.lt;clear h h1 hh hE;obtain⟨O,hO⟩:=yB (S.TQ e)
 rw[<-hO];unfold TM;cases hg:S.grp? e.a with
 | none=>
  have ho:O=(S,0,2):=by rw[hO];unfold Sc.TQ;rw[hg]
  subst ho;rw[hg]at HG;clear hO hg ok;go_enter func43,ntmps43;go_wp2_with fail;rw[show w.alloc (zn (OX e) 35)=w1 from H.symm,<-hD];clear H hD;refine HG.out.mono ?_;rintro z w2 ⟨rfl,hw⟩;obtain rfl:=hw.symm;go_wp2;go_ret2;exact⟨rfl,H2.out⟩
 | some g=>
  obtain⟨ha,x,j,h8,W⟩:=xm hg;rw[hg,show Yg L.gb (zo g)=ptr (L.gb g)from rfl]at HG;have HX:=yw j;by_cases h0:e.a=0
  .have ho:O=(S,0,1):=by rw[hO];unfold Sc.TQ;rw[hg];simp[h0]
   subst ho;rw[h0]at e1;clear hO hg ok j h8 W ha h0;go_enter func43,ntmps43;go_wp2_with fail;rw[show w.alloc (zn (OX e) 35)=w1 from H.symm,<-hD];clear H hD;refine HG.out.mono ?_;rintro z w2 ⟨rfl,hw⟩;obtain rfl:=hw.symm;go_wp2;go_ret2;exact⟨rfl,H2.out⟩
  .have v:g≠0:=by omega
   obtain⟨d,hd,H3,k8⟩:=ok.1.band j h8 v;have HD:=yw hd;obtain⟨-,-,-,-,g4,g5,o⟩:=(hq.out.gp j).c7;have N:=(hq.out.gp j).lt;have J:x.band.isSome=zq:=by rw[hd];rfl
   rw[J]at g5 o;simp only[if_true]at g5 o;cases hbd:Gt e.n e.m with
   | true=>
    have C:Qt.RM e.n e.m:=by unfold Gt at hbd;unfold Qt.RM;simpa using hbd
    have ho:O=(S,0,1):=by rw[hO];unfold Sc.TQ;simp only[hg,W,hd,hbd];simp[h0]
    subst ho;have H5:=yw (Qt.gJ e.n e.m w1.drew (L.bb g) C);clear hO hg ok j h8 W ha hd H3 k8 J hbd C g4 o;go_enter func43,ntmps43;go_wp2_with fail;rw[show w.alloc (zn (OX e) 35)=w1 from H.symm,<-hD];clear H hD;refine HG.out.mono ?_;rintro z w2 ⟨rfl,hw⟩;obtain rfl:=hw.symm;go_wp2_with fail;go_region_with
     (
      go_at_call 80;refine H5.out.mono ?_;rintro z w3 ⟨rfl,ki⟩;have K:Hid (yG w F s S L w3):=yw (by rw[<-ki];exact H2.out.below ⟨rfl,rfl,rfl,yA _,fun _ _=>rfl⟩);clear ki)
    all_goals
     go_wp2;go_ret2;exact⟨rfl,K.out⟩
   | false=>
    have C:¬Qt.RM e.n e.m:=by intro hb;unfold Qt.RM at hb;unfold Gt at hbd;rw[decide_eq_true hb]at hbd;cases hbd
    obtain⟨E,h9⟩:=yB (d.SR e.n e.m)
    have K1:=yw h9;have hp:E.l.length=S.ps:=by rw[h9,Mb];exact H3
    have kj:vB b E:=by rw[h9];exact .SR _ _ C
    obtain⟨B,M⟩:∃B:Gp,B={ x.ON E with quota:=e.n }:=⟨_,rfl⟩
    have hm:B.hi=x.hi/\B.line=x.line/\B.there=zq/\B.band=zo E:=by rw[M];exact⟨rfl,rfl,h8,rfl⟩
    have f1:(S.OF g B).Fit b:=ok.OF j v (by rw[M];rfl) (by rw[M];rfl) (by rw[M];rfl) fun ht=>by obtain⟨k1,_,k3⟩:=ok.1.gx g x j ht v;rw[M];exact⟨k1,⟨E,rfl,hp,kj⟩,k3⟩
    have kr:(S.OF g B).gs[g]?=zo B:=xg j;obtain⟨X,I⟩:=yB (Sc.SN g B.line (S.OF g B))
    have ho:O=(X,0,0):=by rw[hO];unfold Sc.TQ;simp only[hg,W,hd,hbd];rw[if_neg h0];simp only[Bool.false_eq_true,if_false];rw[I,Sc.PE (s:=S.OF g { x.ON (d.SR e.n e.m)with quota:=e.n }) (xg j),M,h9]
    subst ho;obtain⟨k9,h6,hn,f,t,H5⟩:=Qh f1 kr I M hm (Qt.iG e.n e.m w1.drew (L.bb g) d ((hq.out.kept (w':=w1.drew) fun _ _ _=>rfl).band j hd) C);clear hO hg j h8 W ha hd H3 k8 J hbd C g4 o h9 hp kj f1 kr I M hm ok;go_enter func43,ntmps43;go_wp2_with fail;rw[show w.alloc (zn (OX e) 35)=w1 from H.symm,<-hD];clear H hD;refine HG.out.mono ?_;rintro z w2 ⟨rfl,hw⟩;obtain rfl:=hw.symm;go_wp2_with fail;go_region_with
     (
      go_at_call 80;refine H5.out.mono ?_;rintro z w3 ⟨rfl,H4,kl⟩;rw[<-K1.out]at H4;have K:=yw (yG.NZ (⟨rfl,rfl,rfl,yA _,fun _ _=>rfl⟩:Below w1.heap.size w1 w1.drew) ((hq.out.kept (w':=w1.drew) fun _ _ _=>rfl).cC HX.out HD.out kl H4));clear H4 kl e1 e3 e4 H6 g5 N)
    all_goals
     have hy:RG w3 D e:=(K.out.2.block D HE.out.lt (fun hk=>by have:=hk.2;rw[<-K3.out]at this;omega)).trans HE.out;obtain⟨-,-,-,e3,-,-⟩:=hy.c6;have H6:=hy.lt;have kh:=yw (xg (g':=x.ON E) HX.out);have h7:=K.out.1.gp kh.out;obtain⟨-,-,-,-,g4,-,o⟩:=h7.c7;have N:=h7.lt;have K2:=h7.OH;have hu:=K.out.then (K.out.1.AG (g':=B) kh.out (by rw[f.out]) (by rw[f.out]) (by rw[f.out]) (OA.refl (fun k=>k=L.gb g) w3).one (by rw[f.out];exact yD (i:=4) (u:=zd zj e.n) h7));rw[qA]at hu;have h2:=yw hu;simp only[Gp.ON,Option.isSome_some,if_true]at o;clear h7 hy hu;go_wp2_with fail
     obtain⟨w4,k2⟩:=yB (w3.setCell ⟨L.gb g,4,zp⟩ (zd zj e.n))
     rw[<-k2]at h2 ⊢;clear k2 e3 H6 g4 o N K2;have A:=h2.out.1.line h6.out (by rw[t.out.2.2.2];rfl);have kp:Hid (∃U:Option Nat,∃T Y,(∀(z:Ending) P,(z=zm (zi #[zd zj (U.getD 0:Nat),zh U.isSome])/\xa P (L.lb g) Y.line/\OA (fun k=>k=L.lb g) w4 P)->yG w4 (Ext (fun k=>F k/\k<w.heap.size) w1 w4) s T L P)/\Ez b g X T Y U 100/\zw prog 81 #[ptr (L.lb g)] w4 fun z P=>z=zm (zi #[zd zj (U.getD 0:Nat),zh U.isSome])/\xa P (L.lb g) Y.line/\OA (fun k=>k=L.lb g) w4 P):=yw (by
      have J:B.band.isSome=zq:=by rw[t.out.2.2.2];rfl
      cases hln:B.line with
      | nil=>
       rw[hln]at A;refine⟨zp,S.OF g B,B,fun z P hz=>?_,Ed k9.out h6.out t.out.2.2.1 J hln hn.out.symm 100,(Ka w4 (L.lb g) A).mono ?_⟩
       .have:=h2.out.1.dR h6.out J hz.2.2 hz.2.1;rw[show B.OP B.line=B from rfl]at this;have h5:yG w4 (Ext (fun k=>F k/\k<w.heap.size) w1 w4) s ((S.OF g B).OF g B) L P:=this;rw[qA]at h5;exact h5
       .rintro z P ⟨rfl,hw⟩;obtain rfl:=hw.symm;exact⟨rfl,by rw[hln];exact A,OA.refl _ _⟩
      | cons p r=>
       rw[hln]at A;have H9:(p::r).length<=64:=by obtain⟨rg,fr,j,_⟩:=A;exact j.n
       refine⟨zo p,(S.OF g B).OF g (B.OP r),B.OP r,fun z P hz=>h2.out.1.dR h6.out J hz.2.2 hz.2.1,Bx k9.out h6.out t.out.2.2.1 J v hln hn.out.symm 100 (by simp at H9;omega),(Dw w4 (L.lb g) p r A).mono fun z P hz=>hz⟩)
     obtain⟨U,T,Y,kd,km,kn⟩:=kp.out;obtain⟨H8,h3,V⟩:=Qe kd km kn;obtain⟨tv,H7⟩:∃tv:Int,tv=(U.getD 0:Nat):=⟨_,rfl⟩
     obtain⟨tb,H0⟩:=yB U.isSome
     rw[<-H7,<-H0]at V H8;have ke:=yw H7;have ka:=yw H0;clear A kp kd km kn H7 H0;refine V.out.mono ?_;rintro z P ⟨rfl,kq,k6⟩;have kk:=yw (h2.out.then (H8.out _ _ ⟨rfl,kq,k6⟩));clear kq k6;go_wp2_with fail;go_loopg [8,9] 100 (fun m v8 v9 wr=>∃(U:Option Nat) (T:Sc) (Y:Gp),v8=zd zj (U.getD 0:Nat)/\v9=zh U.isSome/\yG w1 (fun k=>F k/\k<w.heap.size) s T L wr/\Ez b g X T Y U m)
     case atStart=>exact⟨U,T,Y,by rw[ke.out],by rw[ka.out],kk.out,h3.out⟩
     case round=>
      clear kk h3 H8 V ke ka;obtain⟨U,T,Y,rfl,rfl,hl,hf⟩:=hrel;have HL:=yw hl;have h3:=yw hf;clear hl hf;cases U with
      | none=>
       have K4:Hid (yG w F s X L wr):=yw (yG.NZ K0.out (by rw[<-h3.out.2.2.2.2.1 rfl];exact HL.out.grow (G:=F) fun k hk=>hk.1));go_wp2;go_ret2;exact⟨rfl,K4.out⟩
      | some p=>
       obtain⟨fT,hY,hr,ko,-,k7⟩:=h3.out;obtain⟨Z,kb,I⟩:=k7 p rfl;obtain⟨yr,k5⟩:=fT.1.gr hY hr Z;have ks:=fT.1.hc p Z;have k0:=fT.1.credit;have Hg:=fT.1.iR hY hr v;obtain⟨K5,HY,kg,h4,ky,kc,kz⟩:=Qi fT hY hr ko Z kb I;obtain⟨r1,K7,hv⟩:=HL.out.1.eD Z;obtain⟨Hy,rp,kx⟩:=HL.out.1.SK Z hv;obtain⟨-,g1,-,-,-,-,o⟩:=(HL.out.1.gp hY).c7;have N:=(HL.out.1.gp hY).lt;have kw:=HL.out.1.RZ.2;obtain⟨G,hH,hU⟩:=HL.out.1.SX Z;have HU:=yw hU;have ku:=yw (Dl Y.hi zt wr.drew G (L.hb p) (T.hs p) yr (hH.kept fun k _ _=>rfl) k5 Hg (by rw[ks];omega))
       have K6:(p:Int) <(T.ps:Int):=by omega
       rw[show((zo p).getD 0:Nat)=p from rfl];simp only[Option.isSome_some];clear k5 hv hU hH ks k0 hY hr ko Z kb I k7 fT o;go_wp2_with fail;go_region_with
        (
         go_at_call 82;refine ku.out.mono ?_;rintro z w8 ⟨rfl,k4⟩;have c:=yw (HL.out.then (HU.out _ _ (qv.NZ (F:=G) (⟨rfl,rfl,rfl,yA _,fun _ _=>rfl⟩:Below wr.heap.size wr wr.drew) k4)));clear k4 Hy rp kx g1 N kw)
       all_goals
        obtain⟨T8,he⟩:=yB (T.OM p ((T.hs p).stop Y.hi zt))
        have F8:Hid (T8.Fit b):=yw (by rw[he];exact Jy K5.out ky.out Y.hi zt);have y:Hid (T8.gs[g]?=zo Y):=yw (by rw[he];exact HY.out);have hj:Hid (Sc.SN g Y.line T8=X):=yw (by rw[he];exact kz.out);rw[<-he]at c;clear he;obtain⟨-,-,-,-,-,-,o⟩:=(c.out.1.gp y.out).c7;have N:=(c.out.1.gp y.out).lt;rw[h4.out]at o;simp only[if_true]at o;have A:=c.out.1.line y.out h4.out;cases hln:Y.line with
        | nil=>
         rw[hln]at A;have V:=yw (Ka w8 (L.lb g) A);have Q:=yw (Ed F8.out y.out kg.out h4.out hln hj.out 0);have R:0<gk:=by have:=kc.out;omega
         have H1:=yw R;clear A hln R;go_wp2_with fail;refine V.out.mono ?_;rintro z w9 ⟨rfl,hw⟩;obtain rfl:=hw.symm;clear o N;go_wp2_with fail;go_roundg 0
         case measure=>exact H1.out
         case rel=>exact⟨zp,T8,Y,rfl,rfl,c.out,Q.out⟩
        | cons q r=>
         rw[hln]at A;have V:=yw (Dw w8 (L.lb g) q r A);have Q:=yw (Bx F8.out y.out kg.out h4.out v hln hj.out (r.length+1) (by omega));have R:r.length+1<gk:=by have:=kc.out;rw[hln]at this;simp at this;omega
         have H1:=yw R;clear A hln R;go_wp2_with fail;refine V.out.mono ?_;rintro z w9 ⟨rfl,kf,kt⟩;have kv:=yw (c.out.then (c.out.1.dR y.out h4.out kt kf));clear kf kt o N;go_wp2_with fail;go_roundg (r.length+1)
         case measure=>exact H1.out
         case rel=>exact⟨zo q,_,Y.OP r,rfl,rfl,kv.out,Q.out⟩
theorem Pr(e:Ev)(b:Nat)(w:zu)(F:Nat->Prop)(s:Nat)(S:Sc)(L:Lay)(h:yK w F s S L)(c:S.Ok b):
 zw prog 44 #[ptr s,zg (OX e)] w (TM w F s L (S.PM e)):=by
 obtain⟨w1,A⟩:=yB (w.alloc (zn (OX e) 35))
 have V:Below w.heap.size w w1:=by rw[A];exact yE w _
 have o:=h.behind V;have p:RG w1 w.heap.size e:=by rw[A];exact RG.new w e
 have J:Hid (yG w F s S L w1):=yw ((yG.refl h).below V);have Y:=yw (xG e.a w1 F s S L o (by have:=c.gl;have:=c.RY;omega));have R:=yw o;obtain⟨D,N⟩:=yB w.heap.size
 rw[<-N]at p;obtain⟨-,e1,-,e3,e4,-⟩:=p.c6;clear h o V p;obtain⟨O,U⟩:=yB (S.PM e)
 rw[<-U];unfold TM;cases hg:S.grp? e.a with
 | none=>
  have Z:O=(S,0,2):=by rw[U];unfold Sc.PM;rw[hg]
  subst Z;rw[hg]at Y;clear U hg c;go_enter func44,ntmps44;go_wp2_with fail;rw[show w.alloc (zn (OX e) 35)=w1 from A.symm,<-N];clear A N;refine Y.out.mono ?_;rintro z m ⟨rfl,I⟩;obtain rfl:=I.symm;go_wp2;go_ret2;exact⟨rfl,J.out⟩
 | some g=>
  obtain⟨K,x,X,d,M⟩:=xm hg;rw[hg,show Yg L.gb (zo g)=ptr (L.gb g)from rfl]at Y;have HX:=yw X;have B:=yw (Ho w1 F s S L R.out g x X);have T:=R.out.gp X;obtain⟨v,C,g2,P,y,l,t⟩:=T.c7;have H:Hid (x.limited=match x.band with|none=>zt|some b=>decide (0<b.q)):=yw rfl;cases hlm:x.limited with
  | false=>
   have Z:O=(S,0,7):=by
    rw[U];unfold Sc.PM;simp only[hg,M];have G:=H.out;rw[hlm]at G;cases hb:x.band with
    | none=>rfl
    | some b=>
     rw[hb]at G;have h3:¬0<b.q:=fun h=>by simp only[h,decide_true]at G;cases G
     show(if 0<b.q then _ else _)=_;rw[if_neg h3]
   subst Z;rw[hlm]at B;obtain⟨u,f⟩:=yB ((if x.band.isSome=zq then zo (⟨L.bb g,0,zp⟩:Addr)else zp))
   rw[<-f]at B l;clear U hg c X d M K hlm T v C g2 P y t f H;go_enter func44,ntmps44;go_wp2_with fail;rw[show w.alloc (zn (OX e) 35)=w1 from A.symm,<-N];clear A N;refine Y.out.mono ?_;rintro z m ⟨rfl,I⟩;obtain rfl:=I.symm;go_wp2_with fail;refine B.out.mono ?_;rintro z m ⟨rfl,I⟩;obtain rfl:=I.symm;go_wp2;go_ret2;exact⟨rfl,J.out⟩
  | true=>
   obtain⟨bd,E,Q⟩:∃bd,x.band=zo bd/\0<bd.q:=by
    have G:=H.out;rw[hlm]at G;cases hb:x.band with
    | none=>rw[hb]at G;cases G
    | some b=>rw[hb]at G;exact⟨b,rfl,by simpa using G.symm⟩
   have Z:O=(S.OF g (x.ON bd.PM),0,0):=by rw[U];unfold Sc.PM;simp only[hg,M,E];simp[Q]
   subst Z;rw[hlm]at B;rw[E]at B l;simp only[Option.isSome_some,if_true]at B l;have n:=yw E;have W:=yw (Qt.eA w1 (L.bb g) bd (R.out.band X E));clear U hg c X d M K hlm T v C g2 P y t H E;go_enter func44,ntmps44;go_wp2_with fail;rw[show w.alloc (zn (OX e) 35)=w1 from A.symm,<-N];clear A N;refine Y.out.mono ?_;rintro z m ⟨rfl,I⟩;obtain rfl:=I.symm;go_wp2_with fail;refine B.out.mono ?_;rintro z m ⟨rfl,I⟩;obtain rfl:=I.symm;go_wp2_with fail;refine W.out.mono ?_;rintro z w3 ⟨rfl,k,j⟩;have r:=yw (J.out.then (J.out.1.cC HX.out n.out j k));clear k j e1 e3 e4 l;go_wp2;go_ret2
   exact⟨rfl,r.out⟩
