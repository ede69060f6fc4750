/- Parts for TopPlaces. Conditions: as stated. -/
import Derived.Carry
import Derived.LaidEqlPtr
import Derived.Test.YtmpdpmhpkgbepaaGreatDoorZ32
import Derived.Test.YtmpdpmhpkgbepaaGreatDoorZ33
set_option linter.unusedVariables false
set_option maxRecDepth 100000
set_option maxHeartbeats 4000000
open Go.Value renaming int->zd,pointer->ze,slice->zf,agg->zg,bool->zh,tuple->zi
open Go.IntKind renaming i64->zj,u64->zk,signed->yq
open Go.Ending renaming returned->zm
open Go.Obj renaming cells->zn
open Option renaming some->zo,none->zp
open Bool renaming true->zq,false->zt
open Go renaming World->zu,Calls->zw,Value->zz
open Option.some renaming inj->zx,injEq->ya
open List renaming getElem?_eq_getElem->zy,getElem?_append_right->zV,mem_of_getElem?->zW,replicate->ye
open Go.World renaming cell?->zN,block_lt_of_cell?->zP,frozen?->zY,ownsRow_nil->ym
open Go.RowKit.Below renaming refl->zU,heap_alloc->zZ
open Go.Proofs.Tryz
namespace Go.Proofs.YtmpdpmhpkgbepaaGreatDoor
open Go Go.RowKit Go.ChangeShapes Go.WideShapes
variable {w:zu}{F:Nat->Prop}{s b n:Nat}{S:Sc}{L:Lay}{g k:Int}{D M:Sc->Ev->Out->Prop}
attribute [local go_sem ↓] Go.wp_at_zero Go.wp_at_succ
theorem XZ:(prog.info? 59).map (fun i=>(i.zero,i.size,i.bytes))=zo (zo (ze zp),1,8):=by kernel_rfl
theorem yK.dU(h:yK w F s S L):∀x w',OB 0 L.tp w w'->PQ w' 0 L.t L.tp x->yG w F s { S with tree:=x } L w':=by obtain⟨tg,h⟩:=h;exact fun x w' B A=>h.updR B A
theorem yK.fields(h:yK w F s S L):w.cell? ⟨s,0,zp⟩=zo (zd zj S.ps)/\w.cell? ⟨s,5,zp⟩=zo (ptr L.t):=by obtain⟨tg,h⟩:=h;exact⟨h.sx.c0,h.sx.c5⟩
def Sc.OU(S:Sc)(I u k:Nat):Sc:={ S with hs:=fun p=>if p<k then(S.hs p).link I u else S.hs p }
theorem Az(S:Sc)(I u k:Nat):(S.OU I u k).OM k (((S.OU I u k).hs k).link I u)=S.OU I u (k+1):=by
 unfold Sc.OU Sc.OM;simp only[Nat.lt_irrefl,if_false]
 congr 1
 funext p;by_cases h:p=k
 .subst h;rw[yR,if_pos (by omega)]
 .rw[yQ _ _ h];by_cases A:p<k
  .rw[if_pos A,if_pos (by omega)]
  .rw[if_neg A,if_neg (by omega)]
theorem YA(D:S.Fit b){u:Nat}{y:Gp}(Y:S.gs[u]?=zo y)(M:y.there=zq)(a:S.tree.AK y.hi y.hg=0){I:Nat}(c:I=S.tree.TO y.hi y.hg):
 I≠0/\I<32/\S.pl I=zp/\∀p,p<S.ps->∃H:Gr,(S.hs p).gs y.hi=zo H/\(S.hs p).gs I=zp/\H.deep<8:=by
 have G:=D.1.grew Y M a;have E:=G.ne0;have J:=G.lt;have A:=G.bare;rw[<-c]at E J A;have R:=(D.1.gk u y Y M).2;refine⟨E,J,A,fun p N=>?_⟩;have X:=D.1.hk p N y.hi;rw[R]at X;obtain⟨H,B⟩:=Option.isSome_iff_exists.1 X;have O:=D.1.hk p N I;rw[A]at O;have T:(S.hs p).gs I=zp:=by
  cases hh:(S.hs p).gs I with
  | none=>rfl
  | some z=>rw[hh]at O;cases O
 have hd:H.deep=dep S.tree.l y.hi:=by
  by_cases V:y.hi=0
  .obtain⟨r,Z,_,U⟩:=(D.2 p N).root;rw[V]at B ⊢;rw[B]at Z;obtain rfl:=zx Z;rw[U,(D.1.tr.bZ D.1.tr.gF).2.2 rfl];rfl
  .exact(D.1.hu p N _ H B V).2
 have:=G.dp;exact⟨H,B,T,by omega⟩
theorem yK.box{D B E:zu}(G:yG D F s S L B){H:Nat}(h2:H<D.heap.size)(J:¬F H)(I:OA (fun k=>k=H) B E):yK E (Ext F D B) s S L:=by
 have hk:xz (Ext F D B) B E:=fun k hk A=>I.block k hk (by
  rintro rfl;rcases A with A|A
  .exact J A
  .have:=A.1;omega)
 exact G.1.kept hk
theorem yG.box{w1 B D E:zu}(N:Below w1.heap.size w1 B)(G:yG B F s S L D){H:Nat}(J:w1.heap.size<=H)(h2:H<B.heap.size)(M:¬F H)(I:OA (fun k=>k=H) D E):yG w1 F s S L E:=by
 have hk:xz (Ext F B D) D E:=fun k hk A=>I.block k hk (by
  rintro rfl;rcases A with A|A
  .exact M A
  .have:=A.1;omega)
 refine⟨(G.1.kept hk).mono fun k hk A=>?_,?_⟩
 .rcases A with A|⟨a,b⟩
  .exact .inl A
  .exact .inr ⟨by omega,by omega⟩
 .exact((OA.NZ N:OA F w1 B).trans G.2 fun k hk=>.inl hk).trans I fun k hk=>.inr (by subst hk;exact J)
theorem BL(
 e:Ev) (b:Nat) (w:zu) (F:Nat->Prop) (s:Nat) (S:Sc) (L:Lay) (h:yK w F s S L) (ok:S.Fit b) (M4:b<900)
 (u:Nat) (y:Gp) (hg:S.grp? e.a=zo u) (hy:S.gs[u]?=zo y) (kc:y.there=zq) (hn:2<=e.n/\e.n<=262144) (hE:S.tree.AK y.hi y.hg=0) (m4:∀(n:Nat) (t:Tk),S.ts[n]?=zo t->t.OG<S.gs.length):
 zw prog 39 #[ptr s,zg (OX e)] w (Yq w F s (S.bT u e.n,S.gs.length,0)):=by
 obtain⟨w1,H7⟩:=yB (w.alloc (zn (OX e) 35))
 have K2:Below w.heap.size w w1:=by rw[H7];exact yE w _
 have hv:RG w1 w.heap.size e:=by rw[H7];exact RG.new w e
 obtain⟨K,hj⟩:∃K:Nat->Prop,K=fun k=>F k/\k<w.heap.size:=⟨_,rfl⟩
 have ml:Hid (∀k,K k->F k):=yw (by rw[hj];exact fun k hk=>hk.1);have hr:Hid (∀k,K k->k<w.heap.size):=yw (by rw[hj];exact fun k hk=>hk.2);have q:Hid (yK w1 K s S L):=yw (by rw[hj];exact h.PA.behind K2);have P:=yw K2;have HG:=yw (xG e.a w1 K s S L q.out (by have:=ok.1.gl;have:=ok.1.RY;omega));rw[hg,show Yg L.gb (zo u)=ptr (L.gb u)from rfl]at HG;obtain⟨D,hD⟩:=yB w.heap.size
 have n1:Hid (¬K D):=yw (by rw[hj,hD];intro hk;omega);rw[<-hD]at hv;have mi:=yw hv;obtain⟨-,e1,-,e3,-,-⟩:=hv.c6;have hc:=hv.lt;have M1:vm e.n=zq:=by unfold vm;exact decide_eq_true hn
 have mg:=yw (Yo e.n w1);rw[M1]at mg;have ny:IntKind.u64.wrap e.n=e.n:=by simp only[IntKind.wrap,yq,IntKind.bits];simp;omega
 obtain⟨m6,s5,U⟩:=q.out.dW;obtain⟨-,g1,g2,-⟩:=(q.out.gp hy).c7;have r:=(q.out.gp hy).lt;have K3:Hid (∀W2,Below w1.heap.size w1 W2->_):=yw fun W2 hb=>Gh y.hi y.hg (b+2) W2 0 L.t L.tp S.tree (m6.behind hb) ok.1.tok (by have:=ok.1.RY;omega) ok.1.tr;obtain⟨I,hI⟩:=yB (S.tree.TO y.hi y.hg)
 obtain⟨G,hG⟩:=yB (S.tree.cA y.hi y.hg)
 obtain⟨T,hT⟩:=yB (S.tree.cT y.hi y.hg)
 have mm:=yw (YA ok hy kc hE hI);rw[<-hI,<-hG,<-hT,hE]at K3;obtain⟨HI,n8,nc,HY,N1,nw,ng⟩:=Qi hI hG hT hy kc m4 ok;obtain⟨E,M0⟩:∃E,E=({ S with tree:=T }:Sc):=⟨_,rfl⟩
 have J:=yw M0;obtain⟨f,K1⟩:=yB S.gs.length
 have k3:=yw K1;have M5:f<=901:=by have:=ok.1.gl;have:=ok.1.RY;omega
 obtain⟨ps,kl⟩:=yB S.ps
 have ha:=yw kl;have H2:1<=ps/\ps<=64:=by rw[kl];exact ok.1.ps
 unfold Yq;obtain⟨O,hO⟩:=yB (S.bT u e.n)
 have HO:=yw hO;rw[<-hO,<-K1];clear h ok K2 hv hj hg hy kc hE hI hG hT M0 K1 kl hO m4 m6 M1;go_enter func39,ntmps39;go_wp2_with fail;rw[show w.alloc (zn (OX e) 35)=w1 from H7.symm,<-hD];clear H7 hD;refine HG.out.mono ?_;rintro z w2 ⟨rfl,ka⟩;obtain rfl:=ka.symm;go_wp2_with fail;refine mg.out.mono ?_;rintro z w2 ⟨rfl,ka⟩;obtain rfl:=ka.symm;go_wp2_with fail;go_upto_region 6 with(fail)
 go_cut [7,8]from 24 to 35 (fun v7 v8 wc=>∃(H:Nat) (F4:Nat->Prop),v7=ze (zo ⟨H,0,zp⟩)/\v8=zd zj 0/\w1.heap.size<=H/\yK wc F4 s E L/\¬F4 H/\(∀k,F4 k->k<wc.heap.size/\(K k∨w1.heap.size<=k))/\OA K w1 wc/\wc.heap[H]?=zo (zn #[zd zj I,zd zj G] 78 (0,0)))
 case first=>
  go_region_held3 (fun w'=>w'.cell? ⟨s,5,zp⟩=zo (ptr L.t)/\w'.cell? ⟨L.gb u,1,zp⟩=zo (zd zj y.hi)/\w'.cell? ⟨L.gb u,2,zp⟩=zo (zd zj y.hg)) (go_keep)
   (first
    | (
     go_at_call 72;have kg:Below w1.heap.size w1 (w1.alloc (zn #[zd zj 0,zd zj 0] 78)).drew:=yI (yE w1 _);have kb:=yw kg;refine(K3.out _ kg).mono ?_;rintro z R ⟨rfl,ho,hm⟩;have k2:Hid (yG (w1.alloc (zn #[zd zj 0,zd zj 0] 78)).drew K s E L R):=yw (by have M:=(q.out.behind kb.out).dU _ _ hm ho;rw[J.out];exact M);have Y:Hid (yG w1 K s E L R):=yw (yG.NZ kb.out k2.out);have V:R.heap[w1.heap.size]?=zo (zn #[zd zj 0,zd zj 0] 78 (0,0)):=by rw[k2.out.2.block w1.heap.size (by simp) (fun hk=>by have M:=hr.out _ hk;have h2:=P.out.size;omega)];exact heap_alloc_new w1 _
     have kj:=yw V;have N:R.cell? ⟨w1.heap.size,0,zp⟩=zo (zd zj 0):=by simp[zN,V]
     have k6:R.cell? ⟨w1.heap.size,1,zp⟩=zo (zd zj 0):=by simp[zN,V]
     have m:w1.heap.size<R.heap.size:=(yx V).1;have N2:∀j,R.frozen? ⟨w1.heap.size,j,zp⟩=zt:=by intro j;simp[zY,V]
     have nm:s≠w1.heap.size:=by have:=q.out.RZ.2;omega
     have nk:L.gb u≠w1.heap.size:=by have:=(q.out.gp (n:=u) (g:=y) HY.out).lt;omega
     have N5:=Ne.symm nm;have N6:=Ne.symm nk;clear kg V;clear ho hm s5 g1 g2 r U;obtain⟨-,s5,U⟩:=Y.out.1.dW;obtain⟨-,g1,g2,-⟩:=(Y.out.1.gp (n:=u) (g:=y) (by rw[J.out];exact HY.out)).c7;have r:=(Y.out.1.gp (n:=u) (g:=y) (by rw[J.out];exact HY.out)).lt)
    | (
     go_at_call 72;refine(K3.out _ (⟨rfl,rfl,rfl,yA _,fun _ _=>rfl⟩:Below w1.heap.size w1 w1.drew)).mono ?_;rintro z R ⟨rfl,ho,hm⟩;have Y:Hid (yG w1 K s E L R):=yw (by have M:=yG.NZ (⟨rfl,rfl,rfl,yA _,fun _ _=>rfl⟩:Below w1.heap.size w1 w1.drew) ((q.out.behind (⟨rfl,rfl,rfl,yA _,fun _ _=>rfl⟩:Below w1.heap.size w1 w1.drew)).dU _ _ hm ho);rw[J.out];exact M)
     clear ho hm s5 g1 g2 r U;obtain⟨-,s5,U⟩:=Y.out.1.dW;obtain⟨-,g1,g2,-⟩:=(Y.out.1.gp (n:=u) (g:=y) (by rw[J.out];exact HY.out)).c7;have r:=(Y.out.1.gp (n:=u) (g:=y) (by rw[J.out];exact HY.out)).lt;have ky:Hid (w1.heap.size<=R.heap.size):=yw Y.out.2.size))
  .go_wp2_with fail;go_meet
   case rel=>
    refine⟨R.heap.size,Ext K w1 R,rfl,rfl,ky.out,Y.out.1.behind (yE R _),fun A=>?_,fun k A=>?_,Y.out.2.alloc _,heap_alloc_new R _⟩
    .rcases A with A|A
     .have M:=hr.out _ A;have h2:=P.out.size;have h3:=ky.out;omega
     .have:=A.2;omega
    .rcases A with A|A
     .have M:=hr.out _ A;have h2:=P.out.size;have h3:=ky.out;exact⟨by simp;omega,.inl A⟩
     .exact⟨by have:=A.2;simp;omega,.inr A.1⟩
  .go_wp2_with fail;go_meet
   case rel=>
    have K0:¬K w1.heap.size:=fun hk=>by have M:=hr.out _ hk;have h2:=P.out.size;omega
    have kd:=(OA.refl (fun k=>k=w1.heap.size) R).one (o:=0) (u:=zd zj I) |>.one (o:=1) (u:=zd zj G)
    have n9:=yG.box kb.out k2.out (yA _) (by simp) K0 kd;have h9:=kd.size;refine⟨w1.heap.size,Ext K (w1.alloc (zn #[zd zj 0,zd zj 0] 78)).drew R,rfl,rfl,yA _,yK.box k2.out (by simp) K0 kd,fun A=>?_,fun k A=>?_,n9.2,yD (yD kj.out)⟩
    .rcases A with A|A
     .exact K0 A
     .have:=A.1;simp at this;omega
    .rcases A with A|A
     .have M:=hr.out _ A;have h2:=P.out.size;have h3:=Y.out.2.size;exact⟨by omega,.inl A⟩
     .exact⟨by have:=A.2;omega,.inr (by have:=A.1;simp at this;omega)⟩
 case rest=>
  rename zu=>R
  obtain⟨H,F4,rfl,rfl,K5,mv,H3,m7,ku,V⟩:=hcut;clear e1 e3 hc s5 g1 g2 r U;obtain⟨mj,h0,M3,k5⟩:=Qf m7 H3 ku mv;have mn:Hid (RG R D e):=yw ((ku.block D mi.out.lt n1.out).trans mi.out);have kj:=yw V;have N:R.cell? ⟨H,0,zp⟩=zo (zd zj I):=by simp[zN,V]
  have k6:R.cell? ⟨H,1,zp⟩=zo (zd zj G):=by simp[zN,V]
  have m:H<R.heap.size:=(yx V).1;obtain⟨-,-,-,e3,-,-⟩:=mn.out.c6;have hc:=mn.out.lt;obtain⟨⟨va,vc,k8⟩,s8,-⟩:=k5.out.bU;rw[show E.gs.length=f by rw[J.out,k3.out]]at k8;have k4:=yw k8;rw[k8]at s8;have U:=k5.out.RZ.2;have nr:=yw (fun W=>EQ W);clear m7 H3 ku mv V K5 k8;go_upto_region 9 with(fail)
  go_cut [9]from 39 to 50 (fun v9 wd=>∃B ln,v9=ze (zo ⟨B,0,zp⟩)/\R.heap.size<=B/\R.heap.size<=ln/\B≠ln/\Below R.heap.size R wd/\xa wd ln []/\wd.heap[B]?=zo (zn #[zd zj f,zd zj I,zd zj G,zd zk e.n,zd zj 0,ze zp,ze (zo ⟨ln,0,zp⟩)] 86 (0,0)))
  case first=>
   go_region_held3 (fun w'=>w'.cell? ⟨s,8,zp⟩=zo (zf va f vc)/\w'.cell? ⟨H,0,zp⟩=zo (zd zj I)/\w'.cell? ⟨H,1,zp⟩=zo (zd zj G)/\w'.cell? ⟨D,3,zp⟩=zo (zd zj e.n)) (go_keep)
    (first
     | (
      go_at_call 73;refine(nr.out _).mono ?_;rintro z w5 ⟨ln,rfl,m5,X,c⟩;have Z:Hid (Below R.heap.size R w5):=yw ⟨c.os,c.tape,c.output,c.size,c.block⟩;have km:=yw (show R.heap.size<=ln from m5);have hh:=yw X;replace s8:=(Z.out.cell (p:=⟨s,8,zp⟩) U).trans s8;replace N:=(Z.out.cell (p:=⟨H,0,zp⟩) m).trans N;replace k6:=(Z.out.cell (p:=⟨H,1,zp⟩) m).trans k6;replace e3:=(Z.out.cell (p:=⟨D,3,zp⟩) hc).trans e3;replace U:=yz U Z.out.size;replace m:=yz m Z.out.size;replace hc:=yz hc Z.out.size;clear m5 X c))
   go_wp2_with fail;go_meet
   case rel=>
    have np:=hh.out.lt;have h9:=Z.out.size;exact⟨w5.heap.size,ln,rfl,h9,km.out,by omega,yC Z.out (yE w5 _) h9,hh.out.of (zZ _ _ _ np),heap_alloc_new w5 _⟩
  case rest=>
   rename zu=>wd
   obtain⟨B,ln,rfl,hx,H4,H1,c,X,he⟩:=hcut;clear s8 N k6 e3 hc m U;obtain⟨mb,Z,hh,kv⟩:=Qf (k5.out.behind c) c X he;obtain⟨s0,-⟩:=mb.out.fields;rw[show E.ps=ps by rw[J.out,ha.out]]at s0;have U:=mb.out.RZ.2;have HQ:=yw (Qt.AJ ps wd H2.1 H2.2);have h9:=c.size;have HZ:=yw (And.intro hx H4);have nj:=yw H1;clear c X he;go_wp2_with fail;refine HQ.out.mono ?_;rintro z w6 ⟨rfl,h4,kp⟩
   have k0:w6.heap[B]?=zo (zn #[zd zj f,zd zj I,zd zj G,zd zk e.n,zd zj 0,ze zp,ze (zo ⟨ln,0,zp⟩)] 86 (0,0)):=(kp.block B (yx kv.out).1).trans kv.out;obtain⟨kf,hw,ne⟩:=Qe kp h4 k0;have M6:w6.cell? ⟨B,5,zp⟩=zo (ze zp):=by simp[zN,k0]
   have M8:∀j,w6.frozen? ⟨B,j,zp⟩=zt:=by intro j;simp[zY,k0]
   clear h4 kp k0 s0 U;go_upto_region 11 with(fail)
   obtain⟨bd,H8⟩:=yB wd.heap.size
   rw[<-H8];obtain⟨d,hu⟩:=yB (w6.setCell ⟨B,5,zp⟩ (ze (zo ⟨bd,0,zp⟩)))
   rw[<-hu];have ke:=hh.out.lt;have n7:=(yx kv.out).1;have k1:B≠bd:=by omega
   have m9:ln≠bd:=by omega
   have mr:d.heap[B]?=zo (zn (Kw f bd ln ⟨I,G,e.n,0,zo ⟨0,0,0,0,ye ps 0⟩,[],zq⟩) 86 (0,0)):=by rw[hu];exact yD ne.out
   have kw:OA (fun k=>k=B) w6 d:=by rw[hu];exact(OA.refl (fun k=>k=B) w6).one
   have k7:Below R.heap.size R d:=by have M:=yC Z.out kf.out h9;rw[hu];exact M.setCell (p:=⟨B,5,zp⟩) (by show _<=B;exact hx) _
   have mu:Qt.OC d bd ⟨0,0,0,0,ye ps 0⟩:=by rw[H8]at k1 ⊢;exact hw.out.kept (kw.block _ hw.out.lt (Ne.symm k1))
   have mq:xa d ln []:=hh.out.of ((kw.block _ (yz ke kf.out.size) (fun e'=>H1 e'.symm)).trans (kf.out.block ln ke));obtain⟨ks,mp,ki,kz,Hy,mo⟩:=Qh mr k7 mu mq (k5.out.behind k7) (And.intro k1 (Ne.symm m9));have kh:Hid (R.heap.size<=bd):=yw (by rw[H8];exact h9);have H0:0<E.ps:=by rw[J.out];show 0<S.ps;rw[<-ha.out];omega
   obtain⟨rh,ch,H6⟩:=Hy.out.eD H0;rw[show E.ps=ps by rw[J.out,ha.out]]at H6;have M7:=yw H6;obtain⟨h7,-,-⟩:=Hy.out.SK H0 H6;have U:=Hy.out.RZ.2;have N:d.cell? ⟨H,0,zp⟩=zo (zd zj I):=by have hH:=kj.out;have:=k7.block H (yx hH).1;simp[zN,this,hH]
   have C:=yw N;clear hu H8 M6 M8 ke n7 k1 m9 mr kw k7 mu mq H6;go_wp2_with fail;clear h7 U N;go_loopw [11,68] (fun _ i wr=>∃(k:Nat),k<=ps/\i=zd zj k/\yG d F4 s (E.OU I y.hi k) L wr) (fun _ i _=>ps-(intOf i).toNat)
   case atStart=>exact⟨0,by omega,rfl,yG.refl Hy.out⟩
   case round=>
    obtain⟨k,hk,rfl,hl⟩:=hrel;have Q:=yw hl;clear hl;by_cases m1:k<ps
    .have N0:(k:Int) <(ps:Int):=by omega
     have kx:k<(E.OU I y.hi k).ps:=by show k<E.ps;rw[J.out];show k<S.ps;rw[<-ha.out];exact m1
     obtain⟨h7,rp,na⟩:=Q.out.1.SK kx M7.out;have N:wr.cell? ⟨H,0,zp⟩=zo (zd zj I):=by rw[<-C.out];have:=Q.out.2.block H (zP d _ C.out) h0.out;simp[zN,this]
     have kr:(E.OU I y.hi k).gs[u]?=zo y:=by show E.gs[u]?=zo y;rw[J.out];exact HY.out
     obtain⟨-,g1,-,-⟩:=(Q.out.1.gp kr).c7;have r:=(Q.out.1.gp kr).lt;have m:=zP wr _ N;obtain⟨Gk,hH,hU⟩:=Q.out.1.SX kx;have HU:=yw hU;obtain⟨kk,v,nt,m8⟩:=mm.out;obtain⟨yr,m3,me,my⟩:=m8 k (by rw[<-ha.out];exact m1);have k9:(E.OU I y.hi k).hs k=S.hs k:=by unfold Sc.OU;show(if k<k then _ else E.hs k)=_;rw[if_neg (Nat.lt_irrefl k),J.out]
     have km:=yw (UB I y.hi wr.drew Gk (L.hb k) _ yr (hH.kept fun _ _ _=>rfl) (by rw[k9];exact me) (by rw[k9];exact m3) my kk v);clear kx kr hH hU kk v nt m8 m3 me my k9;go_wp2_with fail;go_region_held3 (fun w'=>w'.cell? ⟨H,0,zp⟩=zo (zd zj I)/\w'.cell? ⟨L.gb u,1,zp⟩=zo (zd zj y.hi)) (go_keep)
      (first
       | (
        go_at_call 75;refine km.out.mono ?_;rintro z w9 ⟨rfl,M2⟩;have H9:Hid (yG d F4 s (E.OU I y.hi (k+1)) L w9):=yw (by rw[<-Az];exact Q.out.then (HU.out _ _ (qv.NZ (F:=Gk) (⟨rfl,rfl,rfl,yA _,fun _ _=>rfl⟩:Below wr.heap.size wr wr.drew) M2)));clear M2 h7 rp na N g1 r m;have N:w9.cell? ⟨H,0,zp⟩=zo (zd zj I):=by rw[<-C.out];have:=H9.out.2.block H (zP d _ C.out) h0.out;simp[zN,this]
        obtain⟨-,g1,-,-⟩:=(H9.out.1.gp (show(E.OU I y.hi (k+1)).gs[u]?=zo y by show E.gs[u]?=zo y;rw[J.out];exact HY.out)).c7;have r:=(H9.out.1.gp (show(E.OU I y.hi (k+1)).gs[u]?=zo y by show E.gs[u]?=zo y;rw[J.out];exact HY.out)).lt;have m:=zP w9 _ N))
     all_goals
      go_wp2_with fail;go_roundw
      case rel=>exact⟨k+1,by omega,by go_num,H9.out⟩
      case measure=>simp[intOf];omega
    .have n6:k=ps:=by omega
     subst n6;have hO:=Q.out.1;have U:=hO.RZ.2;obtain⟨s8⟩:Nonempty (PLift (wr.cell? ⟨s,8,zp⟩=zo L.vg)):=⟨⟨hO.c8⟩⟩
     replace s8:=s8.down;rw[k4.out]at s8;have N:wr.cell? ⟨H,0,zp⟩=zo (zd zj I):=by rw[<-C.out];have:=Q.out.2.block H (zP d _ C.out) h0.out;simp[zN,this]
     have nF:∀z,R.heap.size<=z->¬F4 z:=fun z l A=>by have:=(mj.out z A).1;omega
     have he:wr.heap[B]?=zo (zn (Kw f bd ln ⟨I,G,e.n,0,zo ⟨0,0,0,0,ye k 0⟩,[],zq⟩) 86 (0,0)):=(Q.out.2.block B (yx ks.out).1 (nF B HZ.out.1)).trans ks.out;have mz:Qt.OC wr bd ⟨0,0,0,0,ye k 0⟩:=ki.out.kept (Q.out.2.block bd ki.out.lt (nF bd kh.out));have mc:xa wr ln []:=kz.out.of (Q.out.2.block ln kz.out.lt (nF ln HZ.out.2));have n5:∀z,R.heap.size<=z->z<d.heap.size->¬Ext F4 d wr z:=fun z M h2 A=>by
      rcases A with A|A
      .exact nF z M A
      .have:=A.1;omega
     obtain⟨kt,M9,nh,md,n0,n4⟩:=Qh (n5 B HZ.out.1 (yx ks.out).1) (n5 bd kh.out ki.out.lt) (n5 ln HZ.out.2 kz.out.lt) he mz mc;have x:=hO.gP.1;have ht:(E.OU I y.hi k).gs=S.gs:=by show E.gs=_;rw[J.out]
     have kn:(E.OU I y.hi k).pl=S.pl:=by show E.pl=_;rw[J.out]
     rw[ht,<-k3.out,k4.out]at x;obtain⟨nl,ko,N3,ms⟩:=Qf x ht kn hO.tyS;have m2:∀z,(zf va f vc).ownBlock=zo z->z≠s/\z<wr.heap.size/\Ext F4 d wr z:=fun z l=>by refine⟨fun e'=>?_,(x.lt z l).2,hO.gP.2 z (by rw[k4.out];exact l)⟩;subst e';obtain⟨cs,M⟩:=ms.out;exact yS x M (by decide) l
     have h8:=yw m2;have v:=mm.out.2.1;have N4:(I:Int) <32:=by omega
     have kk:(0:Int)<=(I:Int):=by omega
     have nu:Hid (¬Ext F4 d wr H):=yw (fun A=>by
      rcases A with A|A
      .exact h0.out A
      .have M:=zP d _ C.out;have h2:H<d.heap.size:=M;have:=A.1;omega)
     obtain⟨i0,hi,n3,no,nd⟩:=info_parts XZ;have K4:=zP wr _ N;have K9:B<wr.heap.size:=(yx he).1;have nf:Hid (∀i n,(E.OU I y.hi k).pl i=zo n->n<(E.OU I y.hi k).gs.length):=yw fun i n hp=>by rw[kn]at hp;obtain⟨g',M,_⟩:=ng.out.1.pl i n hp;rw[ht];exact(yy M).1
     have K8:Hid (∀(n:Nat) (t:Tk),(E.OU I y.hi k).ts[n]?=zo t->t.OG<(E.OU I y.hi k).gs.length):=yw fun n t hq=>by rw[ht];exact nw.out n t (by rw[show(E.OU I y.hi k).ts=S.ts by show E.ts=_;rw[J.out]]at hq;exact hq)
     have K7:Hid (∀w9 L',yG wr (fun z=>Ext F4 d wr z∨z=B∨z=bd∨z=ln) s { E.OU I y.hi k with gs:=(E.OU I y.hi k).gs++ [(⟨I,G,e.n,0,zo ⟨0,0,0,0,ye k 0⟩,[],zq⟩:Gp)],pl:=OV (E.OU I y.hi k).pl I (zo (E.OU I y.hi k).gs.length) } L' w9->yG w F s O L' w9):=yw fun w9 L' hl=>by
      have K6:S.bT u e.n={ E.OU I y.hi k with gs:=(E.OU I y.hi k).gs++ [(⟨I,G,e.n,0,zo ⟨0,0,0,0,ye k 0⟩,[],zq⟩:Gp)],pl:=OV (E.OU I y.hi k).pl I (zo (E.OU I y.hi k).gs.length) }:=by unfold Sc.bT Sc.OU;rw[Sc.PE HY.out,<-HI.out,<-n8.out,<-nc.out,J.out,ha.out]
      rw[HO.out,K6];have z1:=P.out.size;have z3:=M3.out.size;have z7:=mp.out.size;have f4:∀z,F4 z->F z∨w.heap.size<=z:=fun z l=>by
       rcases(mj.out z l).2 with M|M
       .exact .inl (ml.out z M)
       .exact .inr (by omega)
      have t1:OA F w w1:=OA.NZ P.out;have t3:=t1.trans M3.out fun z l=>.inl (ml.out z l);have t7:=t3.trans (OA.NZ mp.out:OA F R d) fun z l=>.inl l;have tr:=t7.trans Q.out.2 f4;have b3:=kh.out;refine⟨hl.1.mono fun z l A=>?_,tr.trans hl.2 fun z l=>?_⟩
      .rcases A with((M|M)|M|M|M)|M
       .rcases f4 z M with h2|h2
        .exact .inl h2
        .exact .inr ⟨h2,l⟩
       .exact .inr ⟨by have:=M.1;omega,l⟩
       .exact .inr ⟨by omega,l⟩
       .exact .inr ⟨by omega,l⟩
       .exact .inr ⟨by omega,l⟩
       .exact .inr ⟨by have:=M.1;omega,l⟩
      .rcases l with(M|M)|M|M|M
       .exact f4 z M
       .exact .inr (by have:=M.1;omega)
       .exact .inr (by omega)
       .exact .inr (by omega)
       .exact .inr (by omega)
     clear hO he mz mc nF n5 x ht kn m2;go_wp2_with fail;go_region_law (
      refine step_append_lies _ (by rfl) _ _ _ (by rfl) 0 59 i0 _ 1 8 underlying58 hi n3 no nd rfl (by omega) (zf va f vc) f (xK (xL L.gb S.gs)) (by rfl) ((show wr.drew.ownsRow 0 59 1 (zf va f vc) f (xK (xL L.gb S.gs))from nl.out).alloc _)
       ⟨wr.heap.size,0,zp⟩ 1 1 [ptr B] (by rfl) (by rfl) (World.news_of_block (cs:=#[ptr B]) (t:=59) (fr:=(0,0)) (heap_alloc_new wr.drew _)) (by simp[Value.oneCell'])
       (by omega) (by unfold maxLen;omega) (by omega) (by first|omega|(simp;omega)) (wr.heap.size+1) (by first|rfl|simp) ?_
      intro g2 cap2 w8 h6 h5 mw nz;have nx:=yw h6;have Hg:Hid (OA (fun k=>(zf va f vc).ownBlock=zo k) wr w8):=yw (((OA.refl (fun k=>(zf va f vc).ownBlock=zo k) wr).drew.alloc _).grown h5 fun k hk=>.inl hk);have m0:=yw mw;have H5:w8.heap[s]?=wr.heap[s]?:=Hg.out.block s U (fun e'=>(h8.out s e').1 rfl);have mh:w8.heap[H]?=wr.heap[H]?:=Hg.out.block H K4 (fun e'=>nu.out (h8.out H e').2.2);have ma:w8.heap[B]?=wr.heap[B]?:=Hg.out.block B K9 (fun e'=>kt.out (h8.out B e').2.2);have mf:s≠B:=fun e'=>kt.out (by rw[<-e'];exact Q.out.1.gO.1)
      replace N:w8.cell? ⟨H,0,zp⟩=zo (zd zj I):=by rw[<-N];simp[zN,mh]
      replace s8:w8.cell? ⟨s,8,zp⟩=zo (zf va f vc):=by rw[<-s8];simp[zN,H5]
      have cI:w8.cell? ⟨s,9+I,zp⟩=zo (ze (((E.OU I y.hi k).pl I).map fun n=>⟨L.gb n,0,zp⟩)):=by rw[<-Q.out.1.plC v];simp[zN,H5]
      have n2:∀j,w8.frozen? ⟨s,j,zp⟩=zt:=by intro j;obtain⟨cs,nb⟩:=ms.out;simp[zY,H5,nb]
      have mx:w8.cell? ⟨B,0,zp⟩=zo (zd zj f):=by simp[zN,ma,md.out]
      clear h6 h5 mw H5 mh ma)
     all_goals
      obtain⟨L',hl⟩:=Q.out.1.iX (B:=B) (bd:=bd) (ln:=ln) (I:=I) kt.out M9.out nh.out mo.out.1 nj.out mo.out.2 (g:=⟨I,G,e.n,0,zo ⟨0,0,0,0,ye k 0⟩,[],zq⟩) (by rw[ko.out,<-k3.out];exact md.out) rfl rfl n0.out n4.out nf.out K8.out k4.out (by rw[ko.out];exact k3.out) Hg.out (by rw[ko.out];exact nx.out) m0.out v;have kq:=yw (K7.out _ _ hl);clear hl;have ni:((w8.setCell ⟨s,8,zp⟩ (zf (zo ⟨g2,0,zp⟩) (f+1) cap2)).setCell ⟨s,9+I,zp⟩ (ptr B)).cell? ⟨B,0,zp⟩=zo (zd zj f):=by rw[World.cell?_setCell_far _ _ _ _ mf,World.cell?_setCell_far _ _ _ _ mf];exact mx
      clear N s8 cI n2 mx;generalize(w8.setCell ⟨s,8,zp⟩ (zf (zo ⟨g2,0,zp⟩) (f+1) cap2)).setCell ⟨s,9+I,zp⟩ (ptr B)=w9 at kq ni ⊢;go_wp2;go_ret2
      first|exact⟨rfl,L',kq.out⟩|exact⟨L',rfl,kq.out⟩
theorem LQ{s:Ps}{i:Nat}(h:s.AK i g≠0):s.cT i g=s/\s.TO i g=0/\s.cA i g=0:=by
 unfold Ps.AK at h;unfold Ps.cT Ps.TO Ps.cA;cases hk:s.find i g with
 | none=>exact⟨rfl,rfl,rfl⟩
 | some k=>
  rw[hk]at h;simp only at h ⊢;by_cases hd:dep s.l k=8
  .simp only[if_pos hd];exact⟨trivial,trivial,trivial⟩
  .simp only[if_neg hd]at h ⊢;unfold Ps.SD at h;by_cases A:s.many=32
   .unfold Ps.put Ps.RL Ps.SU;simp only[if_pos A];exact⟨trivial,trivial,trivial⟩
   .rw[if_neg A]at h;exact absurd rfl h
theorem YB(e:Ev)(b:Nat)(w:zu)(F:Nat->Prop)(s:Nat)(S:Sc)(L:Lay)(h:yK w F s S L)(Q:S.Fit b)(K:b<900)(T:∀(n:Nat) (t:Tk),S.ts[n]?=zo t->t.OG<S.gs.length):
 zw prog 39 #[ptr s,zg (OX e)] w (Yq w F s (S.grow e)):=by
 obtain⟨w1,A⟩:=yB (w.alloc (zn (OX e) 35))
 have l:Below w.heap.size w w1:=by rw[A];exact yE w _
 have hE:RG w1 w.heap.size e:=by rw[A];exact RG.new w e
 obtain⟨N,J⟩:∃N:Nat->Prop,N=fun k=>F k/\k<w.heap.size:=⟨_,rfl⟩
 have h8:Hid (∀k,N k->F k):=yw (by rw[J];exact fun k hk=>hk.1);have h4:Hid (∀k,N k->k<w.heap.size):=yw (by rw[J];exact fun k hk=>hk.2);have G:Hid (yK w1 N s S L):=yw (by rw[J];exact h.PA.behind l);have h6:Hid (yG w F s S L w1):=yw ((yG.refl h).below l);obtain⟨d,c,HH⟩:=Qe l Q h;have HG:=yw (xG e.a w1 N s S L G.out (by have:=Q.1.gl;have:=Q.1.RY;omega));obtain⟨D,m⟩:=yB w.heap.size
 have hl:Hid (¬N D):=yw (by rw[J,m];intro hk;omega);rw[<-m]at hE;obtain⟨-,e1,-,e3,-,-⟩:=hE.c6;have Z:=yw (Yo e.n w1);clear h l hE J;obtain⟨O,p⟩:=yB (S.grow e)
 rw[<-p];cases hg:S.grp? e.a with
 | none=>
  have P:O=(S,0,2):=by rw[p];unfold Sc.grow;rw[hg]
  subst P;rw[hg]at HG;unfold Yq;clear p hg Q T;go_enter func39,ntmps39;go_wp2_with fail;rw[show w.alloc (zn (OX e) 35)=w1 from A.symm,<-m];clear A m;refine HG.out.mono ?_;rintro z w2 ⟨rfl,hw⟩;obtain rfl:=hw.symm;go_wp2;go_ret2;exact⟨L,rfl,h6.out⟩
 | some u=>
  obtain⟨-,y,W,r,U⟩:=xm hg;have hc:=yw hg;have HY:=yw W;rw[hg,show Yg L.gb (zo u)=ptr (L.gb u)from rfl]at HG;cases hwt:vm e.n with
  | false=>
   have P:O=(S,0,4):=by rw[p];unfold Sc.grow;simp only[hg,hwt];rfl
   subst P;rw[hwt]at Z;unfold Yq;clear p hg Q W r U hwt T;go_enter func39,ntmps39;go_wp2_with fail;rw[show w.alloc (zn (OX e) 35)=w1 from A.symm,<-m];clear A m;refine HG.out.mono ?_;rintro z w2 ⟨rfl,q⟩;obtain rfl:=q.symm;go_wp2_with fail;refine Z.out.mono ?_;rintro z I ⟨rfl,x⟩;obtain rfl:=x.symm;go_wp2;go_ret2;exact⟨L,rfl,h6.out⟩
  | true=>
   have hn:2<=e.n/\e.n<=262144:=by unfold vm at hwt;simpa using hwt
   by_cases H:S.tree.AK y.hi y.hg=0
   .have hf:S.grow e=(S.bT u e.n,(S.gs.length:Int),0):=by unfold Sc.grow;simp only[hg,hwt,U];rw[if_neg (by decide:¬(zq=zt)),if_neg (fun h=>h H)]
    rw[p,hf];exact BL e b w F s S L HH.out c.out K u y hc.out W r hn H T
   .have P:O=(S,0,S.tree.AK y.hi y.hg):=by rw[p];unfold Sc.grow;simp only[hg,hwt,U];rw[if_neg (by decide:¬(zq=zt)),if_pos H]
    obtain⟨E,f⟩:=yB (S.tree.AK y.hi y.hg)
    rw[<-f]at P;subst P;obtain⟨ha,h5,h7⟩:=LQ H;have hj:(E != 0)=zq:=by rw[f];simpa using H
    rw[hwt]at Z;obtain⟨h3,s5,Y⟩:=G.out.dW;obtain⟨-,g1,g2,-⟩:=(G.out.gp W).c7;have X:=(G.out.gp W).lt;have h9:Hid (∀W2,Below w1.heap.size w1 W2->zw prog 72 #[ze (zo ⟨L.t,0,zp⟩),zg #[zd zj y.hi,zd zj y.hg]] W2 fun z w'=>z=zm (zi #[zg #[zd zj 0,zd zj 0],zd zj E])/\yG W2 N s S L w'):=yw fun W2 hb=>by refine(Gh y.hi y.hg (b+2) W2 0 L.t L.tp S.tree (h3.behind hb) c.out.1.tok (by have:=c.out.1.RY;omega) c.out.1.tr).mono ?_;rintro z w' ⟨rfl,hx,hp⟩;rw[ha]at hx;rw[h5,h7,<-f];exact⟨rfl,(G.out.behind hb).dU _ _ hp hx⟩
    unfold Yq;clear p hg Q W r U hwt T h3 ha h5 h7 H f;go_enter func39,ntmps39;go_wp2_with fail;rw[show w.alloc (zn (OX e) 35)=w1 from A.symm,<-m];clear A m;refine HG.out.mono ?_;rintro z w2 ⟨rfl,q⟩;obtain rfl:=q.symm;go_wp2_with fail;refine Z.out.mono ?_;rintro z I ⟨rfl,x⟩;obtain rfl:=x.symm;go_wp2_with fail;go_region_held3 (fun w'=>w'.cell? ⟨s,5,zp⟩=zo (ptr L.t)/\w'.cell? ⟨L.gb u,1,zp⟩=zo (zd zj y.hi)/\w'.cell? ⟨L.gb u,2,zp⟩=zo (zd zj y.hg)) (go_keep)
     (first
      | (
       go_at_call 72;have v:Below w1.heap.size w1 (w1.alloc (zn #[zd zj 0,zd zj 0] 78)).drew:=yI (yE w1 _);have h0:=yw v;refine(h9.out _ v).mono ?_;rintro z I ⟨rfl,M⟩;have C:Hid (yG (w1.alloc (zn #[zd zj 0,zd zj 0] 78)).drew N s S L I):=yw M;have B:Hid (yG w1 N s S L I):=yw (yG.NZ h0.out C.out);have V:I.heap[w1.heap.size]?=zo (zn #[zd zj 0,zd zj 0] 78 (0,0)):=by rw[C.out.2.block w1.heap.size (by simp) (fun hk=>by have h1:=h4.out _ hk;have h2:=d.out.size;omega)];exact heap_alloc_new w1 _
       have hm:I.cell? ⟨w1.heap.size,0,zp⟩=zo (zd zj 0):=by simp[zN,V]
       have hu:I.cell? ⟨w1.heap.size,1,zp⟩=zo (zd zj 0):=by simp[zN,V]
       have hq:∀j,I.frozen? ⟨w1.heap.size,j,zp⟩=zt:=by intro j;simp[zY,V]
       have hh:s≠w1.heap.size:=by have:=G.out.RZ.2;omega
       have he:L.gb u≠w1.heap.size:=by have:=(G.out.gp (n:=u) (g:=y) HY.out).lt;omega
       have hr:=Ne.symm hh;have ht:=Ne.symm he;clear v V M s5 g1 g2 X Y;obtain⟨-,s5,Y⟩:=B.out.1.dW;obtain⟨-,g1,g2,-⟩:=(B.out.1.gp (n:=u) (g:=y) HY.out).c7;have X:=(B.out.1.gp (n:=u) (g:=y) HY.out).lt)
      | (
       go_at_call 72;refine(h9.out _ (⟨rfl,rfl,rfl,yA _,fun _ _=>rfl⟩:Below w1.heap.size w1 w1.drew)).mono ?_;rintro z I ⟨rfl,M⟩;have B:Hid (yG w1 N s S L I):=yw (yG.NZ (⟨rfl,rfl,rfl,yA _,fun _ _=>rfl⟩:Below w1.heap.size w1 w1.drew) M);clear M s5 g1 g2 X Y;obtain⟨-,s5,Y⟩:=B.out.1.dW;obtain⟨-,g1,g2,-⟩:=(B.out.1.gp (n:=u) (g:=y) HY.out).c7;have X:=(B.out.1.gp (n:=u) (g:=y) HY.out).lt))
    .have R:=yw (yG.NZ d.out ((B.out.below (yE I (zn #[zd zj 0,zd zj 0] 78))).grow h8.out));go_wp2;go_ret2
     first|exact⟨L,rfl,R.out⟩|exact⟨rfl,L,R.out⟩
    .have R:=yw (yG.NZ d.out ((yG.box h0.out C.out (yA _) (by simp) (fun hk=>by have h1:=h4.out _ hk;have h2:=d.out.size;omega) ((OA.refl (fun k=>k=w1.heap.size) I).one (o:=0) (u:=zd zj 0) |>.one (o:=1) (u:=zd zj 0))).grow h8.out));go_wp2;go_ret2
     first|exact⟨L,rfl,R.out⟩|exact⟨rfl,L,R.out⟩
theorem BM:(prog.info? 191).map (fun i=>(i.zero,i.size,i.bytes))=zo (zo (zg #[zd zj 0,zd zk 0,zd zk 0,zh zt]),4,32):=by kernel_rfl
def Kh(l:List Cd):List zz:=l.flatMap fun c=> [zd zj c.n,zd zk c.w,zd zk c.m,zh c.r]
theorem YD(l:List Cd)(c:Cd):Kh (l++ [c])=Kh l++ [zd zj c.n,zd zk c.w,zd zk c.m,zh c.r]:=by simp[Kh]
theorem Mu:∀(l:List Cd) (k:Nat) (c:Cd),l[k]?=zo c->(Kh l)[k*4]?=zo (zd zj c.n)/\(Kh l)[k*4+1]?=zo (zd zk c.w)/\(Kh l)[k*4+2]?=zo (zd zk c.m)/\(Kh l)[k*4+3]?=zo (zh c.r)
 | [],k,c,h=>by simp at h
 | d::l,0,c,h=>by simp at h;subst h;simp[Kh]
 | d::l,k+1,c,h=>by
  have A:l[k]?=zo c:=by simpa using h
  obtain⟨E,B,G,D⟩:=Mu l k c A;have e:Kh (d::l)= [zd zj d.n,zd zk d.w,zd zk d.m,zh d.r]++Kh l:=rfl;rw[e];refine⟨?_,?_,?_,?_⟩
  .rw[zV (by simp;omega)];simpa[show(k+1)*4-4=k*4 by omega]using E
  .rw[zV (by simp;omega)];simpa[show(k+1)*4+1-4=k*4+1 by omega]using B
  .rw[zV (by simp;omega)];simpa[show(k+1)*4+2-4=k*4+2 by omega]using G
  .rw[zV (by simp;omega)];simpa[show(k+1)*4+3-4=k*4+3 by omega]using D
theorem Pj.SW{base:Nat}{e:TypeId}{a:Option Addr}{c:Nat}{l:List Cd}(A:w.ownsRow base e 4 (zf a n c) n (Kh l)):Pj w a l:=fun k x R=>by
 obtain⟨B,E,O,H⟩:=Mu l k x R;rcases A.2 with⟨D,G⟩|⟨g,h7,cur,D,hb,M,_⟩
 .have I:=A.1;have h6:=(yy B).1;rw[G]at I;omega
 .have J:=(yx M).1;injection D with e1 e2 e3
  subst e1;have at_:∀j u,(Kh l)[j]?=zo u->w.cell? ⟨g,j,zp⟩=zo u:=fun j u N=>by have:=A.cells (g:=g) rfl j u N;rw[Xq]at this;exact this
  exact⟨g,rfl,J,at_ _ _ B,at_ _ _ E,at_ _ _ O,at_ _ _ H⟩
def NU(S:Sc)(c:Cd):Prop:=∃(n:Nat) (t:Tk),c.n=(n:Int)/\S.ts[n]?=zo t/\t.on=zq/\c.m=t.mask
theorem YE(e:Ev)(b:Nat)(w:zu)(F:Nat->Prop)(s:Nat)(S:Sc)(L:Lay)(h:yK w F s S L)(ok:S.Fit b):
 zw prog 53 #[ptr s,zg (OX e)] w fun z w'=>∃o,S.eN o/\TM w F s L o z w':=by
 obtain⟨w1,V⟩:=yB (w.alloc (zn (OX e) 35))
 have Hy:Below w.heap.size w w1:=by rw[V];exact yE w _
 have hE:RG w1 w.heap.size e:=by rw[V];exact RG.new w e
 obtain⟨J,Q⟩:∃J:Nat->Prop,J=fun k=>F k/\k<w.heap.size:=⟨_,rfl⟩
 have m9:Hid (∀k,J k->F k):=yw (by rw[Q];exact fun k hk=>hk.1);have kn:Hid (∀k,J k->k<w.heap.size):=yw (by rw[Q];exact fun k hk=>hk.2);have X:Hid (yK w1 J s S L):=yw (by rw[Q];exact h.PA.behind Hy);have k8:Hid (yG w F s S L w1):=yw ((yG.refl h).below Hy);obtain⟨kb,H7,R⟩:=Qe Hy ok (uu e.a w1 J s S L X.out);obtain⟨D,hD⟩:=yB w.heap.size
 have m1:Hid (¬J D):=yw (by rw[Q,hD];intro hk;omega);rw[<-hD]at hE;have HE:=yw hE;obtain⟨-,Y,-,-,-,-⟩:=hE.c6;have A:=hE.lt;clear h Hy hE Q;have h7:Hid (∀f w',f≠0->yG w F s S L w'->∃o,S.eN o/\TM w F s L o (zm (zi #[zd zj 0,zd zj f])) w'):=yw fun f w' hf hl=>⟨(S,0,f),.inl ⟨f,hf,rfl⟩,rfl,hl⟩
 by_cases hp:S.TN e.a
 .have K3:0<=e.a/\e.a<S.ps:=hp;obtain⟨p,K5⟩:=Int.eq_ofNat_of_zero_le K3.1;have ka:p<S.ps:=by omega
  rw[decide_eq_true hp]at R;obtain⟨K6,kq,k9⟩:=Qe K5 ka (Jv b w1 J s S L X.out ok.1);have kt:=ok.1.ps.2;have md:=ok.1.tl;have ml:=ok.1.RY;obtain⟨n,hn⟩:=yB S.ps
  have g:Hid (S.OZ.length=n):=yw (by rw[hn];exact ok.1.OZ.2);rw[<-hn]at k9 kt ka;obtain⟨ld,kl⟩:=yB S.OZ
  rw[<-kl]at k9 g;clear hp K3 hn kl K5;go_enter func53,ntmps53;go_wp2_with fail;rw[show w.alloc (zn (OX e) 35)=w1 from V.symm,<-hD];clear V hD;refine R.out.mono ?_;rintro z w2 ⟨rfl,k1⟩;obtain rfl:=k1.symm;go_wp2_with fail;refine k9.out.mono ?_;rintro z w2 ⟨la,lc,rfl,h8,H6⟩;have ks:=yw H6;have T:=xE.SG h8;have mc:=yw T;have mr:Hid (∀r,la=zo ⟨r,0,zp⟩->¬J r):=yw (fun r hr hF=>by have C:=(h8.lt r (by rw[hr];rfl)).1;have h2:=kn.out r hF;have h3:=kb.out.size;omega)
  have k4:=yw (GK ld e.a 18446744073709551615 la lc w2 (by rw[g.out];exact kt) (by omega) (by omega) T);rw[g.out]at k4;obtain⟨bu,kc⟩:=yB (GJ ld e.a 18446744073709551615)
  have me:Hid (∀f,bu=zo f->f<n):=yw fun f hf=>by rw[kc]at hf;have:=Ig hf;rw[g.out]at this;exact this
  rw[<-kc]at k4;have K7:=(H6.cell (p:=⟨D,1,zp⟩) A).trans Y;have P:=yz A H6.size;clear h8 H6 T kc Y A;go_wp2_with fail;refine k4.out.mono ?_;rintro z w3 ⟨rfl,hh⟩;have d:=yw (yC ks.out hh ks.out.size);have H4:=yw (mc.out.behind hh);have Y:=(hh.cell (p:=⟨D,1,zp⟩) P).trans K7;have A:=yz P hh.size;clear hh K7 P;cases bu with
  | none=>
   have ke:=yw (k8.out.below d.out);rw[show uT zp= -1 from rfl];go_wp2;go_ret2;exact h7.out 12 _ (by omega) ke.out
  | some f=>
   have mb:=me.out f rfl;have mn:(f:Int) <(n:Int):=by omega
   rw[show uT (zo f)=(f:Int)from rfl];have kw:=X.out.behind d.out;obtain⟨⟨va,vc,H9⟩,s7,-⟩:=kw.RN;obtain⟨nn,kh⟩:=yB S.ts.length
   have K1:=yw kh;rw[<-kh]at H9 md;have K0:=yw H9;rw[H9]at s7;clear kw H9 kh;go_wp2_with fail;clear s7 Y A;obtain⟨i0,hi,km,K2,ku⟩:=info_parts BM;go_loopw [8,9,10,32] (fun v8 _ _ i wr=>∃(k:Nat) (l:List Cd) (m:Nat) (ar:Option Addr) (cr:Nat),k<=nn/\i=zd zj k/\v8=zf ar m cr/\m=l.length/\m<=k/\wr.ownsRow w3.heap.size 191 4 (zf ar m cr) m (Kh l)/\(∀c∈l,NU S c)/\Below w3.heap.size w3 wr) (fun _ _ _ i _=>nn-(intOf i).toNat)
   case atStart=>exact⟨0,[],0,zp,0,by omega,rfl,rfl,rfl,by omega,by simpa[Kh]using ym _ _ _ _,by simp,zU _ _⟩
   case round=>
    obtain⟨k,l,m,ar,cr,hk,rfl,rfl,kr,mp,H2,K,hb⟩:=hrel;obtain⟨HB,hq,ho,hu,hm⟩:=Qg hb (yC d.out hb d.out.size) H2 K kr;have HS:=yw (X.out.behind hq.out);clear hb H2 K kr;by_cases K8:k<nn
    .have mo:(
      k:Int) <(nn:Int):=by omega
     have kd:k<S.ts.length:=by rw[<-K1.out];exact K8
     obtain⟨t,ht⟩:∃t,S.ts[k]?=zo t:=⟨_,zy kd⟩
     obtain⟨r,kg,hv,M,k6⟩:=HS.out.RN.2.2 k kd;rw[K0.out]at hv;obtain⟨rfl,-,rfl⟩:va=zo ⟨r,0,zp⟩/\nn=S.ts.length/\vc=kg:=by injection hv with C h2 h3;exact⟨C,h2,h3⟩
     obtain⟨-,-,t2,t3,t4,-,-,t7,t8,-⟩:=(HS.out.tk ht).TY;have he:=(HS.out.tk ht).lt;have HT:=yw ht;clear ht hv kd;by_cases H:t.on=zq/\t.p=f
     .obtain⟨H,kz⟩:=H;have ha:=yw H;rw[H]at t3;have ma:((t.p:Int) == (f:Int))=zq:=by simp[kz]
      have H5:=yw (xT f wr.drew J s S L (HS.out.kept fun _ _ _=>rfl));obtain⟨rv,T⟩:=yB ((if S.TN (f:Int)then S.running (f:Int).toNat else -1))
      rw[<-T]at H5;clear H kz T t2;have mh:L.tb k<w3.heap.size:=yz (X.out.tk HT.out).lt d.out.size;go_wp2_with fail;go_region_held3 (fun w'=>w'.cell? ⟨L.tb k,7,zp⟩=zo (zd zk t.w)/\w'.cell? ⟨L.tb k,8,zp⟩=zo (zd zk t.mask)) (go_keep)
       (first
        | (
         go_at_call 22;refine H5.out.mono ?_;rintro z w5 ⟨rfl,E⟩;have B:Hid (Below wr.heap.size wr w5):=yw ⟨E.os,E.tape,E.output,E.size,E.block⟩;have k5:=yw (qQ ho.out B.out);have K4:=yw (yC HB.out B.out HB.out.size);replace t7:=(B.out.cell (p:=⟨L.tb k,7,zp⟩) he).trans t7;replace t8:=(B.out.cell (p:=⟨L.tb k,8,zp⟩) he).trans t8;replace he:=yz he B.out.size;have m5:=K4.out.size;clear E t3 t4 M k6)
        | (
         refine step_append_lies _ (by rfl) _ _ _ (by rfl) w3.heap.size 191 i0 _ 4 32 underlying189 hi km K2 ku rfl (by omega) (zf ar m cr) m (Kh l) (by rfl) (k5.out.alloc _)
          ⟨w5.heap.size,0,zp⟩ 1 1 [zd zj k,zd zk t.w,zd zk t.mask,zh ((k:Int) == rv)] (by rfl) (by rfl) (World.news_of_block (cs:=AI ⟨k,t.w,t.mask,(k:Int) == rv⟩) (t:=191) (fr:=(0,0)) (heap_alloc_new w5 _)) (by simp[Value.oneCell'])
          (by omega) (by unfold maxLen;omega) (by omega) (by first|omega|(simp;omega)) (w5.heap.size+1) (by first|rfl|simp) ?_
         intro g2 cap2 w6 h0 N Hg m2;have m0:=yw h0;have kv:Below w3.heap.size w3 w6:=(K4.out.alloc m5 (zn (AI ⟨k,t.w,t.mask,(k:Int) == rv⟩) 191)).grown N (by simp;omega) (fun j hj=>(k5.out.lt j hj).1);have Z:=yw kv;have k2:w6.heap[L.tb k]?=w5.heap[L.tb k]?:=(N.block (L.tb k) (by simp;omega) (fun e'=>by have:=(k5.out.lt _ e'.symm).1;omega)).trans (zZ _ _ _ he);replace t7:w6.cell? ⟨L.tb k,7,zp⟩=zo (zd zk t.w):=by rw[<-t7];simp[zN,k2]
         replace t8:w6.cell? ⟨L.tb k,8,zp⟩=zo (zd zk t.mask):=by rw[<-t8];simp[zN,k2]
         clear h0 N Hg m2 kv k2))
      all_goals
       clear t7 t8;go_wp2_with fail;go_roundw
       case rel=>
        refine⟨k+1,l++ [⟨k,t.w,t.mask,(k:Int) == rv⟩],m+1,zo ⟨g2,0,zp⟩,cap2,by omega,by go_num,rfl,by rw[List.length_append,<-hm.out];rfl,by omega,by rw[YD];exact m0.out,fun c u=>?_,Z.out⟩;rcases List.mem_append.1 u with u|u
        .exact hu.out c u
        .simp at u;subst u;exact⟨k,t,rfl,HT.out,ha.out,rfl⟩
       case measure=>simp[intOf];omega
     .cases hto:t.on with
      | false=>
       rw[hto]at t3;clear H hto;go_wp2;go_roundw
       case rel=>exact⟨k+1,l,m,ar,cr,by omega,by go_num,rfl,hm.out,by omega,ho.out,hu.out,HB.out⟩
       case measure=>simp[intOf];omega
      | true=>
       have K9:t.p≠f:=fun e'=>H ⟨hto,e'⟩;have ma:((t.p:Int) == (f:Int))=zt:=by simp;omega
       rw[hto]at t3;clear H hto K9;go_wp2;go_roundw
       case rel=>exact⟨k+1,l,m,ar,cr,by omega,by go_num,rfl,hm.out,by omega,ho.out,hu.out,HB.out⟩
       case measure=>simp[intOf];omega
    .have m6:k=nn:=by omega
     subst m6;clear i0 hi km K2 ku;have kp:f<ld.length:=by rw[g.out];exact mb
     have H3:p<ld.length:=by rw[g.out];exact ka
     obtain⟨x,hx⟩:∃x,ld[f]?=zo x:=⟨_,zy kp⟩
     obtain⟨y,hy⟩:∃y,ld[p]?=zo y:=⟨_,zy H3⟩
     obtain⟨ra,kx,cx,I⟩:=(H4.out.behind HB.out) f _ (uM hx);obtain⟨hg,h9,cy,-⟩:=(H4.out.behind HB.out) p _ (uM hy);obtain rfl:hg=ra:=by rw[kx]at h9;cases h9;rfl
     subst kx;obtain⟨-,Y,-,-,-,-⟩:=(HE.out.behind hq.out).c6;have A:=(HE.out.behind hq.out).lt;rw[K6.out]at Y;have mq:(p:Int) <(n:Int):=by omega
     have ko:=yw (Pj.SW ho.out);have ki:Hid (∀r,ar=zo ⟨r,0,zp⟩->w3.heap.size<=r):=yw fun r hr=>(ho.out.lt r (by rw[hr];rfl)).1;have m3:=yw (ZA l m ar cr x y (p:Int) wr.drew hm.out (by omega) (ko.out.behind (⟨rfl,rfl,rfl,yA _,fun _ _=>rfl⟩:Below wr.heap.size wr wr.drew)) (fun c u=>by obtain⟨q,t,_,h2,h3,h4⟩:=hu.out c u;rw[h4];exact(H7.out.1.on h2 h3).mask) ⟨by omega,by omega⟩);clear h9 hx hy kp H3;go_wp2_with fail;go_region_held3 (fun w'=>w'.cell? ⟨hg,f,zp⟩=zo (zd zk x)/\w'.cell? ⟨hg,p,zp⟩=zo (zd zk y)/\w'.cell? ⟨D,1,zp⟩=zo (zd zj p)) (go_keep)
      (first
       | (
        go_at_call 103;refine m3.out.mono ?_;rintro z w5 ⟨⟨at_,bb,Hg,rfl⟩,E⟩;have B:Hid (Below wr.heap.size wr w5):=yw ⟨E.os,E.tape,E.output,E.size,E.block⟩;have m4:=yw Hg;replace cx:=(B.out.cell (p:=⟨hg,f,zp⟩) I).trans cx;replace cy:=(B.out.cell (p:=⟨hg,p,zp⟩) I).trans cy;replace Y:=(B.out.cell (p:=⟨D,1,zp⟩) A).trans Y;replace A:=yz A B.out.size;replace I:=yz I B.out.size;clear E Hg))
     all_goals
      clear cx cy I;have O:=yw (yC hq.out B.out hq.out.size);cases bb with
      | false=>
       have ke:=yw (k8.out.below O.out);clear Y A;go_wp2;go_ret2;exact h7.out 12 _ (by omega) ke.out
      | true=>
       have hw:at_<m:=m4.out (by first|trivial|rfl);have H1:at_<l.length:=by rw[<-hm.out];exact hw
       obtain⟨c,u⟩:∃c,l[at_]?=zo c:=⟨_,zy H1⟩
       obtain⟨id,t,kj,ht,H,-⟩:=hu.out c (zW u);obtain⟨r2,kk,h6,c0,-,-,-⟩:=(ko.out.behind B.out) at_ c u;rw[kj]at c0;have mm:w3.heap.size<=r2:=ki.out r2 kk;subst kk;have k7:=yw (X.out.behind O.out);have H0:=(yy ht).1;obtain⟨r,kg,hv,M,k6⟩:=k7.out.RN.2.2 id H0;have s7:=k7.out.RN.2.1;rw[K0.out]at hv s7;obtain⟨rfl,-,rfl⟩:va=zo ⟨r,0,zp⟩/\k=S.ts.length/\vc=kg:=by injection hv with C h2 h3;exact⟨C,h2,h3⟩
       have mi:(id:Int) <(k:Int):=by have:=K1.out;omega
       have mj:(at_:Int) <(m:Int):=by omega
       obtain⟨HT,ha,mg⟩:=Qe ht H (fun W (hW:yK W J s S L)=>Jx id t b W J s S L hW H7.out.1 ht H);clear hw H1 u kj ht H H0 hv;go_wp2_with fail;go_quiet (fail);have U:Below w5.heap.size w5 (w5.drewN nq):=yH (zU _ _) nq;generalize w5.drewN nq=w6 at U ⊢;have m7:=yw (k7.out.behind U);have Z:=yw (yC O.out U O.out.size);have c6:=(U.cell (p:=⟨r2,at_*4,zp⟩) h6).trans c0;have C6:=yw c6;have ky:Hid (¬J r2):=yw (fun hF=>by have C:=kn.out r2 hF;have h2:=kb.out.size;have h3:=d.out.size;omega);have h5:=yw (yz h6 U.size)
       clear U c0 c6 M k6 s7 Y A h6;go_wp2_with fail;refine(mg.out w6 m7.out).mono ?_;rintro z w7 ⟨⟨v,rfl⟩,H8⟩;have kf:=yw H8;have k3:RG w7 D e:=(H8.2.block D (HE.out.behind Z.out).lt m1.out).trans (HE.out.behind Z.out);obtain⟨-,Y,-,-,-,-⟩:=k3.c6;have A:=k3.lt;rw[K6.out]at Y;obtain⟨t1,g1,g2,g3,-⟩:=qR HT.out;have m8:=yw (Wu id p zt t1 b w7 (Ext J w6 w7) s (S.leave id) L H8.1 (Ql H7.out HT.out ha.out).1 g1 (g3.trans (H7.out.1.dead id t HT.out ha.out)) g2 (show p<S.ps from kq.out));clear H8 k3 g1 g2 g3;go_wp2_with fail;refine m8.out.mono ?_;rintro z w8 ⟨⟨v2,rfl⟩,k0⟩
       have c8:w8.cell? ⟨r2,at_*4,zp⟩=zo (zd zj id):=by
        have C:=kf.out.2.block r2 h5.out ky.out;have h2:=k0.2.block r2 (yz h5.out kf.out.2.size) (fun hf=>by
         rcases hf with hf|hf
         .exact ky.out hf
         .have:=hf.1;have:=h5.out;omega)
        rw[<-C6.out];simp[zN,h2,C]
       have mf:=yw (yG.NZ kb.out (((yG.NZ Z.out kf.out).then (k0.grow (G:=Ext J w1 w7) fun z hz=>by
        rcases hz with C|C
        .exact .inl C
        .exact .inr ⟨by have:=C.1;have:=Z.out.size;omega,C.2⟩)).grow m9.out))
       clear k0 Y A;go_wp2;go_ret2;exact⟨((S.leave id).put id p zt,(id:Int),0),.inr ⟨id,t,p,HT.out,ha.out,kq.out,rfl⟩,rfl,mf.out⟩
 .rw[decide_eq_false hp]at R;clear hp;go_enter func53,ntmps53;go_wp2_with fail;rw[show w.alloc (zn (OX e) 35)=w1 from V.symm,<-hD];clear V hD;refine R.out.mono ?_;rintro z w2 ⟨rfl,k1⟩;obtain rfl:=k1.symm;go_wp2;go_ret2;exact h7.out 1 _ (by omega) k8.out
theorem MC{s:Ps}{i:Int}(h:s.bP i g≠0):s.dC i g=s:=by
 unfold Ps.bP at h;unfold Ps.dC;cases hk:s.find i g with
 | none=>rfl
 | some k=>
  rw[hk]at h;simp only at h ⊢;by_cases B:k=0
  .rw[if_pos B]
  .rw[if_neg B]at h ⊢;by_cases A:(qV s.l (Yb s i g)).length=0
   .rw[if_pos A]at h;exact absurd rfl h
   .rw[if_neg A]
theorem BT(w:zu)(a:Nat):(binOp .eql 59 (ptr a) (ptr a)).run prog w=.ok (zh zq) w:=by obtain⟨j,A,_⟩:=Option.map_eq_some_iff.1 (show(prog.info? 86).map (fun i=>i.size)=zo 7 by kernel_rfl);exact run_eql_ptr_same w _ underlying59 A
theorem YO(w:zu){a:Nat}(A:a≠b){G cb:Array zz}{E tb:TypeId}(D:w.heap[a]?=zo (zn G E (0,0)))(hb:w.heap[b]?=zo (zn cb tb (0,0))):(binOp .eql 59 (ptr a) (ptr b)).run prog w=.ok (zh zt) w:=by obtain⟨j,B,hs⟩:=Option.map_eq_some_iff.1 (show(prog.info? 86).map (fun i=>i.size)=zo 7 by kernel_rfl);exact run_eql_ptr_other w underlying59 B (by omega) (fun e=>A (by injection e)) D hb
def Sc.PB(S:Sc)(I k:Nat):Sc:={ S with hs:=fun p=>if p<k then(S.hs p).unlink I else S.hs p }
theorem La(S:Sc)(I k:Nat):(S.PB I k).OM k (((S.PB I k).hs k).unlink I)=S.PB I (k+1):=by
 unfold Sc.PB Sc.OM;simp only[Nat.lt_irrefl,if_false]
 congr 1
 funext p;by_cases h:p=k
 .subst h;rw[yR,if_pos (by omega)]
 .rw[yQ _ _ h];by_cases A:p<k
  .rw[if_pos A,if_pos (by omega)]
  .rw[if_neg A,if_neg (by omega)]
theorem YP(e:Ev)(b:Nat)(w:zu)(F:Nat->Prop)(s:Nat)(S:Sc)(L:Lay)(h:yK w F s S L)(ok:S.Fit b)(hq:∀(n:Nat) (t:Tk),S.ts[n]?=zo t->t.OG<S.gs.length):
 zw prog 40 #[ptr s,zg (OX e)] w (TM w F s L (S.drop e)):=by
 obtain⟨w1,V⟩:=yB (w.alloc (zn (OX e) 35))
 have hm:Below w.heap.size w w1:=by rw[V];exact yE w _
 have hE:RG w1 w.heap.size e:=by rw[V];exact RG.new w e
 obtain⟨K,W⟩:∃K:Nat->Prop,K=fun k=>F k/\k<w.heap.size:=⟨_,rfl⟩
 have k6:Hid (∀k,K k->F k):=yw (by rw[W];exact fun k hk=>hk.1);have B:Hid (yK w1 K s S L):=yw (by rw[W];exact h.PA.behind hm);have H2:Hid (yG w F s S L w1):=yw ((yG.refl h).below hm);have H3:=yw hm;have H:=yw ok;have HG:=yw (xG e.a w1 K s S L B.out (by have:=ok.1.gl;have:=ok.1.RY;omega));obtain⟨D,hD⟩:=yB w.heap.size
 have kj:Hid (¬K D):=yw (by rw[W,hD];intro hk;omega);rw[<-hD]at hE;have HE:=yw hE;obtain⟨-,e1,-,-,-,-⟩:=hE.c6;have k5:=hE.lt;clear h hm hE W;obtain⟨O,hO⟩:=yB (S.drop e)
 rw[<-hO];cases hg:S.grp? e.a with
 | none=>
  have ho:O=(S,0,2):=by rw[hO];unfold Sc.drop;rw[hg]
  subst ho;rw[hg]at HG;unfold TM;clear hO hg ok hq;go_enter func40,ntmps40;go_wp2_with fail;rw[show w.alloc (zn (OX e) 35)=w1 from V.symm,<-hD];clear V hD;refine HG.out.mono ?_;rintro z w2 ⟨rfl,hw⟩;obtain rfl:=hw.symm;go_wp2;go_ret2;exact⟨rfl,H2.out⟩
 | some g=>
  obtain⟨ha,x,hx,k7,H9⟩:=xm hg;have Hy:g<S.gs.length:=(yy hx).1;obtain⟨HX,H4,K2⟩:=Qe hx k7 hq;rw[hg,show Yg L.gb (zo g)=ptr (L.gb g)from rfl]at HG;have ko:Hid (S.AO g=zq->O=(S,0,6)):=yw fun hb=>by rw[hO];unfold Sc.drop;rw[hg];simp only;rw[if_pos hb]
  have kg:Hid (S.AO g=zt->O=if S.tree.bP x.hi x.hg≠0 then(S,0,S.tree.bP x.hi x.hg)else(S.OJ g,0,0)):=yw fun hb=>by rw[hO];unfold Sc.drop;rw[hg];simp only;rw[if_neg (by rw[hb];decide),H9]
  obtain⟨⟨va,vc,H5⟩,s7,A⟩:=B.out.RN;have h3:=yw A;rw[H5]at s7;have kv:=yw H5;obtain⟨nt,hc⟩:=yB S.ts.length
  have hr:=yw hc;rw[<-hc]at s7;have m:=B.out.RZ.2;rw[ha]at e1 HG;have HA:=yw ha;have K5:nt<=901:=by rw[hc];have:=ok.1.tl;have:=ok.1.RY;omega
  clear hO hg ok hq hx k7 H9 A H5 hc ha;unfold TM;go_enter func40,ntmps40;go_wp2_with fail;rw[show w.alloc (zn (OX e) 35)=w1 from V.symm,<-hD];clear V hD;rw[show e.a=(g:Int)from HA.out];refine HG.out.mono ?_;rintro z w2 ⟨rfl,hw⟩;obtain rfl:=hw.symm;go_wp2_with fail;clear s7;go_loopw [8,23] (fun _ i wr=>∃(k:Nat),k<=nt/\i=zd zj k/\wr=w1/\∀(j:Nat) (t:Tk),j<k->S.ts[j]?=zo t->t.dead=zt->t.OG≠g) (fun _ i _=>nt-(intOf i).toNat)
  case atStart=>exact⟨0,by omega,rfl,rfl,fun j t hj=>absurd hj (by omega)⟩
  case round=>
   obtain⟨k,hk,rfl,kq,h2⟩:=hrel;subst kq;have q:=yw h2;clear h2;by_cases Z:k<nt
   .have kl:(k:Int) <(nt:Int):=by omega
    obtain⟨t,C⟩:∃t,S.ts[k]?=zo t:=⟨_,zy (by rw[<-hr.out];exact Z)⟩
    have HT:=yw C;obtain⟨r,K0,H1,rc,rl⟩:=h3.out k (by rw[<-hr.out];exact Z);rw[kv.out]at H1;simp only[Value.slice.injEq]at H1;obtain⟨kt,-,-⟩:=H1;subst kt;obtain⟨-,-,t2,-,-,t5,-,-,-,-,-,-,-,-⟩:=(B.out.tk C).TY;have m5:=(B.out.tk C).lt;have p:=K2.out k t C;cases hd:t.dead with
    | true=>
     rw[hd]at t2;have HN:Hid (∀(j:Nat) (t:Tk),j<k+1->S.ts[j]?=zo t->t.dead=zt->t.OG≠g):=yw fun j t' hj N o=>by
      by_cases hu:j<k
      .exact q.out j t' hu N o
      .obtain rfl:j=k:=by omega
       rw[HT.out]at N;obtain rfl:=zx N;rw[hd]at o;cases o
     clear C hd p;go_wp2_with fail;go_roundw
     case rel=>exact⟨k+1,by omega,by go_num,trivial,HN.out⟩
     case measure=>simp[intOf];omega
    | false=>
     rw[hd]at t2;by_cases X:t.OG=g
     .have U:S.AO g=zq:=by unfold Sc.AO;rw[List.any_eq_true];exact⟨t,zW C,by rw[hd,X];simp⟩
      have ho:=ko.out U;subst ho;rw[X]at t5;have ky:=BT wr (L.gb g);clear C hd p X U;go_wp2;go_ret2;exact⟨rfl,H2.out⟩
     .obtain⟨y,hy⟩:∃y,S.gs[t.OG]?=zo y:=⟨_,zy p⟩
      have ky:=YO wr (fun v=>X (B.out.iZ p Hy v)) (B.out.gp hy) (B.out.gp HX.out);have HN:Hid (∀(j:Nat) (t:Tk),j<k+1->S.ts[j]?=zo t->t.dead=zt->t.OG≠g):=yw fun j t' hj N o=>by
       by_cases hu:j<k
       .exact q.out j t' hu N o
       .obtain rfl:j=k:=by omega
        rw[HT.out]at N;obtain rfl:=zx N;exact X
      clear C hd p X hy;go_wp2_with fail;go_roundw
      case rel=>exact⟨k+1,by omega,by go_num,trivial,HN.out⟩
      case measure=>simp[intOf];omega
   .have h7:k=nt:=by omega
    have U:S.AO g=zt:=by
     unfold Sc.AO;rw[List.any_eq_false];intro t C;obtain⟨j,hj⟩:=List.getElem?_of_mem C;have kh:=(yy hj).1;have:=q.out j t (by rw[h7,hr.out];exact kh) hj;cases hd:t.dead with
     | true=>simp
     | false=>simp[this hd]
    have c:=kg.out U;have ku:=yw U;obtain⟨Hg,s5,m⟩:=B.out.dW;obtain⟨-,g1,g2,-⟩:=(B.out.gp HX.out).c7;obtain⟨E,he⟩:=yB (S.tree.bP x.hi x.hg)
    obtain⟨T,hT⟩:=yB (S.tree.dC x.hi x.hg)
    have k3:Hid (zw prog 76 #[ze (zo ⟨L.t,0,zp⟩),zg #[zd zj x.hi,zd zj x.hg]] wr.drew fun z w'=>z=zm (zd zj E)/\yG wr K s { S with tree:=T } L w'):=yw (by have hb:Below wr.heap.size wr wr.drew:=yI (zU _ wr);refine(Ss x.hi x.hg (b+2) wr.drew 0 L.t L.tp S.tree (Hg.behind hb) H.out.1.tok (by have:=H.out.1.RY;omega) H.out.1.tr).mono ?_;rintro z w' ⟨rfl,hx,hp⟩;rw[he,hT];exact⟨rfl,yG.NZ hb ((B.out.behind hb).dU _ _ hp hx)⟩);rw[<-he]at c;have k8:=yw he;have k2:=yw hT;clear h7 U Hg he hT;go_upto_region 10 with(fail)
    refine wp_region_still_tail 8 (by kernel_rfl) (by kernel_rfl) ?_;simp only[List.take_succ_cons,List.take_zero,List.drop_succ_cons,List.drop_zero]
    repeat still_step
    refine wpStill_nil ?_;go_wp2_with fail;refine k3.out.mono ?_;rintro z w3 ⟨rfl,k1⟩;have M:=yw k1;clear k1 s5 g1 g2 m e1 k5;by_cases J:E=0
    .rw[if_neg (fun h=>h J)]at c;have ke:Hid (S.eX g x):=yw (H.out.1.bare HX.out H4.out ku.out (by rw[<-k8.out];exact J));subst c J;obtain⟨G,hf⟩:∃G,G=({ S with tree:=T }:Sc):=⟨_,rfl⟩
     rw[<-hf]at M;have Q:=yw hf;obtain⟨ps,h8⟩:=yB S.ps
     have k4:=yw h8;have K7:1<=ps/\ps<=64:=by rw[h8];exact H.out.1.ps
     have f:G.ps=ps:=by rw[hf,h8]
     have h5:0<G.ps:=by omega
     obtain⟨rh,ch,P⟩:=M.out.1.eD h5;rw[f]at P;have ki:=yw P;obtain⟨l,-,-⟩:=M.out.1.SK h5 P;have m:=M.out.1.RZ.2;obtain⟨wq,ka⟩:=yB wr
     rw[<-ka]at M HE H2 H3;have H8:=yw f;clear ka hf h8 f P k3 h3 B;go_wp2_with fail;clear l m;go_loopw [11,58] (fun _ i wr=>∃(k:Nat),k<=ps/\i=zd zj k/\yG wq K s (G.PB x.hi k) L wr) (fun _ i _=>ps-(intOf i).toNat)
     case atStart=>exact⟨0,by omega,rfl,M.out⟩
     case round=>
      obtain⟨k,hk,rfl,hl⟩:=hrel;have Y:=yw hl;clear hl;have R:(G.PB x.hi k).gs[g]?=zo x:=by show G.gs[g]?=zo x;rw[Q.out];exact HX.out
      obtain⟨-,g1,-,-⟩:=(Y.out.1.gp R).c7;by_cases Z:k<ps
      .have kl:(k:Int) <(ps:Int):=by omega
       have H6:k<(G.PB x.hi k).ps:=by show k<G.ps;rw[H8.out];exact Z
       have H0:k<S.ps:=by rw[<-k4.out];exact Z
       obtain⟨l,rp,kn⟩:=Y.out.1.SK H6 ki.out;obtain⟨Gk,hH,hU⟩:=Y.out.1.SX H6;have HU:=yw hU;obtain⟨z,hz,k0,kf,h6⟩:=ke.out.SX H.out.1 H0 (H.out.2 k H0);have hn:(G.PB x.hi k).hs k=S.hs k:=by unfold Sc.PB;show(if k<k then _ else G.hs k)=_;rw[if_neg (Nat.lt_irrefl k),Q.out]
       have kr:=yw (ZN x.hi wr Gk (L.hb k) _ z hH (by rw[hn];exact hz) ke.out.h0 k0 kf (by rw[hn];exact h6));clear R H6 H0 hH hU hz k0 kf h6 hn;go_wp2_with fail;refine kr.out.mono ?_;rintro y w9 ⟨rfl,kc⟩;have kk:Hid (yG wq K s (G.PB x.hi (k+1)) L w9):=yw (by rw[<-La];exact Y.out.then (HU.out _ _ kc));clear kc l rp kn g1;go_wp2_with fail;go_roundw
       case rel=>exact⟨k+1,by omega,by go_num,kk.out⟩
       case measure=>simp[intOf];omega
      .have h7:k=ps:=by omega
       subst h7;obtain⟨-,s8,k9⟩:=Y.out.1.bU;obtain⟨r,K0,hv,rc,rl⟩:=k9 g x R H4.out;have h9:(G.PB x.hi k).gs=S.gs:=by show G.gs=_;rw[Q.out]
       rw[h9]at hv;rw[hv]at s8;have HV:=yw hv;have m:=Y.out.1.RZ.2;obtain⟨nn,kd⟩:=yB S.gs.length
       rw[<-kd]at s8 Hy;have K4:(g:Int) <(nn:Int):=by omega
       have K9:(0:Int)<=g:=by omega
       have h4:=H.out.1.hi HX.out H4.out;have iR:(0:Int)<=x.hi:=by omega
       have m2:(x.hi:Int) <32:=by omega
       have u:RG wr D e:=(Y.out.2.block D HE.out.lt kj.out).trans HE.out;obtain⟨-,e1,-,-,-,-⟩:=u.c6;rw[HA.out]at e1;have k5:=u.lt;have pc:=Y.out.1.plC h4;obtain⟨pv,kb⟩:=yB (Option.map (fun n=>(⟨L.gb n,0,zp⟩:Addr)) ((G.PB x.hi k).pl x.hi))
       rw[<-kb]at pc;obtain⟨cs,d⟩:=Y.out.1.tyS;have A:=Y.out.1.gP;rw[h9,hv]at A;have kz:r≠s:=fun v=>yS A.1 d (by decide) (by rw[v];rfl);have kx:r≠D:=fun v=>yS A.1 (show wr.heap[D]?=zo (zn _ _ _)from u) (by decide) (by rw[v];rfl);have H7:r≠L.gb g:=fun v=>yS A.1 (show wr.heap[L.gb g]?=zo (zn _ _ _)from Y.out.1.gp R) (by decide) (by rw[v];rfl);have kp:s≠D:=fun v=>by have I:wr.heap[D]?=zo (zn _ _ _):=u;rw[<-v,d]at I;simp only[ya,Obj.cells.injEq]at I;exact absurd I.2.1 (by decide)
       have km:s≠L.gb g:=fun v=>by have I:wr.heap[L.gb g]?=zo (zn _ _ _):=Y.out.1.gp R;rw[<-v,d]at I;simp only[ya,Obj.cells.injEq]at I;exact absurd I.2.1 (by decide)
       have m1:=Ne.symm kz;have m0:=Ne.symm kx;have m6:=Ne.symm H7;have m3:=Ne.symm kp;have K6:=Ne.symm km;have m7:∀j,wr.frozen? ⟨s,j,zp⟩=zt:=by intro j;simp[zY,d]
       have m4:∀j,wr.frozen? ⟨r,j,zp⟩=zt:=by
        rcases A.1.2 with⟨I,_⟩|⟨r',K3,cur,I,_,hh,_⟩
        .cases I
        .simp only[Value.slice.injEq,ya,Addr.mk.injEq,and_true]at I;obtain⟨rfl,-⟩:=I;intro j;simp[zY,hh]
       have K1:Hid (yG w F s (S.OJ g) L ((wr.drew.setCell ⟨r,g,zp⟩ (ze zp)).setCell ⟨s,9+x.hi,zp⟩ (ze zp))):=yw (by
        have hd:yG wq K s (G.PB x.hi k) L wr.drew:=Y.out.below (yI (zU _ wr));have I:=hd.then (hd.1.fU R (by rw[h9];exact HV.out) h4);have e2:S.OJ g={ G.PB x.hi k with gs:=(G.PB x.hi k).gs.set g { x with there:=zt },pl:=OV (G.PB x.hi k).pl x.hi zp }:=by unfold Sc.OJ Sc.PB;rw[Sc.PE HX.out,Q.out,k2.out,k4.out]
        rw[e2];exact yG.NZ H3.out (I.grow k6.out))
       clear R k9 h9 hv kb A d u kd;go_upto_region 18 with(fail)
       go_region;go_wp2;go_ret2;exact⟨rfl,K1.out⟩
    .rw[if_pos J]at c;subst c;have kw:Hid (T=S.tree):=yw (by rw[k2.out];exact MC (by rw[<-k8.out];exact J));have ks:Hid (yG w F s S L w3):=yw (by have I:=M.out;rw[kw.out]at I;exact yG.NZ H3.out (I.grow k6.out));have K8:(E != 0)=zq:=by simpa using J
     clear J;go_wp2;go_ret2;exact⟨rfl,ks.out⟩
theorem ME{s:Ps}{i A g2:Int}(h:s.bQ i g A g2≠0):s.dD i g A g2=s:=by
 unfold Ps.bQ at h;unfold Ps.dD;cases hk:s.find i g with
 | none=>rfl
 | some k=>
  cases hk2:s.find A g2 with
  | none=>rfl
  | some k2=>
   rw[hk,hk2]at h;simp only at h ⊢;by_cases D:k=0
   .rw[if_pos D]
   .rw[if_neg D]at h ⊢;by_cases B:RI s.l k2 k=zq
    .rw[if_pos B]
    .rw[if_neg B]at h ⊢;by_cases hd:vE s.l k (uK s.l k k2)=zq
     .rw[if_pos hd]
     .rw[if_neg hd]at h;exact absurd rfl h
def Sc.AX(S:Sc)(l:List Pl)(I J:Nat)(d:Int)(k:Nat):Sc:={ S with hs:=fun p=>if p<k then(S.hs p).mv l I J d else S.hs p }
theorem BW(S:Sc)(l:List Pl)(I J:Nat)(d:Int)(k:Nat):(S.AX l I J d k).OM k (((S.AX l I J d k).hs k).mv l I J d)=S.AX l I J d (k+1):=by
 unfold Sc.AX Sc.OM;simp only[Nat.lt_irrefl,if_false]
 congr 1
 funext p;by_cases h:p=k
 .subst h;rw[yR,if_pos (by omega)]
 .rw[yQ _ _ h];by_cases A:p<k
  .rw[if_pos A,if_pos (by omega)]
  .rw[if_neg A,if_neg (by omega)]
theorem YS(
 e:Ev) (b:Nat) (w:zu) (F:Nat->Prop) (s:Nat) (S:Sc) (L:Lay) (h:yK w F s S L) (ok:S.Fit b):
 zw prog 41 #[ptr s,zg (OX e)] w (TM w F s L (S.move e)):=by
 obtain⟨w1,Q⟩:=yB (w.alloc (zn (OX e) 35))
 have Hy:Below w.heap.size w w1:=by rw[Q];exact yE w _
 have hE:RG w1 w.heap.size e:=by rw[Q];exact RG.new w e
 obtain⟨v,hq⟩:∃v:Nat->Prop,v=fun k=>F k/\k<w.heap.size:=⟨_,rfl⟩
 have H4:Hid (∀k,v k->F k):=yw (by rw[hq];exact fun k hk=>hk.1);have h4:Hid (yK w1 v s S L):=yw (by rw[hq];exact h.PA.behind Hy);have kd:=yw Hy;have B:=yw ok;have H0:=yw (fun n=>xG e.a (w1.drewN n) v s S L (h4.out.kept fun _ _ _=>rfl) (by have:=ok.1.gl;have:=ok.1.RY;omega));have hw:=yw (fun n=>xG e.b (w1.drewN n) v s S L (h4.out.kept fun _ _ _=>rfl) (by have:=ok.1.gl;have:=ok.1.RY;omega));obtain⟨D,hD⟩:=yB w.heap.size
 rw[<-hD]at hE;obtain⟨-,e1,e2,-,-,-⟩:=hE.c6;clear h Hy hE hq;obtain⟨O,hO⟩:=yB (S.move e)
 rw[<-hO];obtain⟨pa,I⟩:=yB (Yg L.gb (S.grp? e.a))
 obtain⟨pb,J⟩:=yB (Yg L.gb (S.grp? e.b))
 rw[<-I]at H0;rw[<-J]at hw;obtain⟨hh,H3,o⟩:=Qe I J hO;obtain⟨sp,kx⟩:=yB (ptr s)
 clear hO I J ok kx sp;unfold TM;go_enter func41,ntmps41;go_upto_region 1 with(fail)
 rw[show w.alloc (zn (OX e) 35)=w1 from Q.symm,<-hD];clear Q hD;go_quiet (first|with_reducible exact Calls.quiet_of_same (H0.out _)|with_reducible exact Calls.quiet_of_same (hw.out _));generalize H9:World.drewN w1 _=wq;have h8:Hid (yK wq v s S L):=yw (by rw[<-H9];exact h4.out.kept fun _ _ _=>rfl);have Hg:Hid (Below w.heap.size w wq):=yw (by rw[<-H9];exact yH kd.out _);have hn:Hid (yG w F s S L wq):=yw (yG.NZ Hg.out (yG.grow (yG.refl h8.out) H4.out));clear H9 e1 e2 H0 hw h4 kd;cases hg:S.grp? e.a with
 | none=>
  have ho:O=(S,0,2):=by rw[o.out];unfold Sc.move;rw[hg]
  subst ho;have I:pa=ze zp:=by rw[hh.out,hg];rfl
  subst I;clear hg;go_wp2;go_ret2;exact⟨rfl,hn.out⟩
 | some g=>
  cases hu:S.grp? e.b with
  | none=>
   have ho:O=(S,0,2):=by rw[o.out];unfold Sc.move;rw[hg,hu]
   subst ho;have I:pa=ptr (L.gb g):=by rw[hh.out,hg];rfl
   have J:pb=ze zp:=by rw[H3.out,hu];rfl
   subst I J;clear hg hu;go_wp2;go_ret2;exact⟨rfl,hn.out⟩
  | some u=>
   obtain⟨-,x,hx,kf,k3⟩:=xm hg;obtain⟨-,y,hy,k5,k4⟩:=xm hu;have I:pa=ptr (L.gb g):=by rw[hh.out,hg];rfl
   have J:pb=ptr (L.gb u):=by rw[H3.out,hu];rfl
   subst I J;obtain⟨HX,ke,HY,kr⟩:=Qf hx kf hy k5;have kt:Hid (S.AD g=zq->O=(S,0,6)):=yw fun hb=>by rw[o.out];unfold Sc.move;rw[hg,hu];simp only;rw[if_pos hb]
   have kl:Hid (S.AD g=zt->O=if S.tree.bQ x.hi x.hg y.hi y.hg≠0 then(S,0,S.tree.bQ x.hi x.hg y.hi y.hg)else(S.shift g u,0,0)):=yw fun hb=>by rw[o.out];unfold Sc.move;rw[hg,hu];simp only;rw[if_neg (by rw[hb];decide),k3,k4]
   obtain⟨⟨va,vc,H5⟩,s7,-⟩:=h8.out.RN;rw[H5]at s7;have ky:=yw H5;obtain⟨nt,h7⟩:=yB S.ts.length
   have hr:=yw h7;rw[<-h7]at s7;have H:=h8.out.RZ.2;have K1:nt<=901:=by rw[h7];have:=B.out.1.tl;have:=B.out.1.RY;omega
   clear o hh H3 hg hu hx kf k3 hy k5 k4 H5 h7;go_wp2_with fail;clear s7 H;go_loopw [9,32] (fun _ i wr=>∃(k:Nat),k<=nt/\i=zd zj k/\Below wq.heap.size wq wr/\∀(j:Nat) (t:Tk),j<k->S.ts[j]?=zo t->(t.on && S.sub t.OG g)=zt) (fun _ i _=>nt-(intOf i).toNat)
   case atStart=>exact⟨0,by omega,rfl,zU _ _,fun j t hj=>absurd hj (by omega)⟩
   case round=>
    obtain⟨k,hk,rfl,hb,h0⟩:=hrel;obtain⟨h2,HB,HS⟩:=Qe h0 hb (h8.out.behind hb);clear h0 hb;obtain⟨-,s5,H⟩:=HS.out.dW;obtain⟨-,x1,x2,-,-,-,-⟩:=(HS.out.gp HX.out).c7;have M:=(HS.out.gp HX.out).lt;by_cases X:k<nt
    .have kq:(k:Int) <(nt:Int):=by omega
     obtain⟨t,ht⟩:∃t,S.ts[k]?=zo t:=⟨_,zy (by rw[<-hr.out];exact X)⟩
     have HT:=yw ht;have Y:Hid ((t.on && S.sub t.OG g)=zt->∀(j:Nat) (t:Tk),j<k+1->S.ts[j]?=zo t->(t.on && S.sub t.OG g)=zt):=yw fun hf j t' hj H7=>by
      by_cases ko:j<k
      .exact h2.out j t' ko H7
      .obtain rfl:j=k:=by omega
       rw[HT.out]at H7;obtain rfl:=zx H7;exact hf
     obtain⟨r,K4,hv,rc,rl⟩:=HS.out.RN.2.2 k (by rw[<-hr.out];exact X);rw[ky.out]at hv;simp only[Value.slice.injEq]at hv;obtain⟨kw,-,-⟩:=hv;subst kw;obtain⟨-,-,-,t3,-,t5,-,-,-,-,-,-,-,-⟩:=(HS.out.tk ht).TY;have hc:=(HS.out.tk ht).lt;cases A:t.on with
     | false=>
      rw[A]at t3;have HN:=yw (Y.out (by rw[A];rfl));clear ht A t5 s5 x1 x2;go_wp2_with fail;go_quiet (fail);go_wp2_with fail;go_roundw
      case rel=>exact⟨k+1,by omega,by go_num,yH HB.out _,HN.out⟩
      case measure=>simp[intOf];omega
     | true=>
      obtain⟨z,hz,kc⟩:=(B.out.1.on HT.out A).OG;obtain⟨-,z1,z2,-,-,-,-⟩:=(HS.out.gp hz).c7;have P:=(HS.out.gp hz).lt;have HU:=yw (fun W (hW:Below wr.heap.size wr W)=>Dt z.hi z.hg x.hi x.hg (b+2) W 0 L.t L.tp S.tree (HS.out.behind hW).dW.1 B.out.1.tok (by have:=B.out.1.RY;omega) B.out.1.tr);rw[B.out.1.under hz kc HX.out ke.out]at HU;rw[A]at t3 Y;rw[Bool.true_and]at Y;have V:S.sub t.OG g=zq->S.AD g=zq:=fun h=>by unfold Sc.AD;rw[List.any_eq_true];exact⟨t,zW ht,by rw[A,h];rfl⟩
      have h9:=yw V;obtain⟨sb,ka⟩:=yB (S.sub t.OG g)
      rw[<-ka]at HU Y h9;clear ht A hz kc V ka;go_wp2_with fail;go_region_held3 (fun w'=>w'.cell? ⟨L.tb k,3,zp⟩=zo (zh zq)/\w'.cell? ⟨L.tb k,5,zp⟩=zo (ze (zo ⟨L.gb t.OG,0,zp⟩))/\w'.cell? ⟨s,5,zp⟩=zo (ptr L.t)/\w'.cell? ⟨L.gb t.OG,1,zp⟩=zo (zd zj z.hi)/\w'.cell? ⟨L.gb t.OG,2,zp⟩=zo (zd zj z.hg)/\w'.cell? ⟨L.gb g,1,zp⟩=zo (zd zj x.hi)/\w'.cell? ⟨L.gb g,2,zp⟩=zo (zd zj x.hg)) (go_keep)
       (first
        | (
         go_at_call 38;refine(HU.out wr.drew ⟨rfl,rfl,rfl,yA _,fun _ _=>rfl⟩).mono ?_;rintro y9 w4 ⟨rfl,G⟩;have m:=yw G;replace t3:=(G.cell (p:=⟨L.tb k,3,zp⟩) hc).trans t3;replace t5:=(G.cell (p:=⟨L.tb k,5,zp⟩) hc).trans t5;replace s5:=(G.cell (p:=⟨s,5,zp⟩) H).trans s5;replace z1:=(G.cell (p:=⟨L.gb t.OG,1,zp⟩) P).trans z1;replace z2:=(G.cell (p:=⟨L.gb t.OG,2,zp⟩) P).trans z2;replace x1:=(G.cell (p:=⟨L.gb g,1,zp⟩) M).trans x1;replace x2:=(G.cell (p:=⟨L.gb g,2,zp⟩) M).trans x2;replace hc:=yz hc G.size;replace H:=yz H G.size;replace P:=yz P G.size
         replace M:=yz M G.size;clear G))
      have ki:Hid (Below wq.heap.size wq w4):=yw (HB.out.trans ((show Below wr.heap.size wr w4 from⟨m.out.os,m.out.tape,m.out.output,m.out.size,m.out.block⟩).mono HB.out.size));cases sb with
      | true=>
       have ho:=kt.out (h9.out rfl);subst ho;go_wp2;go_ret2;exact⟨rfl,hn.out.below ki.out⟩
      | false=>
       have HN:=yw (Y.out rfl);go_wp2_with fail;go_roundw
       case rel=>exact⟨k+1,by omega,by go_num,ki.out,HN.out⟩
       case measure=>simp[intOf];omega
    .have f:k=nt:=by omega
     have V:S.AD g=zt:=by unfold Sc.AD;rw[List.any_eq_false];intro t ht;obtain⟨j,hj⟩:=List.getElem?_of_mem ht;have km:=(yy hj).1;rw[h2.out j t (by rw[f,hr.out];exact km) hj];decide
     have A:=kl.out V;have h9:=yw V;obtain⟨-,y1,y2,-,-,-,-⟩:=(HS.out.gp HY.out).c7;obtain⟨E,ha⟩:=yB (S.tree.bQ x.hi x.hg y.hi y.hg)
     obtain⟨T,hT⟩:=yB (S.tree.dD x.hi x.hg y.hi y.hg)
     have k8:Hid (zw prog 78 #[ze (zo ⟨L.t,0,zp⟩),zg #[zd zj x.hi,zd zj x.hg],zg #[zd zj y.hi,zd zj y.hg]] wr.drew fun z w'=>z=zm (zd zj E)/\yG wr v s { S with tree:=T } L w'):=yw (by have hb:Below wr.heap.size wr wr.drew:=yI (zU _ wr);refine(EL x.hi x.hg y.hi y.hg (b+2) wr.drew 0 L.t L.tp S.tree (HS.out.behind hb).dW.1 B.out.1.tok (by have:=B.out.1.RY;omega) B.out.1.tr).mono ?_;rintro z w' ⟨rfl,hx,hp⟩;rw[ha,hT];exact⟨rfl,yG.NZ hb ((HS.out.behind hb).dU _ _ hp hx)⟩);rw[<-ha]at A;have kh:=yw ha;have k7:=yw hT;clear f V ha hT;go_upto_region 10 with(fail)
     refine wp_region_still_tail 12 (by kernel_rfl) (by kernel_rfl) ?_;simp only[List.take_succ_cons,List.take_zero,List.drop_succ_cons,List.drop_zero]
     repeat still_step
     refine wpStill_nil ?_;go_wp2_with fail;refine k8.out.mono ?_;rintro z w3 ⟨rfl,k6⟩;have H2:Hid (Below w.heap.size w wr):=yw (yC Hg.out HB.out Hg.out.size);have U:=yw k6;clear k6 s5 x1 x2 y1 y2 M H k8;by_cases N:E=0
     .rw[if_neg (fun h=>h N)]at A;obtain⟨qh,qp,hM⟩:=B.out.1.gZ HX.out ke.out HY.out kr.out h9.out (by rw[<-kh.out];exact N);have HM:=yw hM;subst A N;obtain⟨R,he⟩:∃R,R=({ S with tree:=T }:Sc):=⟨_,rfl⟩
      rw[<-he]at U;have K:=yw he;obtain⟨ps,h5⟩:=yB S.ps
      have k9:=yw h5;have K2:1<=ps/\ps<=64:=by rw[h5];exact B.out.1.ps
      have c:R.ps=ps:=by rw[he,h5]
      have h3:0<R.ps:=by omega
      obtain⟨rh,ch,C⟩:=U.out.1.eD h3;rw[c]at C;have kn:=yw C;obtain⟨d,-,-⟩:=U.out.1.SK h3 C;have H:=U.out.1.RZ.2;obtain⟨Z,k2⟩:=yB S.tree.l
      obtain⟨q,kg⟩:=yB (uK Z x.hi y.hi)
      have h6:=yw (And.intro k2 kg);obtain⟨w7,kj⟩:=yB wr
      rw[<-kj]at U H2;have k0:=yw c;clear kj he h5 c C HS hM k2 kg;go_wp2_with fail;clear d H;go_loopw [12,80] (fun _ i wr=>∃(k:Nat),k<=ps/\i=zd zj k/\yG w7 v s (R.AX Z x.hi y.hi q k) L wr) (fun _ i _=>ps-(intOf i).toNat)
      case atStart=>exact⟨0,by omega,rfl,U.out⟩
      case round=>
       obtain⟨k,hk,rfl,hl⟩:=hrel;have HL:=yw hl;clear hl;by_cases X:k<ps
       .have kq:(k:Int) <(ps:Int):=by omega
        have H6:k<(R.AX Z x.hi y.hi q k).ps:=by show k<R.ps;rw[k0.out];exact X
        have H1:k<S.ps:=by rw[<-k9.out];exact X
        have H8:(R.AX Z x.hi y.hi q k).gs[g]?=zo x:=by show R.gs[g]?=zo x;rw[K.out];exact HX.out
        have kb:(R.AX Z x.hi y.hi q k).gs[u]?=zo y:=by show R.gs[u]?=zo y;rw[K.out];exact HY.out
        obtain⟨-,x1,-,-,-,-,-⟩:=(HL.out.1.gp H8).c7;obtain⟨-,y1,-,-,-,-,-⟩:=(HL.out.1.gp kb).c7;have M:=(HL.out.1.gp H8).lt;obtain⟨d,rp,ks⟩:=HL.out.1.SK H6 kn.out;have H:=HL.out.1.RZ.2;obtain⟨Gk,hH,hU⟩:=HL.out.1.SX H6;have HU:=yw hU;obtain⟨xr,yr,hm⟩:=HM.out.hs k H1 (B.out.2 k H1);have k1:(R.AX Z x.hi y.hi q k).hs k=S.hs k:=by unfold Sc.AX;show(if k<k then _ else R.hs k)=_;rw[if_neg (Nat.lt_irrefl k),K.out]
        have ku:=yw (BV x.hi y.hi Z q wr.drew Gk (L.hb k) _ xr yr (hH.kept fun _ _ _=>rfl) (by rw[k1,h6.out.2,h6.out.1];exact hm));clear H6 H1 H8 kb hH hU hm k1;go_wp2_with fail;refine wp_region_still_tail 11 (by kernel_rfl) (by kernel_rfl) ?_;simp only[List.take_succ_cons,List.take_zero,List.drop_succ_cons,List.drop_zero]
        repeat still_step
        refine wpStill_nil ?_;go_wp2_with fail;refine ku.out.mono ?_;rintro z w9 ⟨rfl,kk⟩;have kp:Hid (yG w7 v s (R.AX Z x.hi y.hi q (k+1)) L w9):=yw (by rw[<-BW];exact HL.out.then (HU.out _ _ (qv.NZ (yI (zU _ wr)) kk)));clear kk d rp ks x1 y1 M H;go_wp2_with fail;go_roundw
        case rel=>exact⟨k+1,by omega,by go_num,kp.out⟩
        case measure=>simp[intOf];omega
       .have f:k=ps:=by omega
        have K0:Hid (yG w F s (S.shift g u) L wr):=yw (by
         have e2:S.shift g u=R.AX Z x.hi y.hi q k:=by unfold Sc.shift Sc.AX;rw[Sc.PE HX.out,Sc.PE HY.out,K.out,k7.out,f,k9.out,h6.out.2,h6.out.1]
         rw[e2];exact yG.NZ H2.out (HL.out.grow H4.out))
        clear f;go_wp2;go_ret2;exact⟨rfl,K0.out⟩
     .rw[if_pos N]at A;subst A;have kz:Hid (T=S.tree):=yw (by rw[k7.out];exact ME (by rw[<-kh.out];exact N));have kv:Hid (yG w F s S L w3):=yw (by have h1:=U.out;rw[kz.out]at h1;exact yG.NZ H2.out (h1.grow H4.out));have K3:(E != 0)=zq:=by simpa using N
      clear N;go_wp2;go_ret2;exact⟨rfl,kv.out⟩
def jA:zz->Option (DataW Unit×List MemPlace)
 | .func (.func f) a c=>if a.size=0/\c.size=0 then zo (.lit (.int zj f),[])else zp
 | _=>zp
theorem LW(f:Nat):jA (.func (.func f) #[] #[])=zo (.lit (.int zj f),[]):=rfl
theorem YF{v:zz}{f:Nat}{ps:List MemPlace}(h:jA v=zo (.lit (.int zj f),ps)):v=.func (.func f) #[] #[]:=by
 unfold jA at h;split at h
 .rename_i g a c;split at h
  .rename_i hs;simp only[ya,Prod.mk.injEq,DataW.lit.injEq,Lit.int.injEq,true_and]at h;have:g=f:=by first|exact Int.ofNat.inj h|exact h|exact h.1|exact Int.ofNat.inj h.1
   rw[this,Array.eq_empty_of_size_eq_zero hs.1,Array.eq_empty_of_size_eq_zero hs.2]
  .cases h
 .cases h
theorem YG{v:zz}{ps:List MemPlace}(h:jA v=zo (.nil,ps)):False:=by
 unfold jA at h;split at h
 .split at h<;>cases h
 .cases h
structure Pk(w:zu)(b:Nat)(g:Int->Option Nat)(n:Nat):Prop where
 ex:∃D,w.ownsMap prog 3 jA b n D/\Maps.size D=n/\∀k,RH k->(Maps.has D (.int zj k)=(g k).isSome/\D.atKey (.int zj k) .nil=GZ (g k))
theorem Pk.new(w:zu):Pk (w.alloc (.map #[] 0)) w.heap.size (fun _=>zp) 0:=
 ⟨⟨_,World.ownsMap_made w prog 3 jA,rfl,fun k hk=>⟨rfl,rfl⟩⟩⟩
theorem Pk.put{g:Int->Option Nat}(h:Pk w b g n)(hk:RH k)(R:g k=zp)(T:n<maxLen)(f:Nat):
 ∃w',(Instr.mapUpdate 71 (.map (zo b)) (zd zj k) (.func (.func f) #[] #[])).run prog w=.ok () w'/\Pk w' b (qC g k (zo f)) (n+1)/\∀(B:Nat) (a:zu),B<=b->Below B a w->Below B a w':=by
 obtain⟨D,J,O,N⟩:=h.ex;obtain⟨w',H,E,A⟩:=J.store vD underlying71 T (Kk hk) (LW f);have I:=J.tidy vD;have G:Maps.size (D.put (.int zj k) (.lit (.int zj f)))=n+1:=by rw[Maps.size_put I,(N k hk).1,R,O];rfl
 refine⟨w',H,⟨⟨_,?_,G,fun j M=>?_⟩⟩,fun B a U hb=>?_⟩
 .have:=BX E;rw[G]at this;exact this
 .by_cases e:j=k
  .subst e;rw[uV,Maps.has_put_same I.isMap (Fc j),Maps.atKey_put_same I.isMap (Fc j)];exact⟨rfl,rfl⟩
  .rw[qG _ _ e,Maps.has_put_other (Ud e),Maps.atKey_put_other (Ud e)];exact N j M
 .exact hb.grown A.grown (by have:=J.lt;omega) fun j M=>by obtain rfl:=zx M;exact U
theorem YH(w:zu):(zeroValue 69).run prog w=.ok .nilFunc w:=by kernel_rfl
theorem Pk.look{g:Int->Option Nat}(h:Pk w b g n)(hk:RH k):(Instr.lookup 71 (.map (zo b)) (zd zj k) zq).run prog w=.ok (zi (match g k with|none=>#[.nilFunc,zh zt]|some f=>#[.func (.func f) #[] #[],zh zq])) w:=by
 obtain⟨D,⟨es,h0,hb,F,hs,rfl⟩,h2,I⟩:=h.ex;obtain⟨h4,B⟩:=I k hk;rcases Maps.fit_look zq vD underlying71 (YH w) hb F (Kk hk)with⟨A,h1,E⟩|⟨H,y,hm,h6,A,G,E,_⟩
 .rw[E .nil]at B;cases hg:g k with
  | none=>rw[A];rfl
  | some f=>rw[hg]at B;cases B
 .rw[E .nil]at B;cases hg:g k with
  | none=>
   rw[hg]at B;exact(YG (v:=H.val) (ps:=y.2) (by rw[G,show y=(y.1,y.2)from rfl,B];rfl)).elim
  | some f=>
   rw[hg]at B;have:H.val=.func (.func f) #[] #[]:=YF (ps:=y.2) (by rw[G,show y=(y.1,y.2)from rfl,B];rfl);rw[A,this];rfl
def ZB:Int->Option Nat:=qC (qC (qC (qC (qC (qC (qC (qC (qC (qC (qC (qC (qC (qC (qC (fun _=>zp) 1 (zo 39)) 2 (zo 40)) 3 (zo 41)) 4 (zo 42)) 5 (zo 43)) 12 (zo 44)) 6 (zo 45)) 7 (zo 46)) 14 (zo 47)) 15 (zo 48)) 8 (zo 49)) 10 (zo 50)) 9 (zo 51)) 11 (zo 52)) 13 (zo 53)
theorem Eb(w:zu):zw prog 18 #[] w fun z w'=>∃b,z=zm (.map (zo b))/\Pk w' b ZB 15/\Below w.heap.size w w':=by
 have hm:=@run_makeMap prog;have y:=Pk.new w;have f:Below w.heap.size w (w.alloc (.map #[] 0)):=yE w _;obtain⟨w1,r1,F,t⟩:=y.put (k:=1) (by unfold RH;omega) rfl (by unfold maxLen;omega) 39;have j:=t _ _ (yA _) f;obtain⟨w2,r2,p,v⟩:=F.put (k:=2) (by unfold RH;omega) (by simp[qC]) (by unfold maxLen;omega) 40;have L:=v _ _ (yA _) j;obtain⟨w3,r3,h,x⟩:=p.put (k:=3) (by unfold RH;omega) (by simp[qC]) (by unfold maxLen;omega) 41;have c:=x _ _ (yA _) L;obtain⟨w4,r4,r,q⟩:=h.put (k:=4) (by unfold RH;omega) (by simp[qC]) (by unfold maxLen;omega) 42;have P:=q _ _ (yA _) c
 obtain⟨w5,r5,n,t5⟩:=r.put (k:=5) (by unfold RH;omega) (by simp[qC]) (by unfold maxLen;omega) 43;have l:=t5 _ _ (yA _) P;obtain⟨w6,r6,Q,d⟩:=n.put (k:=12) (by unfold RH;omega) (by simp[qC]) (by unfold maxLen;omega) 44;have m:=d _ _ (yA _) l;obtain⟨w7,r7,K,a⟩:=Q.put (k:=6) (by unfold RH;omega) (by simp[qC]) (by unfold maxLen;omega) 45;have s:=a _ _ (yA _) m;obtain⟨w8,r8,u,o⟩:=K.put (k:=7) (by unfold RH;omega) (by simp[qC]) (by unfold maxLen;omega) 46;have W:=o _ _ (yA _) s;obtain⟨w9,r9,S,C⟩:=u.put (k:=14) (by unfold RH;omega) (by simp[qC]) (by unfold maxLen;omega) 47;have g:=C _ _ (yA _) W
 obtain⟨hl,hg,J,I⟩:=S.put (k:=15) (by unfold RH;omega) (by simp[qC]) (by unfold maxLen;omega) 48;have O:=I _ _ (yA _) g;obtain⟨he,ha,X,G⟩:=J.put (k:=8) (by unfold RH;omega) (by simp[qC]) (by unfold maxLen;omega) 49;have H:=G _ _ (yA _) O;obtain⟨hp,ho,T,V⟩:=X.put (k:=10) (by unfold RH;omega) (by simp[qC]) (by unfold maxLen;omega) 50;have Z:=V _ _ (yA _) H;obtain⟨hi,hh,A,E⟩:=T.put (k:=9) (by unfold RH;omega) (by simp[qC]) (by unfold maxLen;omega) 51;have R:=E _ _ (yA _) Z;obtain⟨hj,hn,B,Y⟩:=A.put (k:=11) (by unfold RH;omega) (by simp[qC]) (by unfold maxLen;omega) 52
 have N:=Y _ _ (yA _) R;obtain⟨hc,hf,D,U⟩:=B.put (k:=13) (by unfold RH;omega) (by simp[qC]) (by unfold maxLen;omega) 53;have M:=U _ _ (yA _) N;have HH:=yw D;have HB:=yw M;clear y f F j p L h c r P n l Q m K s u W S g J O X H T Z A R B N D M t v x q t5 d a o C I G V E Y U;go_enter func18,ntmps18;go_wp2_with fail;go_ret;exact⟨_,rfl,HH.out,HB.out⟩
def Pq(P:Program)(g:Nat):Bool:=match P.funcs[g]? with
 | none=>zt
 | some fn=>!(fn.name == "runtime.NumGoroutine") && !fn.body.isNone
theorem Ih{P:Program}{g:Nat}(h:Pq P g=zq)(args:Array zz)(w:zu):(callFunc g args).run P w=.ok (.enter g args) w:=by
 unfold Pq at h;split at h
 .cases h
 .rename_i fn A;simp only[Bool.and_eq_true,Bool.not_eq_true']at h;have D:¬fn.name= "runtime.NumGoroutine" :=by simpa using h.1
  have B:¬fn.body=zp:=fun e=>by rw[e]at h;exact absurd h.2 (by decide)
  simp[callFunc,A,D,B]
theorem vJ(k:Int)(g:Nat)(h3:ZB k=zo g)(hc:Pq prog g=zq)(hh:1<=k/\k<=15)(e:Ev)(hk:e.kind=k)(P:Out->Prop)(b:Nat)(hP:∀o,P o->o.1.Fit b)(w:zu)(F:Nat->Prop)(s:Nat)(S:Sc)(L:Lay)(h:yK w F s S L)
 (h9:∀W G,yK W G s S L->zw prog g #[ptr s,zg (OX e)] W fun z w'=>∃o,P o/\Yq W G s o z w'):
 zw prog 7 #[ptr s,zg (OX e)] w fun z w'=>∃o L' n f S',P o/\((o.2.2=0/\S'=o.1.settle/\n=o.2.1/\f=0)∨(o.2.2≠0/\S'=o.1/\n=0/\f=o.2.2))/\z=zm (zg #[zd zj n,zd zj f])/\yG w F s S' L' w':=by
 have hj:=yw h3;have ht:Hid (RH k):=yw (by unfold RH;omega);have hp:=yw hc;clear h3 hh hc;obtain⟨w1,O⟩:=yB (w.alloc (zn (OX e) 35))
 have Q:Below w.heap.size w w1:=by rw[O];exact yE w _
 have hE:RG w1 w.heap.size e:=by rw[O];exact RG.new w e
 obtain⟨c,Y⟩:∃c:Nat->Prop,c=fun k=>F k/\k<w.heap.size:=⟨_,rfl⟩
 have h6:Hid (∀k,c k->F k):=yw (by rw[Y];exact fun k hk=>hk.1);have h4:Hid (∀k,c k->k<w.heap.size):=yw (by rw[Y];exact fun k hk=>hk.2);have hi:Hid (yK w1 c s S L):=yw (by rw[Y];exact h.PA.behind Q);have h8:=yw Q;have hv:=yw (fun W=>Eb W);have q:OX e=#[zd zj k,zd zj e.a,zd zj e.b,zd zj e.n,zd zj e.m,zd zk e.mask]:=by unfold OX;rw[hk]
 have H2:Hid (∀W G,yK W G s S L->zw prog g #[ptr s,zg #[zd zj k,zd zj e.a,zd zj e.b,zd zj e.n,zd zj e.m,zd zk e.mask]] W fun z w'=>∃o,P o/\Yq W G s o z w'):=yw (by rw[<-q];exact h9);have HK:=yw hk;have hz:=yw hP;obtain⟨D,hD⟩:=yB w.heap.size
 rw[<-hD]at hE;have HE:=yw hE;obtain⟨d,c1,c2,c3,c4,c5⟩:=hE.c6;have A:=hE.lt;rw[hk]at d;have H4:Hid (¬c D):=yw (fun hF=>by have:=h4.out D hF;omega);clear h Q hE Y h9 hk hP q;go_enter func7,ntmps7;go_wp2_with fail;obtain⟨w2,X⟩:=yB (w1.alloc (zn #[zd zj 0,zd zj 0] 31))
 have I:Below w1.heap.size w1 w2:=by rw[X];exact yE w1 _
 obtain⟨R,hR⟩:=yB w1.heap.size
 have h0:w2.heap[R]?=zo (zn #[zd zj 0,zd zj 0] 31 (0,0)):=by rw[X,hR];exact heap_alloc_new w1 _
 have h7:w.heap.size+1=R:=by rw[hR,O];simp
 rw[show w.alloc (zn (OX e) 35)=w1 from O.symm,<-X,h7,<-hD];obtain⟨ha,ho,he,h5⟩:=Qf h0 (hi.out.behind I) (HE.out.behind I) (yC h8.out I h8.out.size);have E:Hid (¬c R/\w.heap.size<=R):=yw ⟨fun hF=>by have:=h4.out R hF;omega,by omega⟩;replace d:=(I.cell (p:=⟨D,0,zp⟩) A).trans d;replace A:=yz A I.size;clear O X I hR h0 h7 hD c1 c2 c3 c4 c5;go_region_held3 (fun w'=>w'.cell? ⟨D,0,zp⟩=zo (zd zj k)) (go_keep)
  (first
   | (
    go_at_call 18;refine(hv.out _).mono ?_;rintro z w3 ⟨m,rfl,hm,J⟩;have B:Hid (Below w2.heap.size w2 w3):=yw ⟨J.os,J.tape,J.output,J.size,J.block⟩;have h1:=hm.look (k:=k) ht.out;rw[hj.out]at h1;replace d:=(B.out.cell (p:=⟨D,0,zp⟩) A).trans d;replace A:=yz A B.out.size;clear hm J))
 all_goals
  clear d A h1;have hg:=yw (yC h5.out B.out h5.out.size);have H1:=yw (ho.out.behind B.out);have y:w3.heap[R]?=zo (zn #[zd zj 0,zd zj 0] 31 (0,0)):=(B.out.block R (yx ha.out).1).trans ha.out;have hw:=yw y;have Z:=yw (yx y).1;obtain⟨d,c1,c2,c3,c4,c5⟩:=(he.out.behind B.out).c6;rw[HK.out]at d;have A:=(he.out.behind B.out).lt;clear y;go_wp2_with fail;rw[Ih hp.out];refine(H2.out w3 c H1.out).mono ?_;rintro z U ⟨o,h2,L',rfl,hl⟩;have t:=yw h2;have HL:=yw hl;obtain⟨n,hn⟩:=yB o.2.1
  obtain⟨f,hf⟩:=yB o.2.2
  have H0:=yw hn;have x:=yw hf;rw[<-hn,<-hf];have H:U.heap[R]?=zo (zn #[zd zj 0,zd zj 0] 31 (0,0)):=(hl.2.block R Z.out E.out.1).trans hw.out;have C:=yw H;clear h2 hl hn hf d c1 c2 c3 c4 c5 A;by_cases M:f=0
  .have hr:(f != 0)=zt:=by simp[M]
   have H3:=yw (Pp b U (Ext c w3 U) s o.1 L' HL.out.1 (hz.out o t.out));have T:=yw M;clear M H;go_wp2_with fail;refine H3.out.mono ?_;rintro z l ⟨⟨v,rfl⟩,K⟩;have hy:=yw (HL.out.then K);have N:l.heap[R]?=zo (zn #[zd zj 0,zd zj 0] 31 (0,0)):=(K.2.block R (yx C.out).1 (fun hq=>by
    rcases hq with hq|hq
    .exact E.out.1 hq
    .have:=hq.1;have:=Z.out;omega)).trans C.out
   have r0:l.cell? ⟨R,0,zp⟩=zo (zd zj 0):=by simp[zN,N]
   have r1:l.cell? ⟨R,1,zp⟩=zo (zd zj 0):=by simp[zN,N]
   have hx:∀j,l.frozen? ⟨R,j,zp⟩=zt:=by intro j;simp[zY,N]
   have hu:=yw N;clear K N;go_wp2;have V:=yD (i:=1) (u:=zd zj 0) (yD (i:=0) (u:=zd zj n) hu.out);have r:OA (fun k=>k=R) l ((l.setCell ⟨R,0,zp⟩ (zd zj n)).setCell ⟨R,1,zp⟩ (zd zj 0)):=(OA.refl (fun k=>k=R) l).one.one;have g0:((l.setCell ⟨R,0,zp⟩ (zd zj n)).setCell ⟨R,1,zp⟩ (zd zj 0)).cell? ⟨R,0,zp⟩=zo (zd zj n):=by simp[zN,V]
   have g1:((l.setCell ⟨R,0,zp⟩ (zd zj n)).setCell ⟨R,1,zp⟩ (zd zj 0)).cell? ⟨R,1,zp⟩=zo (zd zj 0):=by simp[zN,V]
   refine bodyPost_ret (v:=zg #[zd zj n,zd zj 0]) ?_ rfl ⟨o,L',n,0,o.1.settle,t.out,.inl ⟨by rw[<-x.out];exact T.out,rfl,H0.out,rfl⟩,rfl,(yG.box hg.out hy.out E.out.2 Z.out E.out.1 r).grow h6.out⟩;simp[results,results7,go_sem,g0,g1]
  .have hr:(f != 0)=zq:=by simp[M]
   have r0:U.cell? ⟨R,0,zp⟩=zo (zd zj 0):=by simp[zN,H]
   have r1:U.cell? ⟨R,1,zp⟩=zo (zd zj 0):=by simp[zN,H]
   have hx:∀j,U.frozen? ⟨R,j,zp⟩=zt:=by intro j;simp[zY,H]
   have T:=yw M;clear M H;go_wp2;have V:=yD (i:=1) (u:=zd zj f) (yD (i:=0) (u:=zd zj 0) C.out);have r:OA (fun k=>k=R) U ((U.setCell ⟨R,0,zp⟩ (zd zj 0)).setCell ⟨R,1,zp⟩ (zd zj f)):=(OA.refl (fun k=>k=R) U).one.one;have g0:((U.setCell ⟨R,0,zp⟩ (zd zj 0)).setCell ⟨R,1,zp⟩ (zd zj f)).cell? ⟨R,0,zp⟩=zo (zd zj 0):=by simp[zN,V]
   have g1:((U.setCell ⟨R,0,zp⟩ (zd zj 0)).setCell ⟨R,1,zp⟩ (zd zj f)).cell? ⟨R,1,zp⟩=zo (zd zj f):=by simp[zN,V]
   refine bodyPost_ret (v:=zg #[zd zj 0,zd zj f]) ?_ rfl ⟨o,L',0,f,o.1,t.out,.inr ⟨by rw[<-x.out];exact T.out,rfl,rfl,x.out⟩,rfl,(yG.box hg.out HL.out E.out.2 Z.out E.out.1 r).grow h6.out⟩;simp[results,results7,go_sem,g0,g1]
theorem GP(e:Ev)(hk:ZB e.kind=zp)(T:RH e.kind)(w:zu)(F:Nat->Prop)(s:Nat)(S:Sc)(L:Lay)(h:yK w F s S L):
 zw prog 7 #[ptr s,zg (OX e)] w fun z w'=>z=zm (zg #[zd zj 0,zd zj 1])/\yG w F s S L w':=by
 obtain⟨w1,G⟩:=yB (w.alloc (zn (OX e) 35))
 have c:Below w.heap.size w w1:=by rw[G];exact yE w _
 have f:RG w1 w.heap.size e:=by rw[G];exact RG.new w e
 obtain⟨C,Z,q,K,g⟩:=Qg (yG.refl h) c (fun W=>Eb W) hk T;obtain⟨D,l⟩:=yB w.heap.size
 rw[<-l]at f;obtain⟨d,-,-,-,-,-⟩:=f.c6;have A:=f.lt;clear h c f hk T;go_enter func7,ntmps7;go_wp2_with fail;obtain⟨N,H⟩:=yB (w1.alloc (zn #[zd zj 0,zd zj 0] 31))
 have J:Below w1.heap.size w1 N:=by rw[H];exact yE w1 _
 obtain⟨R,r⟩:=yB w1.heap.size
 have O:N.heap[R]?=zo (zn #[zd zj 0,zd zj 0] 31 (0,0)):=by rw[H,r];exact heap_alloc_new w1 _
 have Y:w.heap.size+1=R:=by rw[r,G];simp
 rw[show w.alloc (zn (OX e) 35)=w1 from G.symm,<-H,Y,<-l];have V:=yw O;have a:=yw (yC Z.out J Z.out.size);have U:Hid (w.heap.size<=R):=yw (by omega);replace d:=(J.cell (p:=⟨D,0,zp⟩) A).trans d;replace A:=yz A J.size;clear G H J r O Y l;go_region_held3 (fun w'=>w'.cell? ⟨D,0,zp⟩=zo (zd zj e.kind)) (go_keep)
  (first
   | (
    go_at_call 18;refine(q.out _).mono ?_;rintro z M ⟨m,rfl,t,B⟩;have I:Hid (Below N.heap.size N M):=yw ⟨B.os,B.tape,B.output,B.size,B.block⟩;have b:=t.look (k:=e.kind) g.out;rw[K.out]at b;replace d:=(I.out.cell (p:=⟨D,0,zp⟩) A).trans d;replace A:=yz A I.out.size;clear t B))
 all_goals
  clear d A b;have E:M.heap[R]?=zo (zn #[zd zj 0,zd zj 0] 31 (0,0)):=(I.out.block R (yx V.out).1).trans V.out;have o:=yw E;have r0:M.cell? ⟨R,0,zp⟩=zo (zd zj 0):=by simp[zN,E]
  have r1:M.cell? ⟨R,1,zp⟩=zo (zd zj 0):=by simp[zN,E]
  have h0:∀j,M.frozen? ⟨R,j,zp⟩=zt:=by intro j;simp[zY,E]
  have n:=yw (yC a.out I.out a.out.size);clear E;go_wp2;have X:=yD (i:=1) (u:=zd zj 1) (yD (i:=0) (u:=zd zj 0) o.out);have x:((M.setCell ⟨R,0,zp⟩ (zd zj 0)).setCell ⟨R,1,zp⟩ (zd zj 1)).cell? ⟨R,0,zp⟩=zo (zd zj 0):=by simp[zN,X]
  have y:((M.setCell ⟨R,0,zp⟩ (zd zj 0)).setCell ⟨R,1,zp⟩ (zd zj 1)).cell? ⟨R,1,zp⟩=zo (zd zj 1):=by simp[zN,X]
  refine bodyPost_ret (v:=zg #[zd zj 0,zd zj 1]) ?_ rfl ⟨rfl,C.out.below ((n.out.setCell (p:=⟨R,0,zp⟩) (by show _<=R;exact U.out) _).setCell (p:=⟨R,1,zp⟩) (by show _<=R;exact U.out) _)⟩;simp[results,results7,go_sem,x,y]
theorem YL(h:¬(1<=k/\k<=15)):ZB k=zp:=by
 unfold ZB;simp only[qC]
 repeat rw[if_neg (by omega)]
theorem ZH(D M:Sc->Ev->Out->Prop)(e:Ev)(b:Nat)(w:zu)(F:Nat->Prop)(s:Nat)(S:Sc)(L:Lay)(h:yK w F s S L)(R:RH e.kind)(X:e.Ok)(I:S.Fit b)(hb:b<900)(T:∀(n:Nat) (t:Tk),S.ts[n]?=zo t->t.OG<S.gs.length)
 (U:∀e o,D S e o->o.1.Fit (b+1)) (V:∀e o,M S e o->o.1.Fit (b+1))
 (a:e.kind=2->∀W G,yK W G s S L->zw prog 40 #[ptr s,zg (OX e)] W fun z w'=>∃o,D S e o/\Yq W G s o z w')
 (Z:e.kind=3->∀W G,yK W G s S L->zw prog 41 #[ptr s,zg (OX e)] W fun z w'=>∃o,M S e o/\Yq W G s o z w'):
 zw prog 7 #[ptr s,zg (OX e)] w fun z w'=>∃N n f J,S.gB D M e J n f/\z=zm (zg #[zd zj n,zd zj f])/\yG w F s J N w':=by
 have H:∀o,S.cL D M e o->o.1.Fit (b+1):=fun o O=>Cf U V I hb X O;have A:∀{z:Ending} {w':zu},(∃o N n f J,S.cL D M e o/\((o.2.2=0/\J=o.1.settle/\n=o.2.1/\f=0)∨(o.2.2≠0/\J=o.1/\n=0/\f=o.2.2))/\z=zm (zg #[zd zj n,zd zj f])/\yG w F s J N w')->∃N n f J,S.gB D M e J n f/\z=zm (zg #[zd zj n,zd zj f])/\yG w F s J N w':=
  fun⟨o,N,n,f,J,d,Y,j,c⟩=>⟨N,n,f,J,.inr ⟨o,d,Y⟩,j,c⟩
 by_cases hk:1<=e.kind/\e.kind<=15
 .have k:e.kind=1∨e.kind=2∨e.kind=3∨e.kind=4∨e.kind=5∨e.kind=6∨e.kind=7∨e.kind=8∨e.kind=9∨e.kind=10∨e.kind=11∨e.kind=12∨e.kind=13∨e.kind=14∨e.kind=15:=by omega
  rcases k with hk|hk|hk|hk|hk|hk|hk|hk|hk|hk|hk|hk|hk|hk|hk
  .exact(vJ 1 39 (by decide) (by kernel_rfl) (by omega) e hk (S.cL D M e) (b+1) H w F s S L h (fun W G E=>(YB e b W G s S L E I hb T).mono fun z w' hd=>⟨_,(.inl ⟨hk,rfl⟩),hd⟩)).mono fun z w' B=>A B
  .exact(vJ 2 40 (by decide) (by kernel_rfl) (by omega) e hk (S.cL D M e) (b+1) H w F s S L h (fun W G E=>(a hk W G E).mono fun z w' ⟨o,O,hd⟩=>⟨o,(.inr (.inl ⟨hk,O⟩)),hd⟩)).mono fun z w' B=>A B
  .exact(vJ 3 41 (by decide) (by kernel_rfl) (by omega) e hk (S.cL D M e) (b+1) H w F s S L h (fun W G E=>(Z hk W G E).mono fun z w' ⟨o,O,hd⟩=>⟨o,(.inr (.inr (.inl ⟨hk,O⟩))),hd⟩)).mono fun z w' B=>A B
  .exact(vJ 4 42 (by decide) (by kernel_rfl) (by omega) e hk (S.cL D M e) (b+1) H w F s S L h (fun W G E=>(Pc e b W G s S L E I.1).mono fun z w' hd=>⟨_,(.inr (.inr (.inr (.inl ⟨hk,rfl⟩)))),hd.any⟩)).mono fun z w' B=>A B
  .exact(vJ 5 43 (by decide) (by kernel_rfl) (by omega) e hk (S.cL D M e) (b+1) H w F s S L h (fun W G E=>(ZG e b W G s S L E I).mono fun z w' hd=>⟨_,(.inr (.inr (.inr (.inr (.inl ⟨hk,rfl⟩))))),hd.any⟩)).mono fun z w' B=>A B
  .exact(vJ 6 45 (by decide) (by kernel_rfl) (by omega) e hk (S.cL D M e) (b+1) H w F s S L h (fun W G E=>(Ay e b W G s S L E I X hb).mono fun z w' hd=>⟨_,(.inr (.inr (.inr (.inr (.inr (.inl ⟨hk,rfl⟩)))))),hd⟩)).mono fun z w' B=>A B
  .exact(vJ 7 46 (by decide) (by kernel_rfl) (by omega) e hk (S.cL D M e) (b+1) H w F s S L h (fun W G E=>(KY e b W G s S L E I.1).mono fun z w' hd=>⟨_,(.inr (.inr (.inr (.inr (.inr (.inr (.inl ⟨hk,rfl⟩))))))),hd.any⟩)).mono fun z w' B=>A B
  .exact(vJ 8 49 (by decide) (by kernel_rfl) (by omega) e hk (S.cL D M e) (b+1) H w F s S L h (fun W G E=>(Cz e b W G s S L E I.1).mono fun z w' hd=>⟨_,(.inr (.inr (.inr (.inr (.inr (.inr (.inr (.inl ⟨hk,rfl⟩)))))))),hd.any⟩)).mono fun z w' B=>A B
  .exact(vJ 9 51 (by decide) (by kernel_rfl) (by omega) e hk (S.cL D M e) (b+1) H w F s S L h (fun W G E=>(Ag e b W G s S L E I.1).mono fun z w' hd=>⟨_,(.inr (.inr (.inr (.inr (.inr (.inr (.inr (.inr (.inl ⟨hk,rfl⟩))))))))),hd.any⟩)).mono fun z w' B=>A B
  .exact(vJ 10 50 (by decide) (by kernel_rfl) (by omega) e hk (S.cL D M e) (b+1) H w F s S L h (fun W G E=>(XE e b W G s S L E I.1).mono fun z w' hd=>⟨_,(.inr (.inr (.inr (.inr (.inr (.inr (.inr (.inr (.inr (.inl ⟨hk,rfl⟩)))))))))),hd.any⟩)).mono fun z w' B=>A B
  .exact(vJ 11 52 (by decide) (by kernel_rfl) (by omega) e hk (S.cL D M e) (b+1) H w F s S L h (fun W G E=>(YJ e b W G s S L E I hb).mono fun z w' hd=>⟨_,(.inr (.inr (.inr (.inr (.inr (.inr (.inr (.inr (.inr (.inr (.inl ⟨hk,rfl⟩))))))))))),hd.any⟩)).mono fun z w' B=>A B
  .exact(vJ 12 44 (by decide) (by kernel_rfl) (by omega) e hk (S.cL D M e) (b+1) H w F s S L h (fun W G E=>(Pr e b W G s S L E I.1).mono fun z w' hd=>⟨_,(.inr (.inr (.inr (.inr (.inr (.inr (.inr (.inr (.inr (.inr (.inr (.inl ⟨hk,rfl⟩)))))))))))),hd.any⟩)).mono fun z w' B=>A B
  .exact(vJ 13 53 (by decide) (by kernel_rfl) (by omega) e hk (S.cL D M e) (b+1) H w F s S L h (fun W G E=>(YE e b W G s S L E I).mono fun z w' ⟨o,O,hd⟩=>⟨o,(.inr (.inr (.inr (.inr (.inr (.inr (.inr (.inr (.inr (.inr (.inr (.inr (.inl ⟨hk,O⟩))))))))))))),hd.any⟩)).mono fun z w' B=>A B
  .exact(vJ 14 47 (by decide) (by kernel_rfl) (by omega) e hk (S.cL D M e) (b+1) H w F s S L h (fun W G E=>(XB e b W G s S L E I.1).mono fun z w' hd=>⟨_,(.inr (.inr (.inr (.inr (.inr (.inr (.inr (.inr (.inr (.inr (.inr (.inr (.inr (.inl ⟨hk,rfl⟩)))))))))))))),hd.any⟩)).mono fun z w' B=>A B
  .exact(vJ 15 48 (by decide) (by kernel_rfl) (by omega) e hk (S.cL D M e) (b+1) H w F s S L h (fun W G E=>(XD e b W G s S L E I X).mono fun z w' hd=>⟨_,(.inr (.inr (.inr (.inr (.inr (.inr (.inr (.inr (.inr (.inr (.inr (.inr (.inr (.inr ⟨hk,rfl⟩)))))))))))))),hd.any⟩)).mono fun z w' B=>A B
 .exact(GP e (YL hk) R w F s S L h).mono fun z w' ⟨B,g⟩=>⟨L,0,1,S,.inl ⟨hk,rfl,rfl,rfl⟩,B,g⟩
theorem AN.snoc{B A:Sc}{e:Ev}{l:List Ev}{a:List (Int×Int)}{n f:Int}(h:Sc.AN D M S l B a)(E:B.gB D M e A n f):Sc.AN D M S (l++ [e]) A (a++ [(n,f)]):=by
 induction h with
 | nil S=>exact .cons E (.nil _)
 | cons h t ih=>exact .cons h (ih E)
theorem AN.len{A:Sc}{l:List Ev}{a:List (Int×Int)}(h:Sc.AN D M S l A a):a.length=l.length:=by
 induction h with
 | nil S=>rfl
 | cons h t ih=>simp[ih]
abbrev gC:Sc->Ev->Out->Prop:=fun _ _ _=>False
def Ev.Good(e:Ev):Prop:=RH e.kind/\e.Ok/\e.kind≠2/\e.kind≠3
theorem MA{A:Sc}{e:Ev}{n f:Int}(hd:S.gB gC gC e A n f)(h:S.AE)(B:S.Fit b)(hb:b<900)(D:e.Good):A.AE/\A.Fit (b+1):=GT (fun _ _ h=>h.elim False.elim False.elim) h B hb D.2.1 hd
theorem GV{base:Nat}{e:TypeId}{A k c:Nat}{D:Option Addr}{G:List zz}(h:w.ownsRow base e A (zf D k c) n G){g:Nat}(E:(zf D k c).ownBlock=zo g):D=zo ⟨g,0,zp⟩:=by
 rcases h.2 with⟨B,_⟩|⟨g',h0,cur,B,_⟩
 .injection B with e1
  rw[e1]at E;cases E
 .injection B with e1
  subst e1;obtain rfl:g'=g:=zx E;rfl
theorem BP(l:List Ev)(n:Nat)(a:Option Addr)(c:Nat)(b:Nat)(w:zu)(F:Nat->Prop)(s:Nat)(S:Sc)(L:Lay)(h:yK w F s S L)(hn:n=l.length)(ka:n<=100)(hR:Bw w a l)(H0:∀r,a=zo ⟨r,0,zp⟩->¬F r)(hI:∀e∈l,e.Good)
 (hk:S.AE) (ok:S.Fit b) (hb:b+n<=900):
 zw prog 25 #[ptr s,zf a n c] w fun z w'=>∃L' T D g c',Sc.AN gC gC S l T D/\T.Fit (b+n)/\z=zm (zf g n c')/\LN w' g D/\yG w F s T L' w':=by
 obtain⟨i0,hi,Hg,k4,k1⟩:=info_parts As;obtain⟨HH,HG,HN⟩:=Qe (⟨hR,H0⟩:Bw w a l/\∀r,a=zo ⟨r,0,zp⟩->¬F r) hI hn;obtain⟨G0,hf⟩:∃G0:Nat->Prop,G0=fun k=>F k/\k<w.heap.size:=⟨_,rfl⟩
 have hy:yK w G0 s S L:=by rw[hf];exact h.PA
 have hq:∀x,G0 x->x<w.heap.size/\(F x∨w.heap.size<=x):=by rw[hf];exact fun x A=>⟨A.2,.inl A.1⟩
 have o:=yw (⟨hy,hq,hk,ok⟩:yK w G0 s S L/\(∀x,G0 x->x<w.heap.size/\(F x∨w.heap.size<=x))/\S.AE/\S.Fit b);clear h hn hR H0 hI hk ok hf hy hq;go_enter func25,ntmps25;go_wp2_with fail;go_loopw [5,7,10] (fun v5 _ i wr=>∃(k:Nat) (L':Lay) (T:Sc) (D:List (Int×Int)) (M:Option Addr) (d:Nat) (G:Nat->Prop),k<=n/\i=zd zj k/\v5=zf M k d/\Sc.AN gC gC S (l.take k) T D/\T.AE/\T.Fit (b+k)/\wr.ownsRow w.heap.size 31 2 (zf M k d) k (Kf D)/\yK wr G s T L'/\(∀x,G x->x<wr.heap.size/\(F x∨w.heap.size<=x))/\(∀r,M=zo ⟨r,0,zp⟩->¬G r)/\Bw wr a l/\OA F w wr) (fun _ _ i _=>n-(intOf i).toNat)
 case atStart=>exact⟨0,L,S,[],zp,0,G0,by omega,rfl,rfl,.nil S,o.out.2.2.1,o.out.2.2.2,by simpa[Kf]using ym _ _ _ _,o.out.1,o.out.2.1,(fun r hr=>by cases hr),HH.out.1,.refl F w⟩
 case round=>
  obtain⟨k,L',T,D,M,d,G,hk,rfl,rfl,K,hw,C,Q,hS,hG,hl,P,hT⟩:=hrel;obtain⟨Z,H4,O,E,R,HT,hj,HS⟩:=Qj K hw C Q (⟨hG,hl⟩:(∀x,G x->x<wr.heap.size/\(F x∨w.heap.size<=x))/\(∀r,M=zo ⟨r,0,zp⟩->¬G r)) hT P hS;clear K hw C Q hS hG hl P hT;by_cases H5:k<n
  .have k7:(k:Int) <(n:Int):=by omega
   obtain⟨e,he⟩:∃e,l[k]?=zo e:=⟨_,zy (by rw[<-HN.out];exact H5)⟩
   obtain⟨r,rfl,k0,c0,c1,c2,c3,c4,c5⟩:=hj.out k e he;have HE:=yw he;have B:=HG.out e (zW he);have h6:=yw B;obtain⟨w1,ha⟩:=yB (wr.alloc (zn (OX e) 35))
   have hh:Below wr.heap.size wr w1:=by rw[ha];exact yE wr _
   have hz:=yw hh;have HD:=yw (ZH gC gC e (b+k) w1 G s T L' (HS.out.behind hh) B.1 B.2.1 O.out (by omega) (fun m t hm=>(H4.out m t hm).1) (fun _ _ h=>h.elim) (fun _ _ h=>h.elim) (fun p=>absurd p B.2.2.1) (fun h3=>absurd h3 B.2.2.2));clear B hh he;go_wp2_with fail;rw[show wr.alloc (zn #[zd zj e.kind,zd zj e.a,zd zj e.b,zd zj e.n,zd zj e.m,zd zk e.mask] 35)=w1 from ha.symm];clear ha c0 c1 c2 c3 c4 c5 k0;refine HD.out.mono ?_;rintro z Y ⟨L2,nn,ff,S2,h7,rfl,q⟩;obtain⟨q1,q3⟩:=MA h7 H4.out O.out (by omega) h6.out;have HQ:=yw (⟨q1,q3⟩:S2.AE/\S2.Fit _);have h5:=yw (AN.snoc Z.out h7)
   have k9:=hz.out.size;have k8:=q.2.size;have h8:OA G wr Y:=(OA.NZ hz.out:OA G wr w1).trans q.2 fun x A=>.inl A;have H7:=yw h8;have hp:Y.ownsRow w.heap.size 31 2 (zf M k d) k (Kf D):=Bu E.out fun g hg=>by have:=(E.out.lt g hg).2;refine h8.block g this ?_;exact R.out.2 g (GV E.out hg)
   have H9:=yw hp;have k2:=yw q;clear q1 q3 h7 h8 hp q;go_wp2_with (at_builtin;go_loud (refine wpList_append_own_at _ rfl _ _ 93 rfl w.heap.size 31 i0 (zg #[zd zj 0,zd zj 0]) 2 16 underlying93 hi Hg k4 k1 rfl (by decide) _ k (Kf D) rfl (H9.out.alloc _) ⟨Y.heap.size,0,zp⟩ 1 1 [zd zj nn,zd zj ff] rfl rfl ?c1 ?c2 ?c3 ?c4 ?c5 ?_))
   case c1=>
    intro jj u U;have H6:jj=0∨jj=1:=by have:=(yy U).1;simp at this;omega
    rcases H6 with rfl|rfl
    .simp at U;subst U;simp[go_sem]
    .simp at U;subst U;simp[go_sem]
   case c2=>intro u hu;simp at hu;rcases hu with rfl|rfl<;>rfl
   case c3=>unfold maxLen;omega
   case c4=>omega
   case c5=>have:=HT.out.size;simp;omega
   intro v' y H J _ v;obtain⟨V,hc⟩:∃V:Nat->Prop,V=fun x=>Ext G w1 Y x/\x<Y.heap.size:=⟨_,rfl⟩
   have ho:yK Y V s S2 L2:=by rw[hc];exact k2.out.1.PA
   have N:∀x,V x->x<Y.heap.size/\(F x∨w.heap.size<=x):=by
    rw[hc];rintro x ⟨A|A,f⟩
    .exact⟨f,(R.out.1 x A).2⟩
    .exact⟨f,.inr (by have:=HT.out.size;omega)⟩
   have h9:∀g,(zf M k d).ownBlock=zo g->g<wr.heap.size/\¬V g:=fun g hg=>by
    have h1:=(E.out.lt g hg).2;refine⟨h1,?_⟩;have p:=GV E.out hg;rw[hc];rintro⟨A|A,_⟩
    .exact R.out.2 g p A
    .have:=A.1;omega
   have j:OA (fun x=>(zf M k d).ownBlock=zo x) Y y:=((OA.refl (fun x=>(zf M k d).ownBlock=zo x) Y).alloc (zn #[zd zj nn,zd zj ff] 31)).grown J fun x A=>.inl A;have k6:=j.size;have H3:yK y V s S2 L2:=ho.kept fun x A f=>j.block x A fun e'=>(h9 x e').2 f;have I:OA F w y:=by
    refine(HT.out.trans (G:=fun x=>G x∨(zf M k d).ownBlock=zo x) ((H7.out.mono fun x A=>.inl A).trans (j.mono (G:=fun x=>G x∨(zf M k d).ownBlock=zo x) fun x A=>.inr A) fun x A=>.inl A) fun x A=>?_);rcases A with A|A
    .exact(R.out.1 x A).2
    .exact .inr (E.out.lt x A).1
   have k5:D.length=k:=by have:=AN.len Z.out;rw[List.length_take,<-HN.out]at this;omega
   rcases H.2 with⟨_,h0⟩|⟨g,H1,cur,hv,_⟩
   .omega
   subst hv;have W:∀x,(zo (⟨g,0,zp⟩:Addr))=zo ⟨x,0,zp⟩->¬V x:=fun x A H2=>by
    obtain rfl:g=x:=by injection A with e1;injection e1
    have h1:=(N g H2).1;rcases v with h3|h3
    .exact(h9 g h3.symm).2 H2
    .have h4:g=Y.heap.size+1:=zx h3;omega
   have X:Bw y (zo ⟨r,0,zp⟩) l:=HH.out.1.kept (fun x A H8=>I.block x H8 (HH.out.2 x A)) I.size;have k3:=yw (⟨H3,N,W,X,I,H⟩:yK y V s S2 L2/\(∀x,V x->x<Y.heap.size/\(F x∨w.heap.size<=x))/\(∀x,(zo (⟨g,0,zp⟩:Addr))=zo ⟨x,0,zp⟩->¬V x)/\Bw y (zo ⟨r,0,zp⟩) l/\OA F w y/\y.ownsRow w.heap.size 31 2 (zf (zo ⟨g,0,zp⟩) (k+1) H1) (k+1) (Kf D++ [zd zj nn,zd zj ff]));clear H3 N W X I H J v ho h9 j;go_wp2_with fail;go_roundw
   case rel=>
    obtain⟨t1,t2,t3,t4,t5,t6⟩:=k3.out;refine⟨k+1,L2,S2,D++ [(nn,ff)],zo ⟨g,0,zp⟩,H1,V,by omega,by go_num,rfl,?_,HQ.out.1,HQ.out.2,by rw[XR];exact t6,t1,fun x A=>⟨by have:=(t2 x A).1;omega,(t2 x A).2⟩,t3,t4,t5⟩;rw[List.take_add_one,HE.out];exact h5.out
   case measure=>simp[intOf];omega
  .have Hy:k=n:=by omega
   subst Hy;go_wp2;go_ret;have ht:l.take k=l:=by rw[HN.out,List.take_length]
   have hr:=Z.out;rw[ht]at hr;exact⟨L',T,D,M,d,hr,O.out,rfl,LN.SW E.out,HS.out.mono fun x _ A=>by
    obtain⟨h1,p⟩:=R.out.1 x A;rcases p with p|p
    .exact .inl p
    .exact .inr ⟨p,h1⟩,HT.out⟩
