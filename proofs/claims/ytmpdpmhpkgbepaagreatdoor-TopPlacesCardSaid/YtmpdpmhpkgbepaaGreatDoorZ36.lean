/- Parts for TopPlaces. Conditions: as stated. -/
import Derived.Test.YtmpdpmhpkgbepaaGreatDoorZ35
set_option linter.unusedVariables false
set_option maxRecDepth 100000
set_option maxHeartbeats 4000000
open Go.Value renaming int->zd,slice->zf
open Go.Obj renaming cells->zn
open Option renaming some->zo,none->zp
open Go.World renaming cell?->zN
open And renaming intro->zQ
open Go.Proofs.Tryz
namespace Go.Proofs.YtmpdpmhpkgbepaaGreatDoor
open Go Go.RowKit Go.ChangeShapes Go.WideShapes
attribute [local go_sem ↓] Go.wp_at_zero Go.wp_at_succ
theorem ML{l:List Int}{k:Nat}(h:k<l.length):(uv l)[k]?=zo (zd .u64 (l.getD k 0)):=by simp[uv,List.getD_eq_getElem?_getD,h]
theorem Il{S:Sc}{b:Nat}(J:S.Ok b){t:Tk}(h:S.gR t){w:World}{a:Option Addr}(E:xE w a (uv S.OZ)):∃(r q:Nat) (x:Int),a=zo ⟨r,0,zp⟩/\vw S.OZ t.mask=zo q/\q<S.ps/\w.cell? ⟨r,t.p,zp⟩=zo (zd .u64 x)/\w.cell? ⟨r,q,zp⟩=zo (zd .u64 x)/\r<w.heap.size:=by obtain⟨_,hp,_,q,H,G,N⟩:=h;have hl:=J.OZ.2;obtain⟨r,D,I,M⟩:=E t.p _ (ML (by omega));obtain⟨r',A,B,_⟩:=E q _ (ML (by omega));rw[D]at A;simp only[Option.some.injEq,Addr.mk.injEq,and_true]at A;subst A;exact⟨r,q,_,D,H,G,I,by rw[N];exact B,M⟩
theorem ZQ(F a1 a2 a3 a4:Int)(la:Option Addr)(n lc:Nat)(f:Nat->Ev)(w:World)(ht:Xu w)(h0:0<=F/\F<=65535)(h1:0<=a1/\a1<=65535)(h2:0<=a2/\a2<=65535)(h3:0<=a3/\a3<=65535)(h4:0<=a4/\a4<=65535)
 (hE:MK w la n f) (hI:∀j,j<n->RH (f j).kind/\(f j).Ok) (hn:n<=9223372036854775807):
 Calls prog 3 #[.agg #[zd .u16 F,zd .u16 a1,zd .u16 a2,zd .u16 a3,zd .u16 a4],zf la n lc] w fun z w'=>z=.returned (.bool true)/\Below w.heap.size w w':=by
 have HT:=yw ht;have HE:=yw (zQ hE hI);have H5:Hid (Sc.Fit (Sc.new (1+F%8).toNat (1+a1) a2 a3 (1+a4)) 0):=yw (JR _ _ _ _ _ (by omega) (by omega) (by omega) (by omega));obtain⟨w1,H7⟩:=yB (w.alloc (zn #[zd .u16 F,zd .u16 a1,zd .u16 a2,zd .u16 a3,zd .u16 a4] 23))
 have kz:Below w.heap.size w w1:=by rw[H7];exact yE w _
 have hi:w1.heap[w.heap.size]?=zo (zn #[zd .u16 F,zd .u16 a1,zd .u16 a2,zd .u16 a3,zd .u16 a4] 23 (0,0)):=by rw[H7];exact heap_alloc_new w _
 have c0:w1.cell? ⟨w.heap.size,0,zp⟩=zo (zd .u16 F):=by simp[zN,hi]
 have c1:w1.cell? ⟨w.heap.size,1,zp⟩=zo (zd .u16 a1):=by simp[zN,hi]
 have c2:w1.cell? ⟨w.heap.size,2,zp⟩=zo (zd .u16 a2):=by simp[zN,hi]
 have c3:w1.cell? ⟨w.heap.size,3,zp⟩=zo (zd .u16 a3):=by simp[zN,hi]
 have c4:w1.cell? ⟨w.heap.size,4,zp⟩=zo (zd .u16 a4):=by simp[zN,hi]
 obtain⟨kt,k8,K8⟩:=Qe (XH F a1 a2 a3 a4 w1 h0 h1 h2 h3 h4) kz H7;obtain⟨S0,k1⟩:=yB (Sc.new (1+F%8).toNat (1+a1) a2 a3 (1+a4))
 have kn:Hid (S0.Fit 0/\S0.AE):=yw (by rw[k1];exact⟨H5.out,JY _ _ _ _ _⟩);rw[<-k1]at kt;clear ht hE hI kz hi H5 h0 h1 h2 h3 h4 H7 k1;go_enter func3,ntmps3;go_upto_region 1 with(fail)
 rw[show w.alloc (zn #[zd .u16 F,zd .u16 a1,zd .u16 a2,zd .u16 a3,zd .u16 a4] 23)=w1 from K8.out.symm];go_wp2_with fail;refine kt.out.mono ?_;rintro z w2 ⟨s,L,rfl,hs,kr⟩;have K6:=yw (yC k8.out kr k8.out.size);have K3:=yw hs.PA;clear hs kr c0 c1 c2 c3 c4;go_wp2_with fail;go_loopw [6,7,8,9,10,11] (fun v6 _ _ _ _ _ wr=>∃(k:Nat) (S:Sc) (L:Lay) (G:Nat->Prop),v6=zd .i64 k/\k<=n/\k<=80/\yK wr G s S L/\(∀x,G x->w.heap.size<=x/\x<wr.heap.size)/\S.Fit k/\S.AE/\Below w.heap.size w wr) (fun v6 _ _ _ _ _ _=>80-(intOf v6).toNat)
 case atStart=>exact⟨0,S0,L,_,rfl,by omega,by omega,K3.out,fun x hx=>⟨Nat.le_trans k8.out.size hx.1,hx.2⟩,kn.out.1,kn.out.2,K6.out⟩
 case round=>
  obtain⟨k,S,L,G,rfl,m0,m1,hs,hG,Z,Y,hb⟩:=hrel;obtain⟨HS,HG,B,HB⟩:=Qf hs hG (zQ Z Y) hb;clear hs hG Z Y hb;by_cases hk:k<n/\k<80
  .have kq:(k:Int) <(n:Int):=by omega
   have kh:(k:Int) <80:=by omega
   obtain⟨b,off,rfl,I,e0,e1,e2,e3,e4,e5⟩:=HE.out.1 k hk.1;obtain⟨kd,ka⟩:=HE.out.2 k hk.1;obtain⟨e,he⟩:=yB (f k)
   rw[<-he]at e0 e1 e2 e3 e4 e5 kd ka;have l:=yw (zQ I (zQ e0 e1));have k3:=yw (Jv k wr G s S L HS.out B.out.1.1);clear he;have H4:=yw (zQ kd ka);obtain⟨ps,H8⟩:=yB S.ps
   have hg:=yw H8;have K1:1<=ps/\ps<=64:=by rw[H8];exact B.out.1.1.ps
   rw[<-H8]at k3;have H3:=yw (zQ e2 (zQ e3 (zQ e4 e5)));clear I e0 e1 e2 e3 e4 e5 kd ka H8;go_wp2_with fail;refine k3.out.mono ?_;rintro z w3 ⟨ra,rc,rfl,ha,k4⟩;obtain⟨kv,U,kw⟩:=Qe (HS.out.behind k4) (yC HB.out k4 HB.out.size) (xE.SG ha);have km:Hid (∀r,ra=zo ⟨r,0,zp⟩->wr.heap.size<=r/\r<w3.heap.size):=yw (fun r hr=>ha.lt r (by rw[hr];rfl));clear ha k4 k3;have HD:=yw (ZH Ee Ef e k w3 G s S L kv.out H4.out.1 H4.out.2 B.out.1 (by omega) (fun m t hm=>(B.out.2 m t hm).1)
    (fun e o ho=>by rw[show o=S.drop e from ho];exact Db B.out.1 (by omega) e) (fun e o ho=>by rw[show o=S.move e from ho];exact Dc B.out.1 (by omega) e)
    (fun _ W G hW=>(YP e k W G s S L hW B.out.1 (fun m t hm=>(B.out.2 m t hm).1)).mono fun z w' hd=>⟨_,rfl,hd.any⟩)
    (fun _ W G hW=>(YS e k W G s S L hW B.out.1).mono fun z w' hd=>⟨_,rfl,hd.any⟩))
   have I:=l.out.1;have e0:=(U.out.cell (p:=⟨b,off+k*6,zp⟩) I).trans l.out.2.1;have e1:=(U.out.cell (p:=⟨b,off+k*6+1,zp⟩) I).trans l.out.2.2;have e2:=(U.out.cell (p:=⟨b,off+k*6+2,zp⟩) I).trans H3.out.1;have e3:=(U.out.cell (p:=⟨b,off+k*6+3,zp⟩) I).trans H3.out.2.1;have e4:=(U.out.cell (p:=⟨b,off+k*6+4,zp⟩) I).trans H3.out.2.2.1;have e5:=(U.out.cell (p:=⟨b,off+k*6+5,zp⟩) I).trans H3.out.2.2.2;go_wp2_with fail;refine HD.out.mono ?_;rintro z w4 ⟨L',nn,ff,S',Hy,rfl,hl⟩;have ks:=yw Hy;obtain⟨Y,Z⟩:=GT (NL B.out.2 B.out.1 (by omega)) B.out.2 B.out.1 (by omega) H4.out.2 Hy;have O:=yw (zQ Z Y)
   obtain⟨G4,k5⟩:∃G4:Nat->Prop,G4=fun x=>Ext G w3 w4 x/\x<w4.heap.size:=⟨_,rfl⟩
   have ku:yK w4 G4 s S' L':=by rw[k5];exact hl.1.PA
   have hc:∀x,G4 x->w.heap.size<=x/\x<w4.heap.size:=by
    rw[k5];rintro x ⟨hx|hx,kl⟩
    .exact⟨(HG.out x hx).1,kl⟩
    .exact⟨by have:=U.out.size;omega,kl⟩
   have ke:Below w.heap.size w w4:=U.out.trans (hl.2.below U.out.size fun x hx=>(HG.out x hx).1);have H6:xE w4 ra (uv S.OZ):=kw.out.RB hl.2 fun r hr hx=>by have h5:=(km.out r hr).1;have h6:=(HG.out r hx).2;omega
   obtain⟨c,Hg⟩:=yB (w4.alloc (zn #[zd .i64 nn,zd .i64 ff] 31))
   have H2:Below w4.heap.size w4 c:=by rw[Hg];exact yE w4 _
   have hq:c.heap[w4.heap.size]?=zo (zn #[zd .i64 nn,zd .i64 ff] 31 (0,0)):=by rw[Hg];exact heap_alloc_new w4 _
   have h8:=yC ke H2 ke.size;have HC:Hid (∀W,Below c.heap.size c W->yK W G4 s S' L'/\(∀x,G4 x->w.heap.size<=x/\x<W.heap.size)/\Below w.heap.size w W):=yw fun W hW=>⟨(ku.behind H2).behind hW,fun x hx=>⟨(hc x hx).1,by have h5:=(hc x hx).2;have h6:=H2.size;have h7:=hW.size;omega⟩,yC h8 hW h8.size⟩
   have ky:=yw (H6.behind H2);obtain⟨A,hA⟩:=yB w4.heap.size
   have kx:=yw (zQ Hg hA);rw[<-hA]at hq;have H9:=yw hq;have F:c.cell? ⟨A,0,zp⟩=zo (zd .i64 nn):=by simp[zN,hq]
   have a1:c.cell? ⟨A,1,zp⟩=zo (zd .i64 ff):=by simp[zN,hq]
   have hh:=yw h8;clear e0 e1 e2 e3 e4 e5 Z Y k5 ku hc ke H6 H2 hq h8 Hg hA Hy hl H3 HD kv kw km;have e0:=(hh.out.cell (p:=⟨b,off+k*6,zp⟩) I).trans l.out.2.1;go_upto_region 9 with(fail)
   rw[show w4.alloc (zn #[zd .i64 nn,zd .i64 ff] 31)=c from kx.out.1.symm,<-kx.out.2];by_cases kb:ff=0
   .subst kb;by_cases hf:e.kind=6∨e.kind=7
    .have e1:=(hh.out.cell (p:=⟨b,off+k*6+1,zp⟩) I).trans l.out.2.2;have ki:∃(m:Nat) (t:Tk),S'.ts[m]?=zo t/\S.gR t/\((e.kind=6/\nn=m)∨(e.kind=7/\e.a=m/\nn=t.p)):=by
      rcases hf with h6|h7
      .obtain⟨m,t,q1,q2,q3⟩:=GU B.out.1 (by omega) H4.out.2 ks.out h6;exact⟨m,t,q2,q3,.inl ⟨h6,q1⟩⟩
      .obtain⟨m,t,q1,q2,q3,q4⟩:=LZ B.out.2 B.out.1 (by omega) H4.out.2 ks.out h7;exact⟨m,t,q2,q3,.inr ⟨h7,q1,q4⟩⟩
     obtain⟨m,t,ht,hw,ko⟩:=ki;have M:=yw (zQ ht hw);have kk:=yw (Ib m (k+1) c G4 s S' L' (HC.out c (Below.refl _ _)).1 O.out.1.1 (yy ht).1);have T:=(O.out.1.1.tk m t ht hw.1).mask;obtain⟨N,k9⟩:=yB t.p
     obtain⟨mk,h9⟩:=yB t.mask
     rw[<-k9]at ko;rw[<-h9]at T;have H:=yw (zQ k9 h9);clear ht hw hf k9 h9;rcases ko with⟨k6,K2⟩|⟨k7,kp,K7⟩
     .rw[k6]at e0;subst K2;have HK:=yw k6;clear k6;go_wp2_with fail;refine kk.out.mono ?_;rintro z w6 ⟨st,p0,g0,ni,wt,E,rfl,J,C⟩;obtain⟨hp,hm⟩:=J t M.out.1 M.out.2.1;obtain rfl:p0=(N:Int):=by rw[hp,H.out.1]
      obtain rfl:E=mk:=by rw[hm,H.out.2]
      obtain⟨R,V⟩:=yB (w6.alloc (zn (vq st N g0 ni wt E (S'.book.bt m)) 37))
      have Q:Below c.heap.size c R:=yC C (by rw[V];exact yE w6 _) C.size;have K:R.heap[w6.heap.size]?=zo (zn (vq st N g0 ni wt E (S'.book.bt m)) 37 (0,0)):=by rw[V];exact heap_alloc_new w6 _
      obtain⟨X,hX⟩:=yB w6.heap.size
      rw[<-hX]at K;obtain⟨-,x1,-,-,-,x5,-,xl,-⟩:=xY K;have hj:=yw (zQ V hX);have hy:=yw Q;have P:S.OZ.length=ps:=by rw[B.out.1.1.OZ.2,hg.out]
      have g:=ky.out.behind Q;obtain⟨r,q,v,k0,d,kf,y1,y2,yl⟩:=Il B.out.1.1 M.out.2 g;rw[<-H.out.2]at d;rw[<-H.out.1]at y1;rw[<-hg.out]at kf;have u:=ur S.OZ E ra rc R (by omega) T.1 T.2 g;rw[d,P]at u;have kc:Hid (Calls prog 9 #[zf ra ps rc,zd .u64 E] R fun z w'=>z=.returned (zd .i64 (q:Int))/\Below R.heap.size R w'):=yw u;have kg:N<ps:=by rw[H.out.1,hg.out];exact M.out.2.2.1
      have H1:=yw (fun W=>Lz S.OZ N E ra rc W (by omega) (by omega) T.1 T.2);rw[P,show qN E N=true by rw[H.out.1,H.out.2];exact M.out.2.2.2.1]at H1;subst k0;have kj:(N:Int) <(ps:Int):=by omega
      have K5:(q:Int) <(ps:Int):=by omega
      have K4:(0:Int)<=q:=by omega
      clear hp hm J C V Q K hX P g u d e0 e1 F a1;go_upto_region 14 with(fail)
      rw[show w6.alloc (zn (vq st N g0 ni wt E (S'.book.bt m)) 37)=R from hj.out.1.symm,<-hj.out.2];go_wp2_with fail;refine kc.out.mono ?_;rintro z w8 ⟨rfl,D⟩;replace x1:=(D.cell (p:=⟨X,1,zp⟩) xl).trans x1;replace x5:=(D.cell (p:=⟨X,5,zp⟩) xl).trans x5;replace y1:=(D.cell (p:=⟨r,N,zp⟩) yl).trans y1;replace y2:=(D.cell (p:=⟨r,q,zp⟩) yl).trans y2;replace xl:=yz xl D.size;replace yl:=yz yl D.size;have y:=yw (yC hy.out D hy.out.size);have H0:=yC hh.out y.out hh.out.size;have e0:=(H0.cell (p:=⟨b,off+k*6,zp⟩) I).trans l.out.2.1;have hz:=(yx H9.out).1
      have hv:=(y.out.block A hz).trans H9.out;have F:w8.cell? ⟨A,0,zp⟩=zo (zd .i64 m):=by simp[zN,hv]
      rw[HK.out]at e0;clear D H0 hz hv;go_upto_region 15 with(fail)
      go_quiet (exact Calls.quiet_of_same (H1.out _));go_wp2_with fail;go_roundw
      case rel=>
       obtain⟨p1,p2,p3⟩:=HC.out _ (yH y.out _);exact⟨k+1,S',L',G4,by go_num,by omega,by omega,p1,p2,O.out.1,O.out.2,p3⟩
      case measure=>simp[intOf];omega
     .rw[k7]at e0;rw[kp]at e1;subst K7;have HK:=yw k7;clear k7 kp;go_wp2_with fail;refine kk.out.mono ?_;rintro z w6 ⟨st,p0,g0,ni,wt,E,rfl,J,C⟩;obtain⟨hp,hm⟩:=J t M.out.1 M.out.2.1;obtain rfl:p0=(N:Int):=by rw[hp,H.out.1]
      obtain rfl:E=mk:=by rw[hm,H.out.2]
      obtain⟨R,V⟩:=yB (w6.alloc (zn (vq st N g0 ni wt E (S'.book.bt m)) 37))
      have Q:Below c.heap.size c R:=yC C (by rw[V];exact yE w6 _) C.size;have K:R.heap[w6.heap.size]?=zo (zn (vq st N g0 ni wt E (S'.book.bt m)) 37 (0,0)):=by rw[V];exact heap_alloc_new w6 _
      obtain⟨X,hX⟩:=yB w6.heap.size
      rw[<-hX]at K;obtain⟨-,x1,-,-,-,x5,-,xl,-⟩:=xY K;have hj:=yw (zQ V hX);have hy:=yw Q;have P:S.OZ.length=ps:=by rw[B.out.1.1.OZ.2,hg.out]
      have g:=ky.out.behind Q;obtain⟨r,q,v,k0,d,kf,y1,y2,yl⟩:=Il B.out.1.1 M.out.2 g;rw[<-H.out.2]at d;rw[<-H.out.1]at y1;rw[<-hg.out]at kf;have u:=ur S.OZ E ra rc R (by omega) T.1 T.2 g;rw[d,P]at u;have kc:Hid (Calls prog 9 #[zf ra ps rc,zd .u64 E] R fun z w'=>z=.returned (zd .i64 (q:Int))/\Below R.heap.size R w'):=yw u;have kg:N<ps:=by rw[H.out.1,hg.out];exact M.out.2.2.1
      have H1:=yw (fun W=>Lz S.OZ N E ra rc W (by omega) (by omega) T.1 T.2);rw[P,show qN E N=true by rw[H.out.1,H.out.2];exact M.out.2.2.2.1]at H1;subst k0;have kj:(N:Int) <(ps:Int):=by omega
      have K5:(q:Int) <(ps:Int):=by omega
      have K4:(0:Int)<=q:=by omega
      clear hp hm J C V Q K hX P g u d e0 e1 F a1;go_upto_region 14 with(fail)
      rw[show w6.alloc (zn (vq st N g0 ni wt E (S'.book.bt m)) 37)=R from hj.out.1.symm,<-hj.out.2];go_wp2_with fail;refine kc.out.mono ?_;rintro z w8 ⟨rfl,D⟩;replace x1:=(D.cell (p:=⟨X,1,zp⟩) xl).trans x1;replace x5:=(D.cell (p:=⟨X,5,zp⟩) xl).trans x5;replace y1:=(D.cell (p:=⟨r,N,zp⟩) yl).trans y1;replace y2:=(D.cell (p:=⟨r,q,zp⟩) yl).trans y2;replace xl:=yz xl D.size;replace yl:=yz yl D.size;have y:=yw (yC hy.out D hy.out.size);have H0:=yC hh.out y.out hh.out.size;have e0:=(H0.cell (p:=⟨b,off+k*6,zp⟩) I).trans l.out.2.1;have hz:=(yx H9.out).1
      have hv:=(y.out.block A hz).trans H9.out;have F:w8.cell? ⟨A,0,zp⟩=zo (zd .i64 N):=by simp[zN,hv]
      rw[HK.out]at e0;clear D H0 hz hv;go_upto_region 15 with(fail)
      go_quiet (exact Calls.quiet_of_same (H1.out _));go_wp2_with fail;go_roundw
      case rel=>
       obtain⟨p1,p2,p3⟩:=HC.out _ (yH y.out _);exact⟨k+1,S',L',G4,by go_num,by omega,by omega,p1,p2,O.out.1,O.out.2,p3⟩
      case measure=>simp[intOf];omega
    .have q6:(e.kind == 6)=false:=beq_eq_false_iff_ne.2 fun h=>hf (.inl h);have n6:(e.kind != 6)=true:=bne_iff_ne.2 fun h=>hf (.inl h);have n7:(e.kind != 7)=true:=bne_iff_ne.2 fun h=>hf (.inr h);clear hf;go_wp2_with fail;go_roundw
     case rel=>
      obtain⟨p1,p2,p3⟩:=HC.out c (Below.refl _ _);exact⟨k+1,S',L',G4,by go_num,by omega,by omega,p1,p2,O.out.1,O.out.2,p3⟩
     case measure=>simp[intOf];omega
   .have qf:(ff != 0)=true:=bne_iff_ne.2 kb;clear kb;go_wp2_with fail;go_roundw
    case rel=>
     obtain⟨p1,p2,p3⟩:=HC.out c (Below.refl _ _);exact⟨k+1,S',L',G4,by go_num,by omega,by omega,p1,p2,O.out.1,O.out.2,p3⟩
    case measure=>simp[intOf];omega
  .have K0:=yw (YN wr (HT.out.stays HB.out));by_cases K9:k<n
   .have kq:(k:Int) <(n:Int):=by omega
    have kh:(80:Int)<=(k:Int):=by omega
    clear hk;go_wp2_with fail;refine K0.out.mono ?_;rintro z w9 ⟨rfl,hu⟩;have k2:=yw (yC HB.out hu HB.out.size);clear hu;go_wp2;go_ret;exact⟨rfl,k2.out⟩
   .have kq:(n:Int)<=(k:Int):=by omega
    clear hk;go_wp2_with fail;refine K0.out.mono ?_;rintro z w9 ⟨rfl,hu⟩;have k2:=yw (yC HB.out hu HB.out.size);clear hu;go_wp2;go_ret;exact⟨rfl,k2.out⟩
