/- Parts of the proof of the law TopKeeps: contracts of the functions that it reaches, and plain laws of what they compute. Conditions: those in each statement. -/
import Derived.Carry
import Derived.Test.YtmpdpmhpkgbepaaGreatDoorM34
import Derived.Test.YtmpdpmhpkgbepaaGreatDoorM38
set_option linter.unusedVariables false
set_option maxRecDepth 100000
set_option maxHeartbeats 4000000
open Go.Proofs.Tryz
namespace Go.Proofs.YtmpdpmhpkgbepaaGreatDoor
open Go Go.RowKit Go.ChangeShapes Go.WideShapes
section
attribute [local go_sem ↓] Go.wp_at_zero Go.wp_at_succ
theorem zje(e:Ev)(b:Nat)(w:World)(F:Nat->Prop)(s:Nat)(S:Sc)(L:Lay)(h:zq w F s S L)(ok:S.Fit b)(he:0<=e.mask/\e.mask<=18446744073709551615)(hh:b<900)
 (g:Nat) (x:Gp) (hg:S.grp? e.a=some g) (hx:S.gs[g]?=some x) (H8:x.there=true) (C: -20<=e.n/\e.n<=19) (p:Nat) (Ha:S.free (-1) e.mask=some p) (hE:S.pool.zqe 64=0):
 Calls prog 45 #[ptr s,.agg (zpu e)] w (uT w F s ((S.zqo g p e).put S.ts.length p false,S.ts.length,0)):=by
 obtain⟨w1,hj⟩:=zh (w.alloc (.cells (zpu e) 35))
 have Hh:Below w.heap.size w w1:=by rw[hj];exact zk w _
 have ha:zp1 w1 w.heap.size e:=by rw[hj];exact zp1.new w e
 obtain⟨U,r⟩:∃U:Nat->Prop,U=fun k=>F k/\k<w.heap.size:=⟨_,rfl⟩
 have K3:Hid (∀k,U k->F k):=zc (by rw[r];exact fun k Z=>Z.1);have kx:Hid (∀k,U k->k<w.heap.size):=zc (by rw[r];exact fun k Z=>Z.2);have Hr:Hid (zq w1 U s S L):=zc (by rw[r];exact h.zpy.behind Hh);have ka:=zc Hh;have HG:=zc (yN e.a w1 U s S L Hr.out (by have:=ok.1.gl;have:=ok.1.zqg;omega));rw[hg,show zaV L.gb (some g)=ptr (L.gb g)from rfl]at HG;obtain⟨D,hD⟩:=zh w.heap.size
 have kq:Hid (¬U D):=zc (by rw[r,hD];intro Z;omega);rw[<-hD]at ha;have HE:=zc ha;obtain⟨-,e1,-,e3,-,e5⟩:=ha.c6;have f:=ha.lt;have hw:=zbI C.1 C.2;have HW:=zc (zb9 e.n w1 C.1 C.2);have w8:=zm7 (n:=e.n) (by omega) (by omega);have Kg:=uy (n:=e.n) (by omega) (by omega);obtain⟨W,hW⟩:=zh (xq e.n)
 have Hz:=zc (fun W2 (h2:zq W2 U s S L)=>vy (-1) e.mask b W2 U s S L h2 ok.1 he.1 he.2 (.inl rfl));rw[uw,Ha,show vz (some p)=p from rfl,show zcy (some p)=true from rfl]at Hz;have Hc:=zcV ok.1 Ha;have kp:=zc ok.1.zsf;have Kf:=ok.1.zqg;have P:=ok.1.tl;obtain⟨⟨fA,t9,Ht,Hs,Hp⟩⟩:Nonempty (Σ' (_:(S.zqo g p e).Fit (b+1)) (t9:Tk) (_:(S.zqo g p e).ts[S.ts.length]?=some t9) (_:t9.dead=false),t9.on=false):=by obtain⟨f1,t,E,h2,h3⟩:=zhj ok hh hx H8 Hc C he hE;exact⟨⟨f1,t,E,h2,h3⟩⟩
 have Hb:=zc fA;have Hy:=zc Ht;have kf:=zc Hs;have kl:=zc Hp;obtain⟨I,hI⟩:=zh (S.pool.zp8 64)
 obtain⟨G,hG⟩:=zh (S.pool.zqC 64)
 obtain⟨J,kh⟩:∃J,J=({ S with pool:=S.pool.put 64 S.ts.length }:Sc):=⟨_,rfl⟩
 have V:=zc kh;have HX:=zc hx;have K8:=zc H8;have kc:=zc Hc;have HI:=zc hI;have k1:=zc hG;have ko:=zc hW;have Ka:=zc hE;rw[<-hW]at HW hw;obtain⟨N,Hg⟩:=zh S.ts.length
 have R:=zc Hg;unfold uT;obtain⟨O,hO⟩:=zh (((S.zqo g p e).put S.ts.length p false))
 have HO:=zc hO;rw[<-hO,<-Hg];clear h ok Hh ha r hg Ha hx H8 Hc hE hI hG kh hW Hg hO fA Ht Hs Hp;go_enter func45,ntmps45;go_wp2_with fail;rw[show w.alloc (.cells (zpu e) 35)=w1 from hj.symm,<-hD];clear hj hD;refine HG.out.mono ?_;rintro z w2 ⟨rfl,kn⟩;obtain rfl:=kn.symm;go_wp2_with fail;refine HW.out.mono ?_;rintro z w2 ⟨rfl,ho⟩;have k2:=zc (zj ka.out ho ka.out.size);have k0:=zc (Hr.out.behind ho);have He:=zc (HE.out.behind ho);clear ho e1 e3 e5 f;obtain⟨-,e1,-,e3,-,e5⟩:=He.out.c6;have f:=He.out.lt;go_wp2_with fail;refine(Hz.out _ k0.out).mono ?_;rintro z w3 ⟨rfl,hr⟩
 have k6:=zc (zj k2.out hr k2.out.size);have Hd:=zc (k0.out.behind hr);have ht:=zc (He.out.behind hr);clear hr e1 e3 e5 f;obtain⟨-,e1,-,e3,-,e5⟩:=ht.out.c6;have f:=ht.out.lt;obtain⟨⟨va,vc,H9⟩,s7,-⟩:=Hd.out.zqi;have hy:=zc H9;rw[H9,<-R.out]at s7;have X:=Hd.out.zqq.2;obtain⟨Hv,s6,hU⟩:=Hd.out.zsg;have HU:=zc hU;have HP:=zc (Pi.zrw N (b+2) w3 0 L.pp 64 S.pool Hv kp.out (by omega) (Nat.zero_le _));rw[<-HI.out,<-k1.out,Ka.out]at HP;have kk:N<=900:=by rw[R.out];omega
 clear H9 Hv hU;go_wp2_with fail;refine HP.out.mono ?_;rintro z A ⟨rfl,Hq,H5⟩;have M:Hid (zn w3 U s J L A):=zc (by rw[V.out,<-R.out];exact HU.out _ _ H5 Hq);have kb:Hid (zp1 A D e):=zc ((M.out.2.block D ht.out.lt kq.out).trans ht.out);clear Hq H5 e1 e3 e5 f s7 X s6;obtain⟨-,e1,-,e3,-,e5⟩:=kb.out.c6;have f:=kb.out.lt;have X:=M.out.1.zqq.2;go_wp2_with fail;obtain⟨o,u⟩:=zh ((A.alloc (Obj.cells #[Value.int IntKind.i64 ↑I,Value.int IntKind.i64 G] 78)).alloc (.cells (zau L.gb ⟨I,G,false,false,p,g,e.n,W,e.mask,⟨0,0,0,0⟩,0⟩) 82 (0,0)))
 obtain⟨H,hH⟩:=zh A.heap.size
 have Q:Below A.heap.size A o:=by rw[u];exact((Below.refl _ A).alloc (zg _) _).alloc (by simp) _
 have Y:zp7 o (A.heap.size+1) L.gb ⟨I,G,false,false,p,g,e.n,W,e.mask,⟨0,0,0,0⟩,0⟩:=by rw[u];have:=heap_alloc_new (A.alloc (Obj.cells #[Value.int IntKind.i64 ↑I,Value.int IntKind.i64 G] 78)) (.cells (zau L.gb ⟨I,G,false,false,p,g,e.n,W,e.mask,⟨0,0,0,0⟩,0⟩) 82 (0,0));rw[show(A.alloc (Obj.cells #[Value.int IntKind.i64 ↑I,Value.int IntKind.i64 G] 78)).heap.size=A.heap.size+1 by simp]at this;exact this
 have cH:o.cell? ⟨H,0,none⟩=some (.int .i64 I):=by rw[u,hH];have E:=heap_alloc_new A (Obj.cells #[Value.int IntKind.i64 ↑I,Value.int IntKind.i64 G] 78);have h2:=Below.heap_alloc (A.alloc (Obj.cells #[Value.int IntKind.i64 ↑I,Value.int IntKind.i64 G] 78)) (.cells (zau L.gb ⟨I,G,false,false,p,g,e.n,W,e.mask,⟨0,0,0,0⟩,0⟩) 82 (0,0)) A.heap.size (by simp);simp[World.cell?,h2.trans E]
 have k8:Hid (zn w3 U s J L o):=zc (M.out.below Q);have kr:Hid (∀m,Below o.heap.size o m->m.cell? ⟨H,0,none⟩=some (.int .i64 I)):=zc fun m hb=>(hb.cell (p:=⟨H,0,none⟩) (World.block_lt_of_cell? o _ cH)).trans cH;have ks:Hid (H=A.heap.size):=zc hH;obtain⟨B,hB⟩:=zh (A.heap.size+1)
 have hv:Hid (B=A.heap.size+1):=zc hB;rw[<-hB]at Y;have Kh:H≠B:=by omega
 have hq:B≠H:=by omega
 have K0:=zc Y;have Kk:=Q.size;have Ho:H<o.heap.size:=by have:=Y.lt;omega
 have P:=Y.lt;have H2:=Y.zpe;have b5:=Y.zq7.2.2.2.2.2.1;have ke:=zc (zav B g p x o.drew (Ext U w3 A) s J L ((M.out.1.kept (.zo7 Q)).kept fun _ _ _=>rfl) (by rw[V.out];exact HX.out) (Hb.out.1.hi (n:=g) (g:=x) HX.out K8.out) (by rw[V.out];exact kc.out) (by exact b5));obtain⟨mn,H4⟩:=zh ((J.hs p).minOf x.hi)
 rw[<-H4]at ke;have km:=zc H4;have X:=k8.out.1.zqq.2;have kg:=zc Q;rw[<-hB,<-hH];change Code.wp _ _ _ _ ((A.alloc (Obj.cells #[Value.int IntKind.i64 ↑I,Value.int IntKind.i64 G] 78)).alloc (.cells (zau L.gb ⟨I,G,false,false,p,g,e.n,W,e.mask,⟨0,0,0,0⟩,0⟩) 82 (0,0)));rw[<-u];clear u hH hB Q Y H4 e1 e3 e5 f;go_region_held3 (fun w'=>w'.cell? ⟨H,0,none⟩=some (.int .i64 I)) (first | go_keep | fail)
  (first
   | (
    go_at_call 88;refine ke.out.mono ?_;rintro z m ⟨rfl,d⟩;have hn:Hid (Below o.heap.size o m):=zc ⟨d.os,d.tape,d.output,d.size,d.block⟩;replace cH:=(hn.out.cell (p:=⟨H,0,none⟩) Ho).trans cH;have H0:Hid (zp7 m B L.gb ⟨I,G,false,false,p,g,e.n,W,e.mask,⟨0,0,0,0⟩,0⟩):=zc (K0.out.of (d.block B P));have kt:Hid (zn w3 U s J L m):=zc (k8.out.below hn.out);clear P H2 X Ho d b5;have P:=H0.out.lt;have H2:=H0.out.zpe;have X:=kt.out.1.zqq.2;obtain⟨-,-,-,-,-,-,-,-,-,t9,t10,t11,t12,-⟩:=H0.out.zq7))
 all_goals
  clear cH P H2 X t9 t10 t11 t12;obtain⟨T,h6⟩:=zh ((((m.setCell ⟨B,9,none⟩ (.int .i64 I)).setCell ⟨B,10,none⟩ (.int .u64 W)).setCell ⟨B,11,none⟩ (.int .i64 mn)).setCell ⟨B,12,none⟩ (.int .u64 0))
  have x1:zp7 (m.setCell ⟨B,9,none⟩ (.int .i64 I)) B L.gb ⟨I,G,false,false,p,g,e.n,W,e.mask,⟨I,0,0,0⟩,0⟩:=zi H0.out;have x2:zp7 ((m.setCell ⟨B,9,none⟩ (.int .i64 I)).setCell ⟨B,10,none⟩ (.int .u64 W)) B L.gb ⟨I,G,false,false,p,g,e.n,W,e.mask,⟨I,W,0,0⟩,0⟩:=zi x1;have x3:zp7 (((m.setCell ⟨B,9,none⟩ (.int .i64 I)).setCell ⟨B,10,none⟩ (.int .u64 W)).setCell ⟨B,11,none⟩ (.int .i64 mn)) B L.gb ⟨I,G,false,false,p,g,e.n,W,e.mask,⟨I,W,mn,0⟩,0⟩:=zi x2;have k4:zp7 T B L.gb ⟨I,G,false,false,p,g,e.n,W,e.mask,⟨I,W,mn,0⟩,0⟩:=by rw[h6];exact zi x3
  have Hf:Below A.heap.size A T:=by rw[h6];have E:=zj kg.out hn.out kg.out.size;have h2:=hv.out;exact(((E.setCell (p:=⟨B,9,none⟩) (by show _<=B;omega) _).setCell (p:=⟨B,10,none⟩) (by show _<=B;omega) _).setCell (p:=⟨B,11,none⟩) (by show _<=B;omega) _).setCell (p:=⟨B,12,none⟩) (by show _<=B;omega) _
  have cH:T.cell? ⟨H,0,none⟩=some (.int .i64 I):=by have h0:m.cell? ⟨H,0,none⟩=some (.int .i64 I):=kr.out m hn.out;rw[h6,World.cell?_setCell_far _ _ _ _ hq,World.cell?_setCell_far _ _ _ _ hq,World.cell?_setCell_far _ _ _ _ hq,World.cell?_setCell_far _ _ _ _ hq];exact h0
  have k9:=zc Hf;have H6:=zc k4;have h7:zq T (Ext U w3 A) s J L:=M.out.1.kept (.zo7 Hf);have H7:=zc h7;have X:=h7.zqq.2;obtain⟨-,s7,-⟩:=h7.zqi;rw[hy.out,<-R.out]at s7;have l:=h7.ztH;rw[show J.ts=S.ts by rw[V.out],<-R.out,hy.out,<-R.out]at l;have Hn:∀k,(Value.slice va N vc).ownBlock=some k->k≠s:=fun k Z e'=>by subst e';have E:=h7.tyS;obtain⟨cs,E⟩:=E;exact zz l E (by decide) Z
  have K5:=zc Hn;have ky:Hid (∀k,(Value.slice va N vc).ownBlock=some k->k<A.heap.size):=zc fun k Z=>(M.out.1.ztH).lt k (by rw[hy.out,<-R.out];exact Z) |>.2
  have K7:=zc l;have hc:I<64:=by have h:=Hy.out;have h8:=(Hb.out.1.tk S.ts.length t9 h kf.out).hi;rw[show(S.zqo g p e).ts=S.ts++ [_]from rfl,List.getElem?_append_right (zg _),Nat.sub_self]at h;have h9:S.pool.zp8 64=t9.hi:=congrArg Tk.hi (Option.some.inj h);rw[HI.out,h9];exact h8
  obtain⟨i0,hi,kv,Kb,K1⟩:=info_parts zk6;rw[<-h6];clear h6 x1 x2 x3 Hf k4 h7 l Hn;have Ko:(I:Int) <64:=by omega
  have Kl:(0:Int)<=(I:Int):=by omega
  have Hw:∀(w9:World) (g2 cap2:Nat),zn T (fun k=>Ext U w3 A k∨k=B) s { J with ts:=J.ts++ [(⟨I,G,false,false,p,g,e.n,W,e.mask,⟨I,W,mn,0⟩,0⟩:Tk)],at_:=zpt J.at_ I J.ts.length } { L with tb:=zpt L.tb J.ts.length B,vt:=.slice (some ⟨g2,0,none⟩) (N+1) cap2 } w9->
   Calls prog 89 #[ptr s,ptr B,.int .i64 p,.bool false] w9 fun z w'=>(∃v,z=.returned v)/\∃L',zn w F s O L' w':=by
   intro w9 g2 cap2 hl;have Hk:S.zqo g p e={ J with ts:=J.ts++ [(⟨I,G,false,false,p,g,e.n,W,e.mask,⟨I,W,mn,0⟩,0⟩:Tk)],at_:=zpt J.at_ I J.ts.length }:=by unfold Sc.zqo;rw[Sc.zpj HX.out,<-HI.out,<-k1.out,<-ko.out,km.out,V.out]
   rw[<-Hk]at hl;have h3:zn w3 U s (S.zqo g p e) { L with tb:=zpt L.tb J.ts.length B,vt:=.slice (some ⟨g2,0,none⟩) (N+1) cap2 } w9:=by
    have H5:=M.out.2.size;have Kp:=k9.out.size;have Kq:=hl.2.size;have Km:=hv.out;have Ki:=H6.out.lt;refine⟨hl.1.mono fun k Z hf=>?_,(M.out.2.trans (zo8.zo7 k9.out:zo8 U A T) fun k Z=>.inl Z).trans hl.2 fun k Z=>?_⟩
    ·rcases hf with((E | E) | E) | E
     ·exact .inl E
     ·exact .inr ⟨E.1,by omega⟩
     ·exact .inr ⟨by omega,by omega⟩
     ·exact .inr ⟨by omega,E.2⟩
    ·rcases Z with(E | E) | E
     ·exact .inl E
     ·exact .inr E.1
     ·exact .inr (by omega)
   have h4:=zn.zo7 k6.out h3;have hp:=zaR S.ts.length p false t9 (b+1) w9 _ s (S.zqo g p e) _ h4.1 Hb.out.1 Hy.out kf.out kl.out (show p<S.ps from kc.out);rw[show({ L with tb:=zpt L.tb J.ts.length B,vt:=.slice (some ⟨g2,0,none⟩) (N+1) cap2 }:Lay).tb S.ts.length=B by rw[show J.ts=S.ts by rw[V.out]];exact zy _ _ _]at hp;refine hp.mono ?_;rintro z K9 ⟨hz,Hj⟩;have k7:=(h4.then Hj).grow K3.out;rw[<-HO.out]at k7;exact⟨hz,_,k7⟩
  have K6:=zc Hw;have Hu:¬Ext U w3 A B:=by
   rintro(E | E)
   ·have h2:=kx.out B E;have h3:=k6.out.size;have h4:=M.out.2.size;have h5:=hv.out;omega
   ·have h5:=hv.out;have:=E.2;omega
  have K2:=zc Hu;have ki:N=J.ts.length:=by rw[R.out,V.out]
  have K4:=zc ki;clear Hw Hu ki;have Hi:=World.block_lt_of_cell? T _ cH;have Kn:s≠T.heap.size:=by omega
  obtain⟨Ke,kj⟩:∃c,c=vc:=⟨_,rfl⟩
  go_wp2_with fail;go_region_law (
   refine step_append_lies _ (by rfl) _ _ _ (by rfl) 0 74 i0 _ 1 8 underlying57 hi kv Kb K1 rfl (by omega) (.slice va N vc) N (yq (yT L.tb S.ts)) (by rfl) ((show T.drew.ownsRow 0 74 1 (.slice va N vc) N (yq (yT L.tb S.ts))from K7.out).alloc _)
    ⟨T.heap.size,0,none⟩ 1 1 [ptr B] (by rfl) (by rfl) (World.news_of_block (cs:=#[ptr B]) (t:=74) (fr:=(0,0)) (heap_alloc_new T.drew _)) (by simp[Value.oneCell'])
    (by omega) (by unfold maxLen;omega) (by omega) (by first | omega | (simp;omega)) (T.heap.size+1) (by first | rfl | simp) ?_
   intro g2 cap2 w8 K y kd Kj;have Kd:=zc K;have H3:Hid (zo8 (fun k=>(Value.slice va N vc).ownBlock=some k) T w8):=zc (((zo8.refl (fun k=>(Value.slice va N vc).ownBlock=some k) T).drew.alloc _).grown y fun k Z=>.inl Z);have Hl:=zc kd;have q:w8.heap[s]?=T.heap[s]?:=H3.out.block s X (fun e'=>K5.out s e' rfl);have k5:w8.heap[H]?=T.heap[H]?:=H3.out.block H Hi (fun e'=>by have:=ky.out H e';have:=ks.out;omega);have Kr:=zc q;replace cH:w8.cell? ⟨H,0,none⟩=some (.int .i64 I):=by rw[<-cH];simp[World.cell?,k5]
   replace s7:w8.cell? ⟨s,7,none⟩=some (.slice va N vc):=by rw[<-s7];simp[World.cell?,q]
   have cI:w8.cell? ⟨s,41+I,none⟩=some (.int .i64 ((J.at_ I:Nat):Int)):=by rw[<-H7.out.atC hc];simp[World.cell?,q]
   have ku:∀j,w8.frozen? ⟨s,j,none⟩=false:=by intro j;obtain⟨cs,kz⟩:=H7.out.tyS;simp[World.frozen?,q,kz]
   clear K y kd q k5)
  all_goals
   have k3:=zc (K6.out _ g2 cap2 (H7.out.ztI H6.out.lt K2.out H6.out (by rw[hy.out,<-R.out]) K4.out H3.out (by rw[show J.ts=S.ts by rw[V.out]];exact Kd.out) Hl.out hc));clear cH s7 cI ku;generalize(w8.setCell ⟨s,7,none⟩ (.slice (some ⟨g2,0,none⟩) (N+1) cap2)).setCell ⟨s,41+I,none⟩ (.int .i64 N)=w9 at k3 ⊢;go_wp2_with fail;refine k3.out.mono ?_;rintro z K9 ⟨⟨v,rfl⟩,L',hl⟩;have Kc:=zc hl;clear hl;go_wp2;go_ret2;exact⟨L',rfl,Kc.out⟩
theorem zhB(e:Ev)(b:Nat)(w:World)(F:Nat->Prop)(s:Nat)(S:Sc)(L:Lay)(h:zq w F s S L)(ok:S.Fit b)(he:0<=e.mask/\e.mask<=18446744073709551615)(v:b<900):
 Calls prog 45 #[ptr s,.agg (zpu e)] w (uT w F s (S.spawn e)):=by
 obtain⟨w1,A⟩:=zh (w.alloc (.cells (zpu e) 35))
 have j:Below w.heap.size w w1:=by rw[A];exact zk w _
 have hE:zp1 w1 w.heap.size e:=by rw[A];exact zp1.new w e
 obtain⟨l,c⟩:∃l:Nat->Prop,l=fun k=>F k/\k<w.heap.size:=⟨_,rfl⟩
 have hy:Hid (∀k,l k->F k):=zc (by rw[c];exact fun k hk=>hk.1);have o:Hid (zq w1 l s S L):=zc (by rw[c];exact h.zpy.behind j);have U:Hid (zn w F s S L w1):=zc ((zn.refl h).below j);have hz:=zc j;have hj:=zc ok;have HH:=zc h;have t:=zc (yN e.a w1 l s S L o.out (by have:=ok.1.gl;have:=ok.1.zqg;omega));obtain⟨D,M⟩:=zh w.heap.size
 have hv:Hid (¬l D):=zc (by rw[c,M];intro hk;omega);rw[<-M]at hE;have HE:=zc hE;obtain⟨-,K,-,Q,-,P⟩:=hE.c6;have H:=hE.lt;clear h j hE c;obtain⟨O,N⟩:=zh (S.spawn e)
 rw[<-N];cases hg:S.grp? e.a with
 | none=>
  have d:O=(S,0,2):=by rw[N];unfold Sc.spawn;rw[hg]
  subst d;rw[hg]at t;unfold uT;clear N hg ok;go_enter func45,ntmps45;go_wp2_with fail;rw[show w.alloc (.cells (zpu e) 35)=w1 from A.symm,<-M];clear A M;refine t.out.mono ?_;rintro z w2 ⟨rfl,hw⟩;obtain rfl:=hw.symm;go_wp2;go_ret2;exact⟨L,rfl,U.out⟩
 | some g=>
  obtain⟨-,x,C,I,Z⟩:=yw hg;have hl:=zc hg;have HX:=zc C;have H0:=zc I;rw[hg,show zaV L.gb (some g)=ptr (L.gb g)from rfl]at t;by_cases h8: -128<=e.n/\e.n<=127
  ·have w8:=zm7 h8.1 h8.2;have h9:=uy h8.1 h8.2;by_cases Y: -20<=e.n/\e.n<=19
   ·have R:qI e.n=true:=by unfold qI;exact decide_eq_true Y
    have f:=zc (fun W2 (h2:zq W2 l s S L)=>vy (-1) e.mask b W2 l s S L h2 ok.1 he.1 he.2 (.inl rfl));have HW:=zc (zb9 e.n w1 Y.1 Y.2);obtain⟨W,hW⟩:=zh (xq e.n)
    rw[<-hW]at HW;cases hfr:S.free (-1) e.mask with
    | none=>
     have d:O=(S,0,9):=by rw[N];unfold Sc.spawn;simp only[hg,R,hfr];rfl
     subst d;rw[uw,hfr,show vz (none:Option Nat)=0 from rfl,show zcy (none:Option Nat)=false from rfl]at f;unfold uT;clear N hg ok C I Z R hW hfr;go_enter func45,ntmps45;go_wp2_with fail;rw[show w.alloc (.cells (zpu e) 35)=w1 from A.symm,<-M];clear A M;refine t.out.mono ?_;rintro z w2 ⟨rfl,B⟩;obtain rfl:=B.symm;go_wp2_with fail;refine HW.out.mono ?_;rintro z w2 ⟨rfl,G⟩;have E:=zc G;have r:=zc (o.out.behind G);clear G K Q P H;obtain⟨-,K,-,Q,-,P⟩:=(HE.out.behind E.out).c6;have H:=(HE.out.behind E.out).lt;go_wp2_with fail;refine(f.out _ r.out).mono ?_;rintro z w3 ⟨rfl,V⟩
     have J:=zc ((U.out.below E.out).below V);clear V K Q P H;go_wp2;go_ret2;exact⟨L,rfl,J.out⟩
    | some p=>
     by_cases T:S.pool.zqe 64=0
     ·have hq:S.spawn e=((S.zqo g p e).put S.ts.length p false,(S.ts.length:Int),0):=by unfold Sc.spawn;simp only[hg,R,hfr];rw[if_neg (by decide:¬(true=false)),if_neg (fun h=>h T)]
      rw[N,hq];exact zje e b w F s S L HH.out hj.out he v g x hl.out C I Y p hfr T
     ·have d:O=(S,0,3):=by rw[N];unfold Sc.spawn;simp only[hg,R,hfr];rw[if_pos T];rfl
      subst d;rw[uw,hfr,show vz (some p)=p from rfl,show zcy (some p)=true from rfl]at f;have q:S.pool.put 64 S.ts.length=S.pool/\S.pool.zqe 64=3/\S.pool.zp8 64=0/\S.pool.zqC 64=0:=by
       by_cases hm:S.pool.many=64
       ·unfold Pi.Ps.put Pi.Ps.zqe Pi.Ps.zp8 Pi.Ps.zqC;rw[if_pos hm,if_pos hm,if_pos hm,if_pos hm];exact⟨rfl,rfl,rfl,rfl⟩
       ·exact absurd (by unfold Pi.Ps.zqe;rw[if_neg hm]) T
      obtain⟨u,h4,h0,X⟩:=q;obtain⟨nn,y⟩:=zh S.ts.length
      have hr:=zc y;have hc:=zc ok.1.zsf;have h7:nn<=900:=by have:=ok.1.tl;have:=ok.1.zqg;omega
      rw[<-y]at u;have ha:=zc u;have hh:=zc h4;have m:=zc (And.intro h0 X);unfold uT;clear N hg ok C I Z R hW hfr T y u h4 h0 X;go_enter func45,ntmps45;go_wp2_with fail;rw[show w.alloc (.cells (zpu e) 35)=w1 from A.symm,<-M];clear A M;refine t.out.mono ?_;rintro z w2 ⟨rfl,B⟩;obtain rfl:=B.symm;go_wp2_with fail;refine HW.out.mono ?_;rintro z w2 ⟨rfl,G⟩;have E:=zc G;have r:=zc (o.out.behind G);clear G K Q P H;obtain⟨-,K,-,Q,-,P⟩:=(HE.out.behind E.out).c6;have H:=(HE.out.behind E.out).lt;go_wp2_with fail;refine(f.out _ r.out).mono ?_;rintro z w3 ⟨rfl,V⟩
      have J:=zc ((U.out.below E.out).below V);clear V K Q P H;obtain⟨⟨va,vc,h6⟩,s7,-⟩:=J.out.1.zqi;rw[h6,<-hr.out]at s7;have hi:=J.out.1.zqq.2;obtain⟨h5,s6,hU⟩:=J.out.1.zsg;have HU:=zc hU;have HP:=zc (Pi.zrw nn (b+2) w3 0 L.pp 64 S.pool h5 hc.out (by omega) (Nat.zero_le _));rw[ha.out,hh.out,m.out.1,m.out.2]at HP;clear h6 h5 hU;go_wp2_with fail;refine HP.out.mono ?_;rintro z w4 ⟨rfl,h3,X⟩;have hf:Hid (zn w F s S L w4):=zc (J.out.then (HU.out _ _ X h3));clear h3 X s7 hi s6;go_wp2_with fail;go_ret2;exact⟨L,rfl,hf.out.below (zk _ _)⟩
   ·have d:O=(S,0,1):=by rw[N];unfold Sc.spawn;simp only[hg];rw[if_pos (by unfold qI;exact decide_eq_false Y)]
    subst d;have HW:=zc (zdy e.n w1 (by omega));unfold uT;clear N hg ok C I Z;go_enter func45,ntmps45;go_wp2_with fail;rw[show w.alloc (.cells (zpu e) 35)=w1 from A.symm,<-M];clear A M;refine t.out.mono ?_;rintro z w2 ⟨rfl,B⟩;obtain rfl:=B.symm;go_wp2_with fail;refine HW.out.mono ?_;rintro z w3 ⟨rfl,hn⟩;obtain rfl:=hn.symm;go_wp2;go_ret2;exact⟨L,rfl,U.out⟩
  ·have d:O=(S,0,1):=by rw[N];unfold Sc.spawn;simp only[hg];rw[if_pos (by unfold qI;exact decide_eq_false (by omega))]
   subst d;have h1:=zm8 e.n;have h9:=uy h1.1 h1.2;have ht:(e.n == IntKind.i8.wrap e.n)=false:=by simp;omega
   unfold uT;clear N hg ok C I Z;go_enter func45,ntmps45;go_wp2_with fail;rw[show w.alloc (.cells (zpu e) 35)=w1 from A.symm,<-M];clear A M;refine t.out.mono ?_;rintro z w2 ⟨rfl,B⟩;obtain rfl:=B.symm;go_wp2;go_ret2;exact⟨L,rfl,U.out⟩
theorem zjf:(prog.info? 59).map (fun i=>(i.zero,i.size,i.bytes))=some (some (.pointer none),1,8):=by kernel_rfl
theorem zq.zs4{w:World}{F:Nat->Prop}{s:Nat}{S:Sc}{L:Lay}(h:zq w F s S L):∀x w',zpa 0 L.tp w w'->zqn w' 0 L.t L.tp x->zn w F s { S with tree:=x } L w':=by obtain⟨tg,h⟩:=h;exact fun x w' B A=>h.updR B A
theorem zq.fields{w:World}{F:Nat->Prop}{s:Nat}{S:Sc}{L:Lay}(h:zq w F s S L):w.cell? ⟨s,0,none⟩=some (.int .i64 S.ps)/\w.cell? ⟨s,5,none⟩=some (ptr L.t):=by obtain⟨tg,h⟩:=h;exact⟨h.sx.c0,h.sx.c5⟩
def Sc.zpp(S:Sc)(I u k:Nat):Sc:={ S with hs:=fun p=>if p<k then(S.hs p).link I u else S.hs p }
theorem zhC(S:Sc)(I u k:Nat):(S.zpp I u k).zpf k (((S.zpp I u k).hs k).link I u)=S.zpp I u (k+1):=by
 unfold Sc.zpp Sc.zpf;simp only[Nat.lt_irrefl,if_false]
 congr 1
 funext p;by_cases h:p=k
 ·subst h;rw[zy,if_pos (by omega)]
 ·rw[zA _ _ h];by_cases A:p<k
  ·rw[if_pos A,if_pos (by omega)]
  ·rw[if_neg A,if_neg (by omega)]
theorem zjg{S:Sc}{b:Nat}(ok:S.Fit b){u:Nat}{y:Gp}(V:S.gs[u]?=some y)(J:y.there=true)(Y:S.tree.zq3 y.hi y.hg=0){I:Nat}(Z:I=S.tree.zqx y.hi y.hg):
 I≠0/\I<32/\S.pl I=none/\∀p,p<S.ps->∃E:Gr,(S.hs p).gs y.hi=some E/\(S.hs p).gs I=none/\E.deep<8:=by
 have G:=ok.1.ztE V J Y;have D:=G.ne0;have H:=G.lt;have A:=G.none;rw[<-Z]at D H A;have N:=(ok.1.gk u y V J).2;refine⟨D,H,A,fun p hp=>?_⟩;have U:=ok.1.hk p hp y.hi;rw[N]at U;obtain⟨E,B⟩:=Option.isSome_iff_exists.1 U;have M:=ok.1.hk p hp I;rw[A]at M;have O:(S.hs p).gs I=none:=by
  cases hh:(S.hs p).gs I with
  | none=>rfl
  | some z=>rw[hh]at M;cases M
 have hd:E.deep=dep S.tree.l y.hi:=by
  by_cases T:y.hi=0
  ·obtain⟨r,X,_,R⟩:=(ok.2 p hp).root;rw[T]at B ⊢;rw[B]at X;obtain rfl:=Option.some.inj X;rw[R,(ok.1.tr.zr2 ok.1.tr.ztp).2.2 rfl];rfl
  ·exact(ok.1.hu p hp _ E B T).2
 have:=G.dp;exact⟨E,B,O,by omega⟩
theorem zq.box{D B E:World}{F:Nat->Prop}{s:Nat}{S:Sc}{L:Lay}(I:zn D F s S L B){H:Nat}(h2:H<D.heap.size)(M:¬F H)(J:zo8 (fun k=>k=H) B E):zq E (Ext F D B) s S L:=by
 have G:zY (Ext F D B) B E:=fun k G A=>J.block k G (by
  rintro rfl;rcases A with A | A
  ·exact M A
  ·have:=A.1;omega)
 exact I.1.kept G
theorem zn.box{w1 D E G:World}{F:Nat->Prop}{s:Nat}{S:Sc}{L:Lay}(M:Below w1.heap.size w1 D)(J:zn D F s S L E){H:Nat}(N:w1.heap.size<=H)(h2:H<D.heap.size)(O:¬F H)(I:zo8 (fun k=>k=H) E G):zn w1 F s S L G:=by
 have B:zY (Ext F D E) E G:=fun k B A=>I.block k B (by
  rintro rfl;rcases A with A | A
  ·exact O A
  ·have:=A.1;omega)
 have hs:=M.size;have h0:=J.2.size;have h4:=I.size;refine⟨(J.1.kept B).mono fun k B A=>?_,?_⟩
 ·rcases A with A | ⟨a,b⟩
  ·exact .inl A
  ·exact .inr ⟨by omega,by omega⟩
 ·exact((zo8.zo7 M:zo8 F w1 D).trans J.2 fun k B=>.inl B).trans I fun k B=>.inr (by subst B;exact N)
theorem zlr(
 e:Ev) (b:Nat) (w:World) (F:Nat->Prop) (s:Nat) (S:Sc) (L:Lay) (h:zq w F s S L) (ok:S.Fit b) (Kz:b<900)
 (u:Nat) (y:Gp) (hg:S.grp? e.a=some u) (hy:S.gs[u]?=some y) (k2:y.there=true) (hn:2<=e.n/\e.n<=262144) (hE:S.tree.zq3 y.hi y.hg=0) (ku:∀(n:Nat) (t:Tk),S.ts[n]?=some t->t.zpc<S.gs.length):
 Calls prog 39 #[ptr s,.agg (zpu e)] w (uT w F s (S.zpO u e.n,S.gs.length,0)):=by
 obtain⟨w1,Hd⟩:=zh (w.alloc (.cells (zpu e) 35))
 have km:Below w.heap.size w w1:=by rw[Hd];exact zk w _
 have hr:zp1 w1 w.heap.size e:=by rw[Hd];exact zp1.new w e
 obtain⟨P,ht⟩:∃P:Nat->Prop,P=fun k=>F k/\k<w.heap.size:=⟨_,rfl⟩
 have K0:Hid (∀k,P k->F k):=zc (by rw[ht];exact fun k hk=>hk.1);have H2:Hid (∀k,P k->k<w.heap.size):=zc (by rw[ht];exact fun k hk=>hk.2);have q:Hid (zq w1 P s S L):=zc (by rw[ht];exact h.zpy.behind km);have K:=zc km;have HG:=zc (yN e.a w1 P s S L q.out (by have:=ok.1.gl;have:=ok.1.zqg;omega));rw[hg,show zaV L.gb (some u)=ptr (L.gb u)from rfl]at HG;obtain⟨D,hD⟩:=zh w.heap.size
 have mj:Hid (¬P D):=zc (by rw[ht,hD];intro hk;omega);rw[<-hD]at hr;have kz:=zc hr;obtain⟨-,e1,-,e3,-,-⟩:=hr.c6;have hc:=hr.lt;have Kf:xg e.n=true:=by unfold xg;exact decide_eq_true hn
 have Ku:=zc (uP e.n w1);rw[Kf]at Ku;have Md:IntKind.u64.wrap e.n=e.n:=by simp only[IntKind.wrap,IntKind.signed,IntKind.bits];simp;omega
 obtain⟨Kr,s5,U⟩:=q.out.zsL;obtain⟨-,g1,g2,-⟩:=(q.out.gp hy).c7;have r:=(q.out.gp hy).lt;have kn:Hid (∀W2,Below w1.heap.size w1 W2->_):=zc fun W2 hb=>zdu y.hi y.hg (b+2) W2 0 L.t L.tp S.tree (Kr.behind hb) ok.1.tok (by have:=ok.1.zqg;omega) ok.1.tr;obtain⟨I,hI⟩:=zh (S.tree.zqx y.hi y.hg)
 obtain⟨G,hG⟩:=zh (S.tree.zro y.hi y.hg)
 obtain⟨T,hT⟩:=zh (S.tree.zrq y.hi y.hg)
 have Kb:=zc (zjg ok hy k2 hE hI);rw[<-hI,<-hG,<-hT,hE]at kn;have HI:=zc hI;have mw:=zc hG;have M9:=zc hT;have HY:=zc hy;have Mk:=zc k2;have Mb:=zc ku;have mf:=zc ok;obtain⟨E,K4⟩:∃E,E=({ S with tree:=T }:Sc):=⟨_,rfl⟩
 have J:=zc K4;obtain⟨f,k7⟩:=zh S.gs.length
 have He:=zc k7;have Ky:f<=901:=by have:=ok.1.gl;have:=ok.1.zqg;omega
 obtain⟨ps,Hv⟩:=zh S.ps
 have h9:=zc Hv;have H7:1<=ps/\ps<=64:=by rw[Hv];exact ok.1.ps
 unfold uT;obtain⟨O,hO⟩:=zh (S.zpO u e.n)
 have HO:=zc hO;rw[<-hO,<-k7];clear h ok km hr ht hg hy k2 hE hI hG hT K4 k7 Hv hO ku Kr Kf;go_enter func39,ntmps39;go_wp2_with fail;rw[show w.alloc (.cells (zpu e) 35)=w1 from Hd.symm,<-hD];clear Hd hD;refine HG.out.mono ?_;rintro z w2 ⟨rfl,kd⟩;obtain rfl:=kd.symm;go_wp2_with fail;refine Ku.out.mono ?_;rintro z w2 ⟨rfl,kd⟩;obtain rfl:=kd.symm;go_wp2_with fail;go_upto_region 6 with(fail)
 go_cut [7,8]from 24 to 35 (fun v7 v8 wc=>∃(H:Nat) (F4:Nat->Prop),v7=.pointer (some ⟨H,0,none⟩)/\v8=.int .i64 0/\w1.heap.size<=H/\zq wc F4 s E L/\¬F4 H/\(∀k,F4 k->k<wc.heap.size/\(P k∨w1.heap.size<=k))/\zo8 P w1 wc/\wc.heap[H]?=some (.cells #[.int .i64 I,.int .i64 G] 78 (0,0)))
 case first=>
  go_region_held3 (fun w'=>w'.cell? ⟨s,5,none⟩=some (ptr L.t)/\w'.cell? ⟨L.gb u,1,none⟩=some (.int .i64 y.hi)/\w'.cell? ⟨L.gb u,2,none⟩=some (.int .i64 y.hg)) (go_keep)
   (first
    | (
     go_at_call 72;have k8:Below w1.heap.size w1 (w1.alloc (.cells #[.int .i64 0,.int .i64 0] 78)).drew:=zv (zk w1 _);have ke:=zc k8;refine(kn.out _ k8).mono ?_;rintro z N ⟨rfl,H0,hx⟩;have H3:Hid (zn (w1.alloc (.cells #[.int .i64 0,.int .i64 0] 78)).drew P s E L N):=zc (by have M:=(q.out.behind ke.out).zs4 _ _ hx H0;rw[J.out];exact M);have X:Hid (zn w1 P s E L N):=zc (zn.zo7 ke.out H3.out);have V:N.heap[w1.heap.size]?=some (.cells #[.int .i64 0,.int .i64 0] 78 (0,0)):=by rw[H3.out.2.block w1.heap.size (by simp) (fun hk=>by have M:=H2.out _ hk;have h2:=K.out.size;omega)];exact heap_alloc_new w1 _
     have ka:=zc V;have R:N.cell? ⟨w1.heap.size,0,none⟩=some (.int .i64 0):=by simp[World.cell?,V]
     have Hn:N.cell? ⟨w1.heap.size,1,none⟩=some (.int .i64 0):=by simp[World.cell?,V]
     have l:w1.heap.size<N.heap.size:=(zd V).1;have Mr:∀j,N.frozen? ⟨w1.heap.size,j,none⟩=false:=by intro j;simp[World.frozen?,V]
     have mu:s≠w1.heap.size:=by have:=q.out.zqq.2;omega
     have mr:L.gb u≠w1.heap.size:=by have:=(q.out.gp (n:=u) (g:=y) HY.out).lt;omega
     have Mh:=Ne.symm mu;have Mp:=Ne.symm mr;clear k8 V;clear H0 hx s5 g1 g2 r U;obtain⟨-,s5,U⟩:=X.out.1.zsL;obtain⟨-,g1,g2,-⟩:=(X.out.1.gp (n:=u) (g:=y) (by rw[J.out];exact HY.out)).c7;have r:=(X.out.1.gp (n:=u) (g:=y) (by rw[J.out];exact HY.out)).lt)
    | (
     go_at_call 72;refine(kn.out _ (⟨rfl,rfl,rfl,zg _,fun _ _=>rfl⟩:Below w1.heap.size w1 w1.drew)).mono ?_;rintro z N ⟨rfl,H0,hx⟩;have X:Hid (zn w1 P s E L N):=zc (by have M:=zn.zo7 (⟨rfl,rfl,rfl,zg _,fun _ _=>rfl⟩:Below w1.heap.size w1 w1.drew) ((q.out.behind (⟨rfl,rfl,rfl,zg _,fun _ _=>rfl⟩:Below w1.heap.size w1 w1.drew)).zs4 _ _ hx H0);rw[J.out];exact M);clear H0 hx s5 g1 g2 r U;obtain⟨-,s5,U⟩:=X.out.1.zsL;obtain⟨-,g1,g2,-⟩:=(X.out.1.gp (n:=u) (g:=y) (by rw[J.out];exact HY.out)).c7;have r:=(X.out.1.gp (n:=u) (g:=y) (by rw[J.out];exact HY.out)).lt;have Mj:N.heap.size≠s:=by omega
     have Mi:N.heap.size≠L.gb u:=by omega
     have kk:Hid (w1.heap.size<=N.heap.size):=zc X.out.2.size))
  ·go_wp2_with fail;go_meet
   case rel=>
    refine⟨N.heap.size,Ext P w1 N,rfl,rfl,kk.out,X.out.1.behind (zk N _),fun A=>?_,fun k A=>?_,X.out.2.alloc _,heap_alloc_new N _⟩
    ·rcases A with A | A
     ·have M:=H2.out _ A;have h2:=K.out.size;have h3:=kk.out;omega
     ·have:=A.2;omega
    ·rcases A with A | A
     ·have M:=H2.out _ A;have h2:=K.out.size;have h3:=kk.out;exact⟨by simp;omega,.inl A⟩
     ·exact⟨by have:=A.2;simp;omega,.inr A.1⟩
  ·go_wp2_with fail;go_meet
   case rel=>
    have k6:¬P w1.heap.size:=fun hk=>by have M:=H2.out _ hk;have h2:=K.out.size;omega
    have kf:=(zo8.refl (fun k=>k=w1.heap.size) N).one (o:=0) (u:=.int .i64 I) |>.one (o:=1) (u:=.int .i64 G)
    have mm:=zn.box ke.out H3.out (zg _) (by simp) k6 kf;have ha:=kf.size;have Mf:=H3.out.2.size;refine⟨w1.heap.size,Ext P (w1.alloc (.cells #[.int .i64 0,.int .i64 0] 78)).drew N,rfl,rfl,zg _,zq.box H3.out (by simp) k6 kf,fun A=>?_,fun k A=>?_,mm.2,zi (zi ka.out)⟩
    ·rcases A with A | A
     ·exact k6 A
     ·have:=A.1;simp at this;omega
    ·rcases A with A | A
     ·have M:=H2.out _ A;have h2:=K.out.size;have h3:=X.out.2.size;exact⟨by omega,.inl A⟩
     ·exact⟨by have:=A.2;omega,.inr (by have:=A.1;simp at this;omega)⟩
 case rest=>
  rename World=>N
  obtain⟨H,F4,rfl,rfl,H9,Ko,Hb,kv,ki,V⟩:=hcut;clear e1 e3 hc s5 g1 g2 r U;have Ka:=zc kv;have h0:=zc Hb;have Kg:=zc ki;have Hf:=zc Ko;have K1:Hid (zp1 N D e):=zc ((ki.block D kz.out.lt mj.out).trans kz.out);have ka:=zc V;have Mm:=zc H9;have R:N.cell? ⟨H,0,none⟩=some (.int .i64 I):=by simp[World.cell?,V]
  have Hn:N.cell? ⟨H,1,none⟩=some (.int .i64 G):=by simp[World.cell?,V]
  have l:H<N.heap.size:=(zd V).1;obtain⟨-,-,-,e3,-,-⟩:=K1.out.c6;have hc:=K1.out.lt;obtain⟨⟨va,vc,Hq⟩,s8,-⟩:=Hf.out.zrB;rw[show E.gs.length=f by rw[J.out,He.out]]at Hq;have Hl:=zc Hq;rw[Hq]at s8;have U:=Hf.out.zqq.2;have M0:=zc (fun W=>zmC W);clear kv Hb ki Ko V H9 Hq;go_upto_region 9 with(fail)
  go_cut [9]from 39 to 50 (fun v9 wd=>∃B ln,v9=.pointer (some ⟨B,0,none⟩)/\N.heap.size<=B/\N.heap.size<=ln/\B≠ln/\Below N.heap.size N wd/\zG wd ln []/\wd.heap[B]?=some (.cells #[.int .i64 f,.int .i64 I,.int .i64 G,.int .u64 e.n,.int .i64 0,.pointer none,.pointer (some ⟨ln,0,none⟩)] 86 (0,0)))
  case first=>
   go_region_held3 (fun w'=>w'.cell? ⟨s,8,none⟩=some (.slice va f vc)/\w'.cell? ⟨H,0,none⟩=some (.int .i64 I)/\w'.cell? ⟨H,1,none⟩=some (.int .i64 G)/\w'.cell? ⟨D,3,none⟩=some (.int .i64 e.n)) (go_keep)
    (first
     | (
      go_at_call 73;refine(M0.out _).mono ?_;rintro z w5 ⟨ln,rfl,Ki,Z,Y⟩;have c:Hid (Below N.heap.size N w5):=zc ⟨Y.os,Y.tape,Y.output,Y.size,Y.block⟩;have k3:=zc (show N.heap.size<=ln from Ki);have H4:=zc Z;replace s8:=(c.out.cell (p:=⟨s,8,none⟩) U).trans s8;replace R:=(c.out.cell (p:=⟨H,0,none⟩) l).trans R;replace Hn:=(c.out.cell (p:=⟨H,1,none⟩) l).trans Hn;replace e3:=(c.out.cell (p:=⟨D,3,none⟩) hc).trans e3;replace U:=zf U c.out.size;replace l:=zf l c.out.size;replace hc:=zf hc c.out.size;clear Ki Z Y))
   go_wp2_with fail;go_meet
   case rel=>
    have mg:=H4.out.lt;have ha:=c.out.size;exact⟨w5.heap.size,ln,rfl,ha,k3.out,by omega,zj c.out (zk w5 _) ha,H4.out.of (Below.heap_alloc _ _ _ mg),heap_alloc_new w5 _⟩
  case rest=>
   rename World=>wd
   obtain⟨B,ln,rfl,H6,Hc,H8,Y,Z,hh⟩:=hcut;clear s8 R Hn e3 hc l U;have Ks:=zc (Hf.out.behind Y);have c:=zc Y;have H4:=zc Z;have kj:=zc hh;obtain⟨s0,-⟩:=Ks.out.fields;rw[show E.ps=ps by rw[J.out,h9.out]]at s0;have U:=Ks.out.zqq.2;have HQ:=zc (Qt.zq8 ps wd H7.1 H7.2);have ha:=Y.size;have HZ:=zc (And.intro H6 Hc);have mq:=zc H8;clear Y Z hh;go_wp2_with fail;refine HQ.out.mono ?_;rintro z w6 ⟨rfl,h5,k4⟩
   have hj:w6.heap[B]?=some (.cells #[.int .i64 f,.int .i64 I,.int .i64 G,.int .u64 e.n,.int .i64 0,.pointer none,.pointer (some ⟨ln,0,none⟩)] 86 (0,0)):=(k4.block B (zd kj.out).1).trans kj.out;have Ht:=zc k4;have H5:=zc h5;have mn:=zc hj;have ma:w6.cell? ⟨B,5,none⟩=some (.pointer none):=by simp[World.cell?,hj]
   have mc:B<w6.heap.size:=(zd hj).1;have M3:∀j,w6.frozen? ⟨B,j,none⟩=false:=by intro j;simp[World.frozen?,hj]
   clear h5 k4 hj s0 U;go_upto_region 11 with(fail)
   obtain⟨bd,Hg⟩:=zh wd.heap.size
   rw[<-Hg];obtain⟨d,ho⟩:=zh (w6.setCell ⟨B,5,none⟩ (.pointer (some ⟨bd,0,none⟩)))
   rw[<-ho];have Hs:=H4.out.lt;have ml:=(zd kj.out).1;have Hk:B≠bd:=by omega
   have K7:ln≠bd:=by omega
   have Kc:d.heap[B]?=some (.cells (vS f bd ln ⟨I,G,e.n,0,some ⟨0,0,0,0,List.replicate ps 0⟩,[],true⟩) 86 (0,0)):=by rw[ho];exact zi mn.out
   have kc:zo8 (fun k=>k=B) w6 d:=by rw[ho];exact(zo8.refl (fun k=>k=B) w6).one
   have Hr:Below N.heap.size N d:=by have M:=zj c.out Ht.out ha;rw[ho];exact M.setCell (p:=⟨B,5,none⟩) (by show _<=B;exact H6) _
   have K3:Qt.zo9 d bd ⟨0,0,0,0,List.replicate ps 0⟩:=by rw[Hg]at Hk ⊢;exact H5.out.kept (kc.block _ H5.out.lt (Ne.symm Hk))
   have Km:zG d ln []:=H4.out.of ((kc.block _ (zf Hs Ht.out.size) (fun e'=>H8 e'.symm)).trans (Ht.out.block ln Hs));have kh:=zc Kc;have Kl:=zc Hr;have Hu:=zc K3;have kl:=zc Km;have Hj:=zc (Hf.out.behind Hr);have K2:=zc (And.intro Hk (Ne.symm K7));have k9:Hid (N.heap.size<=bd):=zc (by rw[Hg];exact ha);have Ha:0<E.ps:=by rw[J.out];show 0<S.ps;rw[<-h9.out];omega
   obtain⟨rh,ch,Hp⟩:=Hj.out.zsH Ha;rw[show E.ps=ps by rw[J.out,h9.out]]at Hp;have mi:=zc Hp;obtain⟨h7,-,-⟩:=Hj.out.zqF Ha Hp;have U:=Hj.out.zqq.2;have R:d.cell? ⟨H,0,none⟩=some (.int .i64 I):=by have hH:=ka.out;have:=Hr.block H (zd hH).1;simp[World.cell?,this,hH]
   have Q:=zc R;clear ho Hg ma mc M3 Hs ml Hk K7 Kc kc Hr K3 Km Hp;go_wp2_with fail;clear h7 U R;go_loopw [11,68] (fun _ i wr=>∃(k:Nat),k<=ps/\i=.int .i64 k/\zn d F4 s (E.zpp I y.hi k) L wr) (fun _ i _=>ps-(intOf i).toNat)
   case atStart=>exact⟨0,by omega,rfl,zn.refl Hj.out⟩
   case round=>
    obtain⟨k,hk,rfl,hl⟩:=hrel;have x:=zc hl;clear hl;by_cases K6:k<ps
    ·have Mq:(k:Int) <(ps:Int):=by omega
     have k0:k<(E.zpp I y.hi k).ps:=by show k<E.ps;rw[J.out];show k<S.ps;rw[<-h9.out];exact K6
     obtain⟨h7,rp,M7⟩:=x.out.1.zqF k0 mi.out;have R:wr.cell? ⟨H,0,none⟩=some (.int .i64 I):=by rw[<-Q.out];have:=x.out.2.block H (World.block_lt_of_cell? d _ Q.out) h0.out;simp[World.cell?,this]
     have Hz:(E.zpp I y.hi k).gs[u]?=some y:=by show E.gs[u]?=some y;rw[J.out];exact HY.out
     obtain⟨-,g1,-,-⟩:=(x.out.1.gp Hz).c7;have r:=(x.out.1.gp Hz).lt;have l:=World.block_lt_of_cell? wr _ R;obtain⟨Gk,hH,hU⟩:=x.out.1.zq5 k0;have HU:=zc hU;obtain⟨kg,C,M1,kx⟩:=Kb.out;obtain⟨yr,Kq,K9,Kd⟩:=kx k (by rw[<-h9.out];exact K6);have k1:(E.zpp I y.hi k).hs k=S.hs k:=by unfold Sc.zpp;show(if k<k then _ else E.hs k)=_;rw[if_neg (Nat.lt_irrefl k),J.out]
     have k3:=zc (zkp I y.hi wr.drew Gk (L.hb k) _ yr (hH.kept fun _ _ _=>rfl) (by rw[k1];exact K9) (by rw[k1];exact Kq) Kd kg C);clear k0 Hz hH hU kg C M1 kx Kq K9 Kd k1;go_wp2_with fail;go_region_held3 (fun w'=>w'.cell? ⟨H,0,none⟩=some (.int .i64 I)/\w'.cell? ⟨L.gb u,1,none⟩=some (.int .i64 y.hi)) (go_keep)
      (first
       | (
        go_at_call 75;refine k3.out.mono ?_;rintro z w9 ⟨rfl,K5⟩;have Hh:Hid (zn d F4 s (E.zpp I y.hi (k+1)) L w9):=zc (by rw[<-zhC];exact x.out.then (HU.out _ _ (yW.zo7 (F:=Gk) (⟨rfl,rfl,rfl,zg _,fun _ _=>rfl⟩:Below wr.heap.size wr wr.drew) K5)));clear K5 h7 rp M7 R g1 r l;have R:w9.cell? ⟨H,0,none⟩=some (.int .i64 I):=by rw[<-Q.out];have:=Hh.out.2.block H (World.block_lt_of_cell? d _ Q.out) h0.out;simp[World.cell?,this]
        obtain⟨-,g1,-,-⟩:=(Hh.out.1.gp (show(E.zpp I y.hi (k+1)).gs[u]?=some y by show E.gs[u]?=some y;rw[J.out];exact HY.out)).c7;have r:=(Hh.out.1.gp (show(E.zpp I y.hi (k+1)).gs[u]?=some y by show E.gs[u]?=some y;rw[J.out];exact HY.out)).lt;have l:=World.block_lt_of_cell? w9 _ R))
     all_goals
      go_wp2_with fail;go_roundw
      case rel=>exact⟨k+1,by omega,by go_num,Hh.out⟩
      case measure=>simp[intOf];omega
    ·have M6:k=ps:=by omega
     subst M6;have hO:=x.out.1;have U:=hO.zqq.2;obtain⟨s8⟩:Nonempty (PLift (wr.cell? ⟨s,8,none⟩=some L.vg)):=⟨⟨hO.c8⟩⟩
     replace s8:=s8.down;rw[Hl.out]at s8;have R:wr.cell? ⟨H,0,none⟩=some (.int .i64 I):=by rw[<-Q.out];have:=x.out.2.block H (World.block_lt_of_cell? d _ Q.out) h0.out;simp[World.cell?,this]
     have nF:∀z,N.heap.size<=z->¬F4 z:=fun z m A=>by have:=(Ka.out z A).1;omega
     have hh:wr.heap[B]?=some (.cells (vS f bd ln ⟨I,G,e.n,0,some ⟨0,0,0,0,List.replicate k 0⟩,[],true⟩) 86 (0,0)):=(x.out.2.block B (zd kh.out).1 (nF B HZ.out.1)).trans kh.out;have Ke:Qt.zo9 wr bd ⟨0,0,0,0,List.replicate k 0⟩:=Hu.out.kept (x.out.2.block bd Hu.out.lt (nF bd k9.out));have Kj:zG wr ln []:=kl.out.of (x.out.2.block ln kl.out.lt (nF ln HZ.out.2));have Mn:=x.out.2.size;have n5:∀z,N.heap.size<=z->z<d.heap.size->¬Ext F4 d wr z:=fun z M h2 A=>by
      rcases A with A | A
      ·exact nF z M A
      ·have:=A.1;omega
     have k5:=zc (n5 B HZ.out.1 (zd kh.out).1);have mb:=zc (n5 bd k9.out Hu.out.lt);have mx:=zc (n5 ln HZ.out.2 kl.out.lt);have ky:=zc hh;have M4:=zc Ke;have me:=zc Kj;have v:=hO.ztL.1;have hv:(E.zpp I y.hi k).gs=S.gs:=by show E.gs=_;rw[J.out]
     have Hw:(E.zpp I y.hi k).pl=S.pl:=by show E.pl=_;rw[J.out]
     rw[hv,<-He.out,Hl.out]at v;have my:=zc v;have Hy:=zc hv;have Ml:=zc Hw;have Kn:=zc hO.tyS;have Kh:∀z,(Value.slice va f vc).ownBlock=some z->z≠s/\z<wr.heap.size/\Ext F4 d wr z:=fun z m=>by refine⟨fun e'=>?_,(v.lt z m).2,hO.ztL.2 z (by rw[Hl.out];exact m)⟩;subst e';obtain⟨cs,M⟩:=Kn.out;exact zz v M (by decide) m
     have h8:=zc Kh;have C:=Kb.out.2.1;have Mg:(I:Int) <32:=by omega
     have kg:(0:Int)<=(I:Int):=by omega
     have mh:Hid (¬Ext F4 d wr H):=zc (fun A=>by
      rcases A with A | A
      ·exact h0.out A
      ·have M:=World.block_lt_of_cell? d _ Q.out;have h2:H<d.heap.size:=M;have:=A.1;omega)
     obtain⟨i0,hi,M5,mz,Ma⟩:=info_parts zjf;have ks:=World.block_lt_of_cell? wr _ R;have kp:B<wr.heap.size:=(zd hh).1;have mo:Hid (∀i n,(E.zpp I y.hi k).pl i=some n->n<(E.zpp I y.hi k).gs.length):=zc fun i n hp=>by rw[Hw]at hp;obtain⟨g',M,_⟩:=mf.out.1.pl i n hp;rw[hv];exact(ze M).1
     have ko:Hid (∀(n:Nat) (t:Tk),(E.zpp I y.hi k).ts[n]?=some t->t.zpc<(E.zpp I y.hi k).gs.length):=zc fun n t hq=>by rw[hv];exact Mb.out n t (by rw[show(E.zpp I y.hi k).ts=S.ts by show E.ts=_;rw[J.out]]at hq;exact hq)
     have kt:Hid (∀w9 L',zn wr (fun z=>Ext F4 d wr z∨z=B∨z=bd∨z=ln) s { E.zpp I y.hi k with gs:=(E.zpp I y.hi k).gs++ [(⟨I,G,e.n,0,some ⟨0,0,0,0,List.replicate k 0⟩,[],true⟩:Gp)],pl:=zpt (E.zpp I y.hi k).pl I (some (E.zpp I y.hi k).gs.length) } L' w9->zn w F s O L' w9):=zc fun w9 L' hl=>by
      have kr:S.zpO u e.n={ E.zpp I y.hi k with gs:=(E.zpp I y.hi k).gs++ [(⟨I,G,e.n,0,some ⟨0,0,0,0,List.replicate k 0⟩,[],true⟩:Gp)],pl:=zpt (E.zpp I y.hi k).pl I (some (E.zpp I y.hi k).gs.length) }:=by unfold Sc.zpO Sc.zpp;rw[Sc.zpj HY.out,<-HI.out,<-mw.out,<-M9.out,J.out,h9.out]
      rw[HO.out,kr];have z1:=K.out.size;have z3:=Kg.out.size;have z7:=Kl.out.size;have zr:=x.out.2.size;have z9:=hl.2.size;have f4:∀z,F4 z->F z∨w.heap.size<=z:=fun z m=>by
       rcases(Ka.out z m).2 with M | M
       ·exact .inl (K0.out z M)
       ·exact .inr (by omega)
      have t1:zo8 F w w1:=zo8.zo7 K.out;have t3:=t1.trans Kg.out fun z m=>.inl (K0.out z m);have t7:=t3.trans (zo8.zo7 Kl.out:zo8 F N d) fun z m=>.inl m;have tr:=t7.trans x.out.2 f4;have b1:=HZ.out.1;have b2:=HZ.out.2;have b3:=k9.out;refine⟨hl.1.mono fun z m A=>?_,tr.trans hl.2 fun z m=>?_⟩
      ·rcases A with((M | M) | M | M | M) | M
       ·rcases f4 z M with h2 | h2
        ·exact .inl h2
        ·exact .inr ⟨h2,m⟩
       ·exact .inr ⟨by have:=M.1;omega,m⟩
       ·exact .inr ⟨by omega,m⟩
       ·exact .inr ⟨by omega,m⟩
       ·exact .inr ⟨by omega,m⟩
       ·exact .inr ⟨by have:=M.1;omega,m⟩
      ·rcases m with(M | M) | M | M | M
       ·exact f4 z M
       ·exact .inr (by have:=M.1;omega)
       ·exact .inr (by omega)
       ·exact .inr (by omega)
       ·exact .inr (by omega)
     clear hO hh Ke Kj nF n5 v hv Hw Kh;go_wp2_with fail;go_region_law (
      refine step_append_lies _ (by rfl) _ _ _ (by rfl) 0 59 i0 _ 1 8 underlying58 hi M5 mz Ma rfl (by omega) (.slice va f vc) f (yq (yx L.gb S.gs)) (by rfl) ((show wr.drew.ownsRow 0 59 1 (.slice va f vc) f (yq (yx L.gb S.gs))from my.out).alloc _)
       ⟨wr.heap.size,0,none⟩ 1 1 [ptr B] (by rfl) (by rfl) (World.news_of_block (cs:=#[ptr B]) (t:=59) (fr:=(0,0)) (heap_alloc_new wr.drew _)) (by simp[Value.oneCell'])
       (by omega) (by unfold maxLen;omega) (by omega) (by first | omega | (simp;omega)) (wr.heap.size+1) (by first | rfl | simp) ?_
      intro g2 cap2 w8 h4 h6 Kw Mo;have Mc:=zc h4;have Hi:Hid (zo8 (fun k=>(Value.slice va f vc).ownBlock=some k) wr w8):=zc (((zo8.refl (fun k=>(Value.slice va f vc).ownBlock=some k) wr).drew.alloc _).grown h6 fun k hk=>.inl hk);have kq:=zc Kw;have Ho:w8.heap[s]?=wr.heap[s]?:=Hi.out.block s U (fun e'=>(h8.out s e').1 rfl);have Kk:w8.heap[H]?=wr.heap[H]?:=Hi.out.block H ks (fun e'=>mh.out (h8.out H e').2.2);have K8:w8.heap[B]?=wr.heap[B]?:=Hi.out.block B kp (fun e'=>k5.out (h8.out B e').2.2);have Kt:s≠B:=fun e'=>k5.out (by rw[<-e'];exact x.out.1.ztf.1)
      replace R:w8.cell? ⟨H,0,none⟩=some (.int .i64 I):=by rw[<-R];simp[World.cell?,Kk]
      replace s8:w8.cell? ⟨s,8,none⟩=some (.slice va f vc):=by rw[<-s8];simp[World.cell?,Ho]
      have cI:w8.cell? ⟨s,9+I,none⟩=some (.pointer (((E.zpp I y.hi k).pl I).map fun n=>⟨L.gb n,0,none⟩)):=by rw[<-x.out.1.plC C];simp[World.cell?,Ho]
      have mv:∀j,w8.frozen? ⟨s,j,none⟩=false:=by intro j;obtain⟨cs,M8⟩:=Kn.out;simp[World.frozen?,Ho,M8]
      have Kp:w8.cell? ⟨B,0,none⟩=some (.int .i64 f):=by simp[World.cell?,K8,ky.out]
      clear h4 h6 Kw Ho Kk K8)
     all_goals
      obtain⟨L',hl⟩:=x.out.1.ztM (B:=B) (bd:=bd) (ln:=ln) (I:=I) k5.out mb.out mx.out K2.out.1 mq.out K2.out.2 (g:=⟨I,G,e.n,0,some ⟨0,0,0,0,List.replicate k 0⟩,[],true⟩) (by rw[Hy.out,<-He.out];exact ky.out) rfl rfl M4.out me.out mo.out ko.out Hl.out (by rw[Hy.out];exact He.out) Hi.out (by rw[Hy.out];exact Mc.out) kq.out C;have kb:=zc (kt.out _ _ hl);clear hl;have Kv:((w8.setCell ⟨s,8,none⟩ (.slice (some ⟨g2,0,none⟩) (f+1) cap2)).setCell ⟨s,9+I,none⟩ (ptr B)).cell? ⟨B,0,none⟩=some (.int .i64 f):=by rw[World.cell?_setCell_far _ _ _ _ Kt,World.cell?_setCell_far _ _ _ _ Kt];exact Kp
      clear R s8 cI mv Kp;generalize(w8.setCell ⟨s,8,none⟩ (.slice (some ⟨g2,0,none⟩) (f+1) cap2)).setCell ⟨s,9+I,none⟩ (ptr B)=w9 at kb Kv ⊢;have Me:=World.block_lt_of_cell? w9 _ Kv;go_wp2;go_ret2
      first | exact⟨rfl,L',kb.out⟩ | exact⟨L',rfl,kb.out⟩
theorem zof{s:Ps}{i:Nat}{g:Int}(h:s.zq3 i g≠0):s.zrq i g=s/\s.zqx i g=0/\s.zro i g=0:=by
 unfold Ps.zq3 at h;unfold Ps.zrq Ps.zqx Ps.zro;cases hk:s.find i g with
 | none=>exact⟨rfl,rfl,rfl⟩
 | some k=>
  rw[hk]at h;simp only at h ⊢;by_cases hd:dep s.l k=8
  ·simp only[if_pos hd];exact⟨trivial,trivial,trivial⟩
  ·simp only[if_neg hd]at h ⊢;unfold Ps.zqe at h;by_cases hm:s.many=32
   ·unfold Ps.put Ps.zp8 Ps.zqC;simp only[if_pos hm];exact⟨trivial,trivial,trivial⟩
   ·rw[if_neg hm]at h;exact absurd rfl h
theorem zjh(e:Ev)(b:Nat)(w:World)(F:Nat->Prop)(s:Nat)(S:Sc)(L:Lay)(h:zq w F s S L)(ok:S.Fit b)(P:b<900)(U:∀(n:Nat) (t:Tk),S.ts[n]?=some t->t.zpc<S.gs.length):
 Calls prog 39 #[ptr s,.agg (zpu e)] w (uT w F s (S.grow e)):=by
 obtain⟨w1,A⟩:=zh (w.alloc (.cells (zpu e) 35))
 have m:Below w.heap.size w w1:=by rw[A];exact zk w _
 have hE:zp1 w1 w.heap.size e:=by rw[A];exact zp1.new w e
 obtain⟨R,M⟩:∃R:Nat->Prop,R=fun k=>F k/\k<w.heap.size:=⟨_,rfl⟩
 have h8:Hid (∀k,R k->F k):=zc (by rw[M];exact fun k r=>r.1);have h4:Hid (∀k,R k->k<w.heap.size):=zc (by rw[M];exact fun k r=>r.2);have G:Hid (zq w1 R s S L):=zc (by rw[M];exact h.zpy.behind m);have h6:Hid (zn w F s S L w1):=zc ((zn.refl h).below m);have f:=zc m;have d:=zc ok;have HH:=zc h;have HG:=zc (yN e.a w1 R s S L G.out (by have:=ok.1.gl;have:=ok.1.zqg;omega));obtain⟨D,p⟩:=zh w.heap.size
 have hr:Hid (¬R D):=zc (by rw[M,p];intro r;omega);rw[<-p]at hE;have HE:=zc hE;obtain⟨-,e1,-,e3,-,-⟩:=hE.c6;have H2:=hE.lt;have c:=zc (uP e.n w1);clear h m hE M;obtain⟨O,q⟩:=zh (S.grow e)
 rw[<-q];cases hg:S.grp? e.a with
 | none=>
  have Q:O=(S,0,2):=by rw[q];unfold Sc.grow;rw[hg]
  subst Q;rw[hg]at HG;unfold uT;clear q hg ok U;go_enter func39,ntmps39;go_wp2_with fail;rw[show w.alloc (.cells (zpu e) 35)=w1 from A.symm,<-p];clear A p;refine HG.out.mono ?_;rintro z w2 ⟨rfl,hw⟩;obtain rfl:=hw.symm;go_wp2;go_ret2;exact⟨L,rfl,h6.out⟩
 | some u=>
  obtain⟨-,y,W,X,V⟩:=yw hg;have hc:=zc hg;have HY:=zc W;have hz:=zc X;rw[hg,show zaV L.gb (some u)=ptr (L.gb u)from rfl]at HG;cases hwt:xg e.n with
  | false=>
   have Q:O=(S,0,4):=by rw[q];unfold Sc.grow;simp only[hg,hwt];rfl
   subst Q;rw[hwt]at c;unfold uT;clear q hg ok W X V hwt U;go_enter func39,ntmps39;go_wp2_with fail;rw[show w.alloc (.cells (zpu e) 35)=w1 from A.symm,<-p];clear A p;refine HG.out.mono ?_;rintro z w2 ⟨rfl,v⟩;obtain rfl:=v.symm;go_wp2_with fail;refine c.out.mono ?_;rintro z H ⟨rfl,C⟩;obtain rfl:=C.symm;go_wp2;go_ret2;exact⟨L,rfl,h6.out⟩
  | true=>
   have hn:2<=e.n/\e.n<=262144:=by unfold xg at hwt;simpa using hwt
   by_cases J:S.tree.zq3 y.hi y.hg=0
   ·have hh:S.grow e=(S.zpO u e.n,(S.gs.length:Int),0):=by unfold Sc.grow;simp only[hg,hwt,V];rw[if_neg (by decide:¬(true=false)),if_neg (fun h=>h J)]
    rw[q,hh];exact zlr e b w F s S L HH.out d.out P u y hc.out W X hn J U
   ·have Q:O=(S,0,S.tree.zq3 y.hi y.hg):=by rw[q];unfold Sc.grow;simp only[hg,hwt,V];rw[if_neg (by decide:¬(true=false)),if_pos J]
    obtain⟨E,l⟩:=zh (S.tree.zq3 y.hi y.hg)
    rw[<-l]at Q;subst Q;obtain⟨ha,h5,h7⟩:=zof J;have hl:(E != 0)=true:=by rw[l];simpa using J
    rw[hwt]at c;obtain⟨h3,s5,Z⟩:=G.out.zsL;obtain⟨-,g1,g2,-⟩:=(G.out.gp W).c7;have Y:=(G.out.gp W).lt;have h9:Hid (∀W2,Below w1.heap.size w1 W2->Calls prog 72 #[.pointer (some ⟨L.t,0,none⟩),.agg #[.int .i64 y.hi,.int .i64 y.hg]] W2 fun z w'=>z=.returned (.tuple #[.agg #[.int .i64 0,.int .i64 0],.int .i64 E])/\zn W2 R s S L w'):=zc fun W2 hb=>by refine(zdu y.hi y.hg (b+2) W2 0 L.t L.tp S.tree (h3.behind hb) d.out.1.tok (by have:=d.out.1.zqg;omega) d.out.1.tr).mono ?_;rintro z w' ⟨rfl,hx,hp⟩;rw[ha]at hx;rw[h5,h7,<-l];exact⟨rfl,(G.out.behind hb).zs4 _ _ hp hx⟩
    unfold uT;clear q hg ok W X V hwt U h3 ha h5 h7 J l;go_enter func39,ntmps39;go_wp2_with fail;rw[show w.alloc (.cells (zpu e) 35)=w1 from A.symm,<-p];clear A p;refine HG.out.mono ?_;rintro z w2 ⟨rfl,v⟩;obtain rfl:=v.symm;go_wp2_with fail;refine c.out.mono ?_;rintro z H ⟨rfl,C⟩;obtain rfl:=C.symm;go_wp2_with fail;go_region_held3 (fun w'=>w'.cell? ⟨s,5,none⟩=some (ptr L.t)/\w'.cell? ⟨L.gb u,1,none⟩=some (.int .i64 y.hi)/\w'.cell? ⟨L.gb u,2,none⟩=some (.int .i64 y.hg)) (go_keep)
     (first
      | (
       go_at_call 72;have x:Below w1.heap.size w1 (w1.alloc (.cells #[.int .i64 0,.int .i64 0] 78)).drew:=zv (zk w1 _);have h0:=zc x;refine(h9.out _ x).mono ?_;rintro z H ⟨rfl,N⟩;have K:Hid (zn (w1.alloc (.cells #[.int .i64 0,.int .i64 0] 78)).drew R s S L H):=zc N;have B:Hid (zn w1 R s S L H):=zc (zn.zo7 h0.out K.out);have I:H.heap[w1.heap.size]?=some (.cells #[.int .i64 0,.int .i64 0] 78 (0,0)):=by rw[K.out.2.block w1.heap.size (by simp) (fun r=>by have h1:=h4.out _ r;have h2:=f.out.size;omega)];exact heap_alloc_new w1 _
       have hv:=zc I;have ht:H.cell? ⟨w1.heap.size,0,none⟩=some (.int .i64 0):=by simp[World.cell?,I]
       have H7:H.cell? ⟨w1.heap.size,1,none⟩=some (.int .i64 0):=by simp[World.cell?,I]
       have H4:w1.heap.size<H.heap.size:=(zd I).1;have H0:∀j,H.frozen? ⟨w1.heap.size,j,none⟩=false:=by intro j;simp[World.frozen?,I]
       have hj:s≠w1.heap.size:=by have:=G.out.zqq.2;omega
       have hf:L.gb u≠w1.heap.size:=by have:=(G.out.gp (n:=u) (g:=y) HY.out).lt;omega
       have H3:=Ne.symm hj;have H5:=Ne.symm hf;clear x I N s5 g1 g2 Y Z;obtain⟨-,s5,Z⟩:=B.out.1.zsL;obtain⟨-,g1,g2,-⟩:=(B.out.1.gp (n:=u) (g:=y) HY.out).c7;have Y:=(B.out.1.gp (n:=u) (g:=y) HY.out).lt)
      | (
       go_at_call 72;refine(h9.out _ (⟨rfl,rfl,rfl,zg _,fun _ _=>rfl⟩:Below w1.heap.size w1 w1.drew)).mono ?_;rintro z H ⟨rfl,N⟩;have B:Hid (zn w1 R s S L H):=zc (zn.zo7 (⟨rfl,rfl,rfl,zg _,fun _ _=>rfl⟩:Below w1.heap.size w1 w1.drew) N);clear N s5 g1 g2 Y Z;obtain⟨-,s5,Z⟩:=B.out.1.zsL;obtain⟨-,g1,g2,-⟩:=(B.out.1.gp (n:=u) (g:=y) HY.out).c7;have Y:=(B.out.1.gp (n:=u) (g:=y) HY.out).lt;have hq:H.heap.size≠s:=by omega
       have H6:H.heap.size≠L.gb u:=by omega))
    ·have T:=zc (zn.zo7 f.out ((B.out.below (zk H (.cells #[.int .i64 0,.int .i64 0] 78))).grow h8.out));go_wp2;go_ret2
     first | exact⟨L,rfl,T.out⟩ | exact⟨rfl,L,T.out⟩
    ·have T:=zc (zn.zo7 f.out ((zn.box h0.out K.out (zg _) (by simp) (fun r=>by have h1:=h4.out _ r;have h2:=f.out.size;omega) ((zo8.refl (fun k=>k=w1.heap.size) H).one (o:=0) (u:=.int .i64 0) |>.one (o:=1) (u:=.int .i64 0))).grow h8.out));go_wp2;go_ret2
     first | exact⟨L,rfl,T.out⟩ | exact⟨rfl,L,T.out⟩
theorem zls:(prog.info? 191).map (fun i=>(i.zero,i.size,i.bytes))=some (some (.agg #[.int .i64 0,.int .u64 0,.int .u64 0,.bool false]),4,32):=by kernel_rfl
def vD(l:List Cd):List Value:=l.flatMap fun c=> [.int .i64 c.n,.int .u64 c.w,.int .u64 c.m,.bool c.r]
theorem zjj(l:List Cd)(c:Cd):vD (l++ [c])=vD l++ [.int .i64 c.n,.int .u64 c.w,.int .u64 c.m,.bool c.r]:=by simp[vD]
theorem ze1:∀(l:List Cd) (k:Nat) (c:Cd),l[k]?=some c->(vD l)[k*4]?=some (.int .i64 c.n)/\(vD l)[k*4+1]?=some (.int .u64 c.w)/\(vD l)[k*4+2]?=some (.int .u64 c.m)/\(vD l)[k*4+3]?=some (.bool c.r)
 | [],k,c,h=>by simp at h
 | d::l,0,c,h=>by simp at h;subst h;simp[vD]
 | d::l,k+1,c,h=>by
  have A:l[k]?=some c:=by simpa using h
  obtain⟨E,B,G,D⟩:=ze1 l k c A;have e:vD (d::l)= [.int .i64 d.n,.int .u64 d.w,.int .u64 d.m,.bool d.r]++vD l:=rfl;rw[e];refine⟨?_,?_,?_,?_⟩
  ·rw[List.getElem?_append_right (by simp;omega)];simpa[show(k+1)*4-4=k*4 by omega]using E
  ·rw[List.getElem?_append_right (by simp;omega)];simpa[show(k+1)*4+1-4=k*4+1 by omega]using B
  ·rw[List.getElem?_append_right (by simp;omega)];simpa[show(k+1)*4+2-4=k*4+2 by omega]using G
  ·rw[List.getElem?_append_right (by simp;omega)];simpa[show(k+1)*4+3-4=k*4+3 by omega]using D
theorem zfS.zqA{w:World}{base:Nat}{e:TypeId}{a:Option Addr}{n c:Nat}{l:List Cd}(A:w.ownsRow base e 4 (.slice a n c) n (vD l)):zfS w a l:=fun k x O=>by
 obtain⟨B,E,N,H⟩:=ze1 l k x O;rcases A.2 with⟨D,G⟩ | ⟨g,cap,cur,D,hb,M,_⟩
 ·have I:=A.1;have h6:=(ze B).1;rw[G]at I;omega
 ·have J:=(zd M).1;injection D with e1 e2 e3
  subst e1;have at_:∀j u,(vD l)[j]?=some u->w.cell? ⟨g,j,none⟩=some u:=fun j u hu=>by have:=A.cells (g:=g) rfl j u hu;rw[qz]at this;exact this
  exact⟨g,rfl,J,at_ _ _ B,at_ _ _ E,at_ _ _ N,at_ _ _ H⟩
def zo3(S:Sc)(c:Cd):Prop:=∃(n:Nat) (t:Tk),c.n=(n:Int)/\S.ts[n]?=some t/\t.on=true/\c.m=t.mask
theorem zjk(e:Ev)(b:Nat)(w:World)(F:Nat->Prop)(s:Nat)(S:Sc)(L:Lay)(h:zq w F s S L)(ok:S.Fit b):
 Calls prog 53 #[ptr s,.agg (zpu e)] w fun z w'=>∃o,S.zsx o/\zq1 w F s L o z w':=by
 obtain⟨w1,V⟩:=zh (w.alloc (.cells (zpu e) 35))
 have Hh:Below w.heap.size w w1:=by rw[V];exact zk w _
 have hE:zp1 w1 w.heap.size e:=by rw[V];exact zp1.new w e
 obtain⟨M,Q⟩:∃M:Nat->Prop,M=fun k=>F k/\k<w.heap.size:=⟨_,rfl⟩
 have K3:Hid (∀k,M k->F k):=zc (by rw[Q];exact fun k hk=>hk.1);have k7:Hid (∀k,M k->k<w.heap.size):=zc (by rw[Q];exact fun k hk=>hk.2);have X:Hid (zq w1 M s S L):=zc (by rw[Q];exact h.zpy.behind Hh);have Hs:Hid (zn w F s S L w1):=zc ((zn.refl h).below Hh);have Hw:=zc Hh;have Hd:=zc ok;have T:=zc (qm e.a w1 M s S L X.out);obtain⟨D,hD⟩:=zh w.heap.size
 have ku:Hid (¬M D):=zc (by rw[Q,hD];intro hk;omega);rw[<-hD]at hE;have HE:=zc hE;obtain⟨-,Y,-,-,-,-⟩:=hE.c6;have A:=hE.lt;clear h Hh hE Q;have h7:Hid (∀f w',f≠0->zn w F s S L w'->∃o,S.zsx o/\zq1 w F s L o (.returned (.tuple #[.int .i64 0,.int .i64 f])) w'):=zc fun f w' hf hl=>⟨(S,0,f),.inl ⟨f,hf,rfl⟩,rfl,hl⟩
 by_cases hp:S.zqM e.a
 ·have km:0<=e.a/\e.a<S.ps:=hp;obtain⟨p,ko⟩:=Int.eq_ofNat_of_zero_le km.1;have Hu:p<S.ps:=by omega
  rw[decide_eq_true hp]at T;have kp:=zc ko;have ka:=zc Hu;have Ht:=zc (zcu b w1 M s S L X.out ok.1);have kd:=ok.1.ps.2;have K7:=ok.1.tl;have Kf:=ok.1.zqg;obtain⟨n,hn⟩:=zh S.ps
  have HN:=zc hn;have g:Hid (S.zqm.length=n):=zc (by rw[hn];exact ok.1.zqm.2);rw[<-hn]at Ht kd Hu;obtain⟨ld,Hn⟩:=zh S.zqm
  have Kc:=zc Hn;rw[<-Hn]at Ht g;clear hp km hn Hn ko;go_enter func53,ntmps53;go_wp2_with fail;rw[show w.alloc (.cells (zpu e) 35)=w1 from V.symm,<-hD];clear V hD;refine T.out.mono ?_;rintro z w2 ⟨rfl,Hj⟩;obtain rfl:=Hj.symm;go_wp2_with fail;refine Ht.out.mono ?_;rintro z w2 ⟨la,lc,rfl,h8,Hb⟩;have kc:=zc Hb;have U:=ym.zqB h8;have K6:=zc U;have Kn:Hid (∀r,la=some ⟨r,0,none⟩->¬M r):=zc (fun r hr hF=>by have C:=(h8.lt r (by rw[hr];rfl)).1;have h2:=k7.out r hF;have h3:=Hw.out.size;omega)
  have Ho:=zc (znp ld e.a 18446744073709551615 la lc w2 (by rw[g.out];exact kd) (by omega) (by omega) U);rw[g.out]at Ho;obtain⟨bu,Hy⟩:=zh (zno ld e.a 18446744073709551615)
  have K8:Hid (∀f,bu=some f->f<n):=zc fun f hf=>by rw[Hy]at hf;have:=zeb hf;rw[g.out]at this;exact this
  rw[<-Hy]at Ho;have kq:=(Hb.cell (p:=⟨D,1,none⟩) A).trans Y;have P:=zf A Hb.size;clear h8 Hb U Hy Y A;go_wp2_with fail;refine Ho.out.mono ?_;rintro z w3 ⟨rfl,ho⟩;have d:=zc (zj kc.out ho kc.out.size);have H9:=zc (K6.out.behind ho);have Y:=(ho.cell (p:=⟨D,1,none⟩) P).trans kq;have A:=zf P ho.size;clear ho kq P;cases bu with
  | none=>
   have k0:=zc (Hs.out.below d.out);rw[show qO none= -1 from rfl];go_wp2;go_ret2;exact h7.out 12 _ (by omega) k0.out
  | some f=>
   have K5:=K8.out f rfl;have Ki:(f:Int) <(n:Int):=by omega
   rw[show qO (some f)=(f:Int)from rfl];have Hv:=X.out.behind d.out;obtain⟨⟨va,vc,Hf⟩,s7,-⟩:=Hv.zqi;obtain⟨nn,k2⟩:=zh S.ts.length
   have kk:=zc k2;rw[<-k2]at Hf K7;have kj:=zc Hf;rw[Hf]at s7;have Hq:=Hv.zqq.2;clear Hv Hf k2;go_wp2_with fail;clear s7 Hq Y A;obtain⟨i0,hi,k6,kl,ke⟩:=info_parts zls;go_loopw [8,9,10,32] (fun v8 _ _ i wr=>∃(k:Nat) (l:List Cd) (m:Nat) (ar:Option Addr) (cr:Nat),k<=nn/\i=.int .i64 k/\v8=.slice ar m cr/\m=l.length/\m<=k/\wr.ownsRow w3.heap.size 191 4 (.slice ar m cr) m (vD l)/\(∀c∈l,zo3 S c)/\Below w3.heap.size w3 wr) (fun _ _ _ i _=>nn-(intOf i).toNat)
   case atStart=>exact⟨0,[],0,none,0,by omega,rfl,rfl,rfl,by omega,by simpa[vD]using World.ownsRow_nil _ _ _ _,by simp,Below.refl _ _⟩
   case round=>
    obtain⟨k,l,m,ar,cr,hk,rfl,rfl,kb,Kl,H7,K,hb⟩:=hrel;have HB:=zc hb;have H2:=zc (zj d.out hb d.out.size);have H0:=zc H7;have H3:=zc K;have hq:=zc kb;have HS:=zc (X.out.behind H2.out);clear hb H7 K kb;by_cases kr:k<nn
    ·have Kk:(
      k:Int) <(nn:Int):=by omega
     have Hz:k<S.ts.length:=by rw[<-kk.out];exact kr
     obtain⟨t,ht⟩:∃t,S.ts[k]?=some t:=⟨_,List.getElem?_eq_getElem Hz⟩
     obtain⟨r,cap,hv,N,Hr⟩:=HS.out.zqi.2.2 k Hz;rw[kj.out]at hv;obtain⟨rfl,-,rfl⟩:va=some ⟨r,0,none⟩/\nn=S.ts.length/\vc=cap:=by injection hv with C h2 h3;exact⟨C,h2,h3⟩
     obtain⟨-,-,t2,t3,t4,-,-,t7,t8,-⟩:=(HS.out.tk ht).zq7;have hg:=(HS.out.tk ht).lt;have HT:=zc ht;clear ht hv Hz;by_cases H:t.on=true/\t.p=f
     ·obtain⟨H,ki⟩:=H;have ha:=zc H;rw[H]at t3;have K4:((t.p:Int) == (f:Int))=true:=by simp[ki]
      have Ha:=zc (yp f wr.drew M s S L (HS.out.kept fun _ _ _=>rfl));obtain⟨rv,U⟩:=zh ((if S.zqM (f:Int)then S.running (f:Int).toNat else -1))
      rw[<-U]at Ha;clear H ki U t2;have Kb:L.tb k<w3.heap.size:=zf (X.out.tk HT.out).lt d.out.size;have Ko:=zc hi;go_wp2_with fail;go_region_held3 (fun w'=>w'.cell? ⟨L.tb k,7,none⟩=some (.int .u64 t.w)/\w'.cell? ⟨L.tb k,8,none⟩=some (.int .u64 t.mask)) (go_keep)
       (first
        | (
         go_at_call 22;refine Ha.out.mono ?_;rintro z w5 ⟨rfl,E⟩;have B:Hid (Below wr.heap.size wr w5):=zc ⟨E.os,E.tape,E.output,E.size,E.block⟩;have Hp:=zc (yY H0.out B.out);have kn:=zc (zj HB.out B.out HB.out.size);replace t7:=(B.out.cell (p:=⟨L.tb k,7,none⟩) hg).trans t7;replace t8:=(B.out.cell (p:=⟨L.tb k,8,none⟩) hg).trans t8;replace hg:=zf hg B.out.size;have kz:=kn.out.size;clear E t3 t4 N Hr)
        | (
         refine step_append_lies _ (by rfl) _ _ _ (by rfl) w3.heap.size 191 i0 _ 4 32 underlying189 hi k6 kl ke rfl (by omega) (.slice ar m cr) m (vD l) (by rfl) (Hp.out.alloc _)
          ⟨w5.heap.size,0,none⟩ 1 1 [.int .i64 k,.int .u64 t.w,.int .u64 t.mask,.bool ((k:Int) == rv)] (by rfl) (by rfl) (World.news_of_block (cs:=zq6 ⟨k,t.w,t.mask,(k:Int) == rv⟩) (t:=191) (fr:=(0,0)) (heap_alloc_new w5 _)) (by simp[Value.oneCell'])
          (by omega) (by unfold maxLen;omega) (by omega) (by first | omega | (simp;omega)) (w5.heap.size+1) (by first | rfl | simp) ?_
         intro g2 cap2 w6 h0 O Hg kv;have kt:=zc h0;have kf:Below w3.heap.size w3 w6:=(kn.out.alloc kz (.cells (zq6 ⟨k,t.w,t.mask,(k:Int) == rv⟩) 191)).grown O (by simp;omega) (fun j hj=>(Hp.out.lt j hj).1);have Z:=zc kf;have Hk:w6.heap[L.tb k]?=w5.heap[L.tb k]?:=(O.block (L.tb k) (by simp;omega) (fun e'=>by have:=(Hp.out.lt _ e'.symm).1;omega)).trans (Below.heap_alloc _ _ _ hg);replace t7:w6.cell? ⟨L.tb k,7,none⟩=some (.int .u64 t.w):=by rw[<-t7];simp[World.cell?,Hk]
         replace t8:w6.cell? ⟨L.tb k,8,none⟩=some (.int .u64 t.mask):=by rw[<-t8];simp[World.cell?,Hk]
         clear h0 O Hg kv kf Hk))
      all_goals
       clear t7 t8;go_wp2_with fail;go_roundw
       case rel=>
        refine⟨k+1,l++ [⟨k,t.w,t.mask,(k:Int) == rv⟩],m+1,some ⟨g2,0,none⟩,cap2,by omega,by go_num,rfl,by rw[List.length_append,<-hq.out];rfl,by omega,by rw[zjj];exact kt.out,fun c u=>?_,Z.out⟩;rcases List.mem_append.1 u with u | u
        ·exact H3.out c u
        ·simp at u;subst u;exact⟨k,t,rfl,HT.out,ha.out,rfl⟩
       case measure=>simp[intOf];omega
     ·cases hto:t.on with
      | false=>
       rw[hto]at t3;clear H hto;go_wp2;go_roundw
       case rel=>exact⟨k+1,l,m,ar,cr,by omega,by go_num,rfl,hq.out,by omega,H0.out,H3.out,HB.out⟩
       case measure=>simp[intOf];omega
      | true=>
       have ks:t.p≠f:=fun e'=>H ⟨hto,e'⟩;have K4:((t.p:Int) == (f:Int))=false:=by simp;omega
       rw[hto]at t3;clear H hto ks;go_wp2;go_roundw
       case rel=>exact⟨k+1,l,m,ar,cr,by omega,by go_num,rfl,hq.out,by omega,H0.out,H3.out,HB.out⟩
       case measure=>simp[intOf];omega
    ·have K0:k=nn:=by omega
     subst K0;clear i0 hi k6 kl ke;have k9:f<ld.length:=by rw[g.out];exact K5
     have H8:p<ld.length:=by rw[g.out];exact Hu
     obtain⟨x,hx⟩:∃x,ld[f]?=some x:=⟨_,List.getElem?_eq_getElem k9⟩
     obtain⟨y,hy⟩:∃y,ld[p]?=some y:=⟨_,List.getElem?_eq_getElem H8⟩
     obtain⟨ra,kg,cx,I⟩:=(H9.out.behind HB.out) f _ (qJ hx);obtain⟨hh,h9,cy,-⟩:=(H9.out.behind HB.out) p _ (qJ hy);obtain rfl:hh=ra:=by rw[kg]at h9;cases h9;rfl
     subst kg;obtain⟨-,Y,-,-,-,-⟩:=(HE.out.behind H2.out).c6;have A:=(HE.out.behind H2.out).lt;rw[kp.out]at Y;have Km:(p:Int) <(n:Int):=by omega
     have k8:=zc (zfS.zqA H0.out);have k3:Hid (∀r,ar=some ⟨r,0,none⟩->w3.heap.size<=r):=zc fun r hr=>(H0.out.lt r (by rw[hr];rfl)).1;have kx:=zc (zhD l m ar cr x y (p:Int) wr.drew hq.out (by omega) (k8.out.behind (⟨rfl,rfl,rfl,zg _,fun _ _=>rfl⟩:Below wr.heap.size wr wr.drew)) (fun c u=>by obtain⟨q,t,_,h2,h3,h4⟩:=H3.out c u;rw[h4];exact(Hd.out.1.on h2 h3).mask) ⟨by omega,by omega⟩);clear h9 hx hy k9 H8;go_wp2_with fail;go_region_held3 (fun w'=>w'.cell? ⟨hh,f,none⟩=some (.int .u64 x)/\w'.cell? ⟨hh,p,none⟩=some (.int .u64 y)/\w'.cell? ⟨D,1,none⟩=some (.int .i64 p)) (go_keep)
      (first
       | (
        go_at_call 103;refine kx.out.mono ?_;rintro z w5 ⟨⟨at_,bb,Hg,rfl⟩,E⟩;have B:Hid (Below wr.heap.size wr w5):=zc ⟨E.os,E.tape,E.output,E.size,E.block⟩;have ky:=zc Hg;replace cx:=(B.out.cell (p:=⟨hh,f,none⟩) I).trans cx;replace cy:=(B.out.cell (p:=⟨hh,p,none⟩) I).trans cy;replace Y:=(B.out.cell (p:=⟨D,1,none⟩) A).trans Y;replace A:=zf A B.out.size;replace I:=zf I B.out.size;clear E Hg))
     all_goals
      clear cx cy I;have R:=zc (zj H2.out B.out H2.out.size);cases bb with
      | false=>
       have k0:=zc (Hs.out.below R.out);clear Y A;go_wp2;go_ret2;exact h7.out 12 _ (by omega) k0.out
      | true=>
       have H4:at_<m:=ky.out (by first | trivial | rfl);have H6:at_<l.length:=by rw[<-hq.out];exact H4
       obtain⟨c,u⟩:∃c,l[at_]?=some c:=⟨_,List.getElem?_eq_getElem H6⟩
       obtain⟨id,t,k4,ht,H,-⟩:=H3.out c (List.mem_of_getElem? u);obtain⟨r2,k5,h6,c0,-,-,-⟩:=(k8.out.behind B.out) at_ c u;rw[k4]at c0;have Kh:w3.heap.size<=r2:=k3.out r2 k5;subst k5;have Hc:=zc (X.out.behind R.out);have H5:=(ze ht).1;obtain⟨r,cap,hv,N,Hr⟩:=Hc.out.zqi.2.2 id H5;have s7:=Hc.out.zqi.2.1;rw[kj.out]at hv s7;obtain⟨rfl,-,rfl⟩:va=some ⟨r,0,none⟩/\k=S.ts.length/\vc=cap:=by injection hv with C h2 h3;exact⟨C,h2,h3⟩
       have Hq:=Hc.out.zqq.2;have Kd:(id:Int) <(k:Int):=by have:=kk.out;omega
       have Ke:(at_:Int) <(m:Int):=by omega
       have HT:=zc ht;have ha:=zc H;have Ka:=zc (fun W (hW:zq W M s S L)=>zaw id t b W M s S L hW Hd.out.1 ht H);clear H4 H6 u k4 ht H H5 hv;go_wp2_with fail;go_quiet (fail);have J:Below w5.heap.size w5 (w5.drewN nq):=zp (Below.refl _ _) nq;generalize w5.drewN nq=w6 at J ⊢;have Kj:=zc J;have K1:=zc (Hc.out.behind J);have Z:=zc (zj R.out J R.out.size);have c6:=(J.cell (p:=⟨r2,at_*4,none⟩) h6).trans c0;have C6:=zc c6;have kh:Hid (¬M r2):=zc (fun hF=>by have C:=k7.out r2 hF;have h2:=Hw.out.size;have h3:=d.out.size;omega);have h5:=zc (zf h6 J.size)
       clear J c0 c6 N Hr s7 Hq Y A h6;go_wp2_with fail;refine(Ka.out w6 K1.out).mono ?_;rintro z w7 ⟨⟨v,rfl⟩,He⟩;have k1:=zc He;have Hl:zp1 w7 D e:=(He.2.block D (HE.out.behind Z.out).lt ku.out).trans (HE.out.behind Z.out);obtain⟨-,Y,-,-,-,-⟩:=Hl.c6;have A:=Hl.lt;rw[kp.out]at Y;obtain⟨t1,g1,g2,g3,-⟩:=qn HT.out;have K2:=zc (zaR id p false t1 b w7 (Ext M w6 w7) s (S.leave id) L He.1 (qY Hd.out HT.out ha.out).1 g1 (g3.trans (Hd.out.1.dead id t HT.out ha.out)) g2 (show p<S.ps from ka.out));clear He Hl g1 g2 g3;go_wp2_with fail;refine K2.out.mono ?_;rintro z w8 ⟨⟨v2,rfl⟩,Hi⟩
       have c8:w8.cell? ⟨r2,at_*4,none⟩=some (.int .i64 id):=by
        have C:=k1.out.2.block r2 h5.out kh.out;have h2:=Hi.2.block r2 (zf h5.out k1.out.2.size) (fun hf=>by
         rcases hf with hf | hf
         ·exact kh.out hf
         ·have:=hf.1;have:=h5.out;omega)
        rw[<-C6.out];simp[World.cell?,h2,C]
       have Kg:=World.block_lt_of_cell? _ _ c8;have K9:=zc (zn.zo7 Hw.out (((zn.zo7 Z.out k1.out).then (Hi.grow (G:=Ext M w1 w7) fun z hz=>by
        rcases hz with C | C
        ·exact .inl C
        ·exact .inr ⟨by have:=C.1;have:=Z.out.size;omega,C.2⟩)).grow K3.out))
       clear Hi Y A;go_wp2;go_ret2;exact⟨((S.leave id).put id p false,(id:Int),0),.inr ⟨id,t,p,HT.out,ha.out,ka.out,rfl⟩,rfl,K9.out⟩
 ·rw[decide_eq_false hp]at T;clear hp;go_enter func53,ntmps53;go_wp2_with fail;rw[show w.alloc (.cells (zpu e) 35)=w1 from V.symm,<-hD];clear V hD;refine T.out.mono ?_;rintro z w2 ⟨rfl,Hj⟩;obtain rfl:=Hj.symm;go_wp2;go_ret2;exact h7.out 1 _ (by omega) Hs.out
theorem zhE(w:World)(F:Nat->Prop)(s:Nat)(S:Sc)(L:Lay)(h:zq w F s S L):
 Calls prog 12 #[ptr s] w fun z w'=>z=.returned (.int .i64 S.ts.length)/\w'=w:=by
 obtain⟨⟨va,vc,A⟩,D,-⟩:=h.zqi;obtain⟨n,B⟩:=zh S.ts.length
 rw[<-B]at A ⊢;rw[A]at D;have h0:=h.zqq.2;clear h A B;go_enter func12,ntmps12;go_wp2;go_ret;exact⟨rfl,rfl⟩
theorem zfT(w:World)(F:Nat->Prop)(s:Nat)(S:Sc)(L:Lay)(h:zq w F s S L):
 Calls prog 13 #[ptr s] w fun z w'=>z=.returned (.int .i64 S.gs.length)/\w'=w:=by
 obtain⟨⟨va,vc,A⟩,D,-⟩:=h.zrB;obtain⟨n,B⟩:=zh S.gs.length
 rw[<-B]at A ⊢;rw[A]at D;have h0:=h.zqq.2;clear h A B;go_enter func13,ntmps13;go_wp2;go_ret;exact⟨rfl,rfl⟩
def ztP:Value->Option (DataW Unit×List MemPlace)
 | .func (.func f) a c=>if a.size=0/\c.size=0 then some (.lit (.int .i64 f),[])else none
 | _=>none
theorem zoj(f:Nat):ztP (.func (.func f) #[] #[])=some (.lit (.int .i64 f),[]):=rfl
theorem zjl{v:Value}{f:Nat}{ps:List MemPlace}(h:ztP v=some (.lit (.int .i64 f),ps)):v=.func (.func f) #[] #[]:=by
 unfold ztP at h;split at h
 ·rename_i g a c;split at h
  ·rename_i hs;simp only[Option.some.injEq,Prod.mk.injEq,DataW.lit.injEq,Lit.int.injEq,true_and]at h;have:g=f:=by first | exact Int.ofNat.inj h | exact h | exact h.1 | exact Int.ofNat.inj h.1
   rw[this,Array.eq_empty_of_size_eq_zero hs.1,Array.eq_empty_of_size_eq_zero hs.2]
  ·cases h
 ·cases h
theorem zjm{v:Value}{ps:List MemPlace}(h:ztP v=some (.nil,ps)):False:=by
 unfold ztP at h;split at h
 ·split at h <;> cases h
 ·cases h
structure zfU(w:World)(b:Nat)(g:Int->Option Nat)(n:Nat):Prop where
 ex:∃D,w.ownsMap prog 3 ztP b n D/\Maps.size D=n/\∀k,zpY k->(Maps.has D (.int .i64 k)=(g k).isSome/\D.atKey (.int .i64 k) .nil=znB (g k))
theorem zfU.new(w:World):zfU (w.alloc (.map #[] 0)) w.heap.size (fun _=>none) 0:=
 ⟨⟨_,World.ownsMap_made w prog 3 ztP,rfl,fun k hk=>⟨rfl,rfl⟩⟩⟩
theorem zfU.put{w:World}{b n:Nat}{g:Int->Option Nat}(h:zfU w b g n){k:Int}(N:zpY k)(T:g k=none)(U:n<maxLen)(f:Nat):
 ∃w',(Instr.mapUpdate 71 (.map (some b)) (.int .i64 k) (.func (.func f) #[] #[])).run prog w=.ok () w'/\zfU w' b (yL g k (some f)) (n+1)/\∀(B:Nat) (a:World),B<=b->Below B a w->Below B a w':=by
 obtain⟨D,J,R,O⟩:=h.ex;obtain⟨w',H,E,A⟩:=J.store xw underlying71 U (vF N) (zoj f);have I:=J.tidy xw;have G:Maps.size (D.put (.int .i64 k) (.lit (.int .i64 f)))=n+1:=by rw[Maps.size_put I,(O k N).1,T,R];rfl
 refine⟨w',H,⟨⟨_,?_,G,fun j M=>?_⟩⟩,fun B a V hb=>?_⟩
 ·have:=zlz E;rw[G]at this;exact this
 ·by_cases e:j=k
  ·subst e;rw[qR,Maps.has_put_same I.isMap (zcZ j),Maps.atKey_put_same I.isMap (zcZ j)];exact⟨rfl,rfl⟩
  ·rw[yO _ _ e,Maps.has_put_other (za0 e),Maps.atKey_put_other (za0 e)];exact O j M
 ·exact hb.grown A.grown (by have:=J.lt;omega) fun j M=>by obtain rfl:=Option.some.inj M;exact V
theorem zjn(w:World):(zeroValue 69).run prog w=.ok .nilFunc w:=by kernel_rfl
theorem zfU.look{w:World}{b n:Nat}{g:Int->Option Nat}(h:zfU w b g n){k:Int}(I:zpY k):(Instr.lookup 71 (.map (some b)) (.int .i64 k) true).run prog w=.ok (.tuple (match g k with | none=>#[.nilFunc,.bool false] | some f=>#[.func (.func f) #[] #[],.bool true])) w:=by
 obtain⟨D,⟨es,clock,hb,F,hs,rfl⟩,h2,J⟩:=h.ex;obtain⟨h4,B⟩:=J k I;rcases Maps.fit_look true xw underlying71 (zjn w) hb F (vF I)with⟨A,h0,E⟩ | ⟨H,y,hm,h1,A,G,E,_⟩
 ·rw[E .nil]at B;cases hg:g k with
  | none=>rw[A];rfl
  | some f=>rw[hg]at B;cases B
 ·rw[E .nil]at B;cases hg:g k with
  | none=>
   rw[hg]at B;exact(zjm (v:=H.val) (ps:=y.2) (by rw[G,show y=(y.1,y.2)from rfl,B];rfl)).elim
  | some f=>
   rw[hg]at B;have:H.val=.func (.func f) #[] #[]:=zjl (ps:=y.2) (by rw[G,show y=(y.1,y.2)from rfl,B];rfl);rw[A,this];rfl
def zhF:Int->Option Nat:=yL (yL (yL (yL (yL (yL (yL (yL (yL (yL (yL (yL (yL (yL (yL (fun _=>none) 1 (some 39)) 2 (some 40)) 3 (some 41)) 4 (some 42)) 5 (some 43)) 12 (some 44)) 6 (some 45)) 7 (some 46)) 14 (some 47)) 15 (some 48)) 8 (some 49)) 10 (some 50)) 9 (some 51)) 11 (some 52)) 13 (some 53)
theorem zcD(w:World):Calls prog 18 #[] w fun z w'=>∃b,z=.returned (.map (some b))/\zfU w' b zhF 15/\Below w.heap.size w w':=by
 have hn:=@run_makeMap prog;have j:=zfU.new w;have U:Below w.heap.size w (w.alloc (.map #[] 0)):=zk w _;obtain⟨w1,r1,l,t1⟩:=j.put (k:=1) (by unfold zpY;omega) rfl (by unfold maxLen;omega) 39;have Y:=t1 _ _ (zg _) U;obtain⟨w2,r2,d,t2⟩:=l.put (k:=2) (by unfold zpY;omega) (by simp[yL]) (by unfold maxLen;omega) 40;have n:=t2 _ _ (zg _) Y;obtain⟨w3,r3,X,t3⟩:=d.put (k:=3) (by unfold zpY;omega) (by simp[yL]) (by unfold maxLen;omega) 41;have T:=t3 _ _ (zg _) n;obtain⟨w4,r4,f,t4⟩:=X.put (k:=4) (by unfold zpY;omega) (by simp[yL]) (by unfold maxLen;omega) 42;have o:=t4 _ _ (zg _) T
 obtain⟨w5,r5,c,t5⟩:=f.put (k:=5) (by unfold zpY;omega) (by simp[yL]) (by unfold maxLen;omega) 43;have Z:=t5 _ _ (zg _) o;obtain⟨w6,r6,p,t6⟩:=c.put (k:=12) (by unfold zpY;omega) (by simp[yL]) (by unfold maxLen;omega) 44;have a:=t6 _ _ (zg _) Z;obtain⟨w7,r7,m,t7⟩:=p.put (k:=6) (by unfold zpY;omega) (by simp[yL]) (by unfold maxLen;omega) 45;have g:=t7 _ _ (zg _) a;obtain⟨w8,r8,h,t8⟩:=m.put (k:=7) (by unfold zpY;omega) (by simp[yL]) (by unfold maxLen;omega) 46;have r:=t8 _ _ (zg _) g;obtain⟨w9,r9,q,t9⟩:=h.put (k:=14) (by unfold zpY;omega) (by simp[yL]) (by unfold maxLen;omega) 47;have V:=t9 _ _ (zg _) r
 obtain⟨hl,hh,G,t10⟩:=q.put (k:=15) (by unfold zpY;omega) (by simp[yL]) (by unfold maxLen;omega) 48;have J:=t10 _ _ (zg _) V;obtain⟨hf,ha,O,t11⟩:=G.put (k:=8) (by unfold zpY;omega) (by simp[yL]) (by unfold maxLen;omega) 49;have E:=t11 _ _ (zg _) J;obtain⟨hr,hq,N,t12⟩:=O.put (k:=10) (by unfold zpY;omega) (by simp[yL]) (by unfold maxLen;omega) 50;have R:=t12 _ _ (zg _) E;obtain⟨hj,hi,A,t13⟩:=N.put (k:=9) (by unfold zpY;omega) (by simp[yL]) (by unfold maxLen;omega) 51;have M:=t13 _ _ (zg _) R;obtain⟨hk,ho,B,t14⟩:=A.put (k:=11) (by unfold zpY;omega) (by simp[yL]) (by unfold maxLen;omega) 52
 have I:=t14 _ _ (zg _) M;obtain⟨hc,hg,D,t15⟩:=B.put (k:=13) (by unfold zpY;omega) (by simp[yL]) (by unfold maxLen;omega) 53;have H:=t15 _ _ (zg _) I;have t:=zc D;have s:=zc H;clear j U l Y d n X T f o c Z p a m g h r q V G J O E N R A M B I D H t1 t2 t3 t4 t5 t6 t7 t8 t9 t10 t11 t12 t13 t14 t15;go_enter func18,ntmps18;go_wp2_with fail;go_ret;exact⟨_,rfl,t.out,s.out⟩
def zfY(P:Program)(g:Nat):Bool:=match P.funcs[g]? with
 | none=>false
 | some fn=>!(fn.name == "runtime.NumGoroutine") && !fn.body.isNone
theorem zec{P:Program}{g:Nat}(h:zfY P g=true)(args:Array Value)(w:World):(callFunc g args).run P w=.ok (.enter g args) w:=by
 unfold zfY at h;split at h
 ·cases h
 ·rename_i fn A;simp only[Bool.and_eq_true,Bool.not_eq_true']at h;have D:¬fn.name= "runtime.NumGoroutine" :=by simpa using h.1
  have B:¬fn.body=none:=fun e=>by rw[e]at h;exact absurd h.2 (by decide)
  simp[callFunc,A,D,B]
theorem xz(k:Int)(g:Nat)(h3:zhF k=some g)(hc:zfY prog g=true)(hi:1<=k/\k<=15)(e:Ev)(q:e.kind=k)(P:Out->Prop)(b:Nat)(hP:∀o,P o->o.1.Fit b)(w:World)(F:Nat->Prop)(s:Nat)(S:Sc)(L:Lay)(h:zq w F s S L)
 (h9:∀W G,zq W G s S L->Calls prog g #[ptr s,.agg (zpu e)] W fun z w'=>∃o,P o/\uT W G s o z w'):
 Calls prog 7 #[ptr s,.agg (zpu e)] w fun z w'=>∃o L' n f S',P o/\((o.2.2=0/\S'=o.1.settle/\n=o.2.1/\f=0)∨(o.2.2≠0/\S'=o.1/\n=0/\f=o.2.2))/\z=.returned (.agg #[.int .i64 n,.int .i64 f])/\zn w F s S' L' w':=by
 have ho:=zc h3;have hy:Hid (zpY k):=zc (by unfold zpY;omega);have ht:=zc hc;clear h3 hi hc;obtain⟨w1,O⟩:=zh (w.alloc (.cells (zpu e) 35))
 have Q:Below w.heap.size w w1:=by rw[O];exact zk w _
 have hE:zp1 w1 w.heap.size e:=by rw[O];exact zp1.new w e
 obtain⟨c,Y⟩:∃c:Nat->Prop,c=fun k=>F k/\k<w.heap.size:=⟨_,rfl⟩
 have h6:Hid (∀k,c k->F k):=zc (by rw[Y];exact fun k q=>q.1);have h4:Hid (∀k,c k->k<w.heap.size):=zc (by rw[Y];exact fun k q=>q.2);have hj:Hid (zq w1 c s S L):=zc (by rw[Y];exact h.zpy.behind Q);have h8:=zc Q;have H0:=zc (fun W=>zcD W);have l:zpu e=#[.int .i64 k,.int .i64 e.a,.int .i64 e.b,.int .i64 e.n,.int .i64 e.m,.int .u64 e.mask]:=by unfold zpu;rw[q]
 have H8:Hid (∀W G,zq W G s S L->Calls prog g #[ptr s,.agg #[.int .i64 k,.int .i64 e.a,.int .i64 e.b,.int .i64 e.n,.int .i64 e.m,.int .u64 e.mask]] W fun z w'=>∃o,P o/\uT W G s o z w'):=zc (by rw[<-l];exact h9);have HK:=zc q;have H5:=zc hP;obtain⟨D,hD⟩:=zh w.heap.size
 rw[<-hD]at hE;have HE:=zc hE;obtain⟨c0,c1,c2,c3,c4,c5⟩:=hE.c6;have A:=hE.lt;rw[q]at c0;have Ha:Hid (¬c D):=zc (fun hF=>by have:=h4.out D hF;omega);clear h Q hE Y h9 q hP l;go_enter func7,ntmps7;go_wp2_with fail;obtain⟨w2,X⟩:=zh (w1.alloc (.cells #[.int .i64 0,.int .i64 0] 31))
 have J:Below w1.heap.size w1 w2:=by rw[X];exact zk w1 _
 obtain⟨R,hR⟩:=zh w1.heap.size
 have h0:w2.heap[R]?=some (.cells #[.int .i64 0,.int .i64 0] 31 (0,0)):=by rw[X,hR];exact heap_alloc_new w1 _
 have h7:w.heap.size+1=R:=by rw[hR,O];simp
 rw[show w.alloc (.cells (zpu e) 35)=w1 from O.symm,<-X,h7,<-hD];have ha:=zc h0;have hr:=zc (hj.out.behind J);have hg:=zc (HE.out.behind J);have h5:=zc (zj h8.out J h8.out.size);have H:Hid (¬c R/\w.heap.size<=R):=zc ⟨fun hF=>by have:=h4.out R hF;omega,by omega⟩;replace c0:=(J.cell (p:=⟨D,0,none⟩) A).trans c0;replace A:=zf A J.size;clear O X J hR h0 h7 hD c1 c2 c3 c4 c5;go_region_held3 (fun w'=>w'.cell? ⟨D,0,none⟩=some (.int .i64 k)) (go_keep)
  (first
   | (
    go_at_call 18;refine(H0.out _).mono ?_;rintro z w3 ⟨m,rfl,hm,M⟩;have E:Hid (Below w2.heap.size w2 w3):=zc ⟨M.os,M.tape,M.output,M.size,M.block⟩;have h1:=hm.look (k:=k) hy.out;rw[ho.out]at h1;replace c0:=(E.out.cell (p:=⟨D,0,none⟩) A).trans c0;replace A:=zf A E.out.size;clear hm M))
 all_goals
  clear c0 A h1;have hh:=zc (zj h5.out E.out h5.out.size);have H7:=zc (hr.out.behind E.out);have y:w3.heap[R]?=some (.cells #[.int .i64 0,.int .i64 0] 31 (0,0)):=(E.out.block R (zd ha.out).1).trans ha.out;have H2:=zc y;have Z:=zc (zd y).1;obtain⟨c0,c1,c2,c3,c4,c5⟩:=(hg.out.behind E.out).c6;rw[HK.out]at c0;have A:=(hg.out.behind E.out).lt;clear y;go_wp2_with fail;rw[zec ht.out];refine(H8.out w3 c H7.out).mono ?_;rintro z U ⟨o,h2,L',rfl,hl⟩;have t:=zc h2;have HL:=zc hl;obtain⟨n,hn⟩:=zh o.2.1
  obtain⟨f,hf⟩:=zh o.2.2
  have H6:=zc hn;have x:=zc hf;rw[<-hn,<-hf];have B:U.heap[R]?=some (.cells #[.int .i64 0,.int .i64 0] 31 (0,0)):=(hl.2.block R Z.out H.out.1).trans H2.out;have C:=zc B;clear h2 hl hn hf c0 c1 c2 c3 c4 c5 A;by_cases N:f=0
  ·have hv:(f != 0)=false:=by simp[N]
   have H9:=zc (zfX b U (Ext c w3 U) s o.1 L' HL.out.1 (H5.out o t.out));have T:=zc N;clear N B;go_wp2_with fail;refine H9.out.mono ?_;rintro z d ⟨⟨v,rfl⟩,K⟩;have H4:=zc (HL.out.then K);have I:d.heap[R]?=some (.cells #[.int .i64 0,.int .i64 0] 31 (0,0)):=(K.2.block R (zd C.out).1 (fun hq=>by
    rcases hq with hq | hq
    ·exact H.out.1 hq
    ·have:=hq.1;have:=Z.out;omega)).trans C.out
   have r0:d.cell? ⟨R,0,none⟩=some (.int .i64 0):=by simp[World.cell?,I]
   have r1:d.cell? ⟨R,1,none⟩=some (.int .i64 0):=by simp[World.cell?,I]
   have hx:=(zd I).1;have H3:∀j,d.frozen? ⟨R,j,none⟩=false:=by intro j;simp[World.frozen?,I]
   have hz:=zc I;clear K I;go_wp2;have V:=zi (i:=1) (u:=.int .i64 0) (zi (i:=0) (u:=.int .i64 n) hz.out);have r:zo8 (fun k=>k=R) d ((d.setCell ⟨R,0,none⟩ (.int .i64 n)).setCell ⟨R,1,none⟩ (.int .i64 0)):=(zo8.refl (fun k=>k=R) d).one.one;have g0:((d.setCell ⟨R,0,none⟩ (.int .i64 n)).setCell ⟨R,1,none⟩ (.int .i64 0)).cell? ⟨R,0,none⟩=some (.int .i64 n):=by simp[World.cell?,V]
   have g1:((d.setCell ⟨R,0,none⟩ (.int .i64 n)).setCell ⟨R,1,none⟩ (.int .i64 0)).cell? ⟨R,1,none⟩=some (.int .i64 0):=by simp[World.cell?,V]
   refine bodyPost_ret (v:=.agg #[.int .i64 n,.int .i64 0]) ?_ rfl ⟨o,L',n,0,o.1.settle,t.out,.inl ⟨by rw[<-x.out];exact T.out,rfl,H6.out,rfl⟩,rfl,(zn.box hh.out H4.out H.out.2 Z.out H.out.1 r).grow h6.out⟩;simp[results,results7,go_sem,g0,g1]
  ·have hv:(f != 0)=true:=by simp[N]
   have r0:U.cell? ⟨R,0,none⟩=some (.int .i64 0):=by simp[World.cell?,B]
   have r1:U.cell? ⟨R,1,none⟩=some (.int .i64 0):=by simp[World.cell?,B]
   have hx:=(zd B).1;have H3:∀j,U.frozen? ⟨R,j,none⟩=false:=by intro j;simp[World.frozen?,B]
   have T:=zc N;clear N B;go_wp2;have V:=zi (i:=1) (u:=.int .i64 f) (zi (i:=0) (u:=.int .i64 0) C.out);have r:zo8 (fun k=>k=R) U ((U.setCell ⟨R,0,none⟩ (.int .i64 0)).setCell ⟨R,1,none⟩ (.int .i64 f)):=(zo8.refl (fun k=>k=R) U).one.one;have g0:((U.setCell ⟨R,0,none⟩ (.int .i64 0)).setCell ⟨R,1,none⟩ (.int .i64 f)).cell? ⟨R,0,none⟩=some (.int .i64 0):=by simp[World.cell?,V]
   have g1:((U.setCell ⟨R,0,none⟩ (.int .i64 0)).setCell ⟨R,1,none⟩ (.int .i64 f)).cell? ⟨R,1,none⟩=some (.int .i64 f):=by simp[World.cell?,V]
   refine bodyPost_ret (v:=.agg #[.int .i64 0,.int .i64 f]) ?_ rfl ⟨o,L',0,f,o.1,t.out,.inr ⟨by rw[<-x.out];exact T.out,rfl,rfl,x.out⟩,rfl,(zn.box hh.out HL.out H.out.2 Z.out H.out.1 r).grow h6.out⟩;simp[results,results7,go_sem,g0,g1]
theorem znu(e:Ev)(r:zhF e.kind=none)(T:zpY e.kind)(w:World)(F:Nat->Prop)(s:Nat)(S:Sc)(L:Lay)(h:zq w F s S L):
 Calls prog 7 #[ptr s,.agg (zpu e)] w fun z w'=>z=.returned (.agg #[.int .i64 0,.int .i64 1])/\zn w F s S L w':=by
 obtain⟨w1,G⟩:=zh (w.alloc (.cells (zpu e) 35))
 have c:Below w.heap.size w w1:=by rw[G];exact zk w _
 have d:zp1 w1 w.heap.size e:=by rw[G];exact zp1.new w e
 have t:=zc (zn.refl h);have Z:=zc c;have o:=zc (fun W=>zcD W);have x:=zc r;have f:=zc T;obtain⟨D,g⟩:=zh w.heap.size
 rw[<-g]at d;obtain⟨c0,-,-,-,-,-⟩:=d.c6;have A:=d.lt;clear h c d r T;go_enter func7,ntmps7;go_wp2_with fail;obtain⟨N,H⟩:=zh (w1.alloc (.cells #[.int .i64 0,.int .i64 0] 31))
 have J:Below w1.heap.size w1 N:=by rw[H];exact zk w1 _
 obtain⟨R,q⟩:=zh w1.heap.size
 have O:N.heap[R]?=some (.cells #[.int .i64 0,.int .i64 0] 31 (0,0)):=by rw[H,q];exact heap_alloc_new w1 _
 have Y:w.heap.size+1=R:=by rw[q,G];simp
 rw[show w.alloc (.cells (zpu e) 35)=w1 from G.symm,<-H,Y,<-g];have V:=zc O;have a:=zc (zj Z.out J Z.out.size);have U:Hid (w.heap.size<=R):=zc (by omega);replace c0:=(J.cell (p:=⟨D,0,none⟩) A).trans c0;replace A:=zf A J.size;clear G H J q O Y g;go_region_held3 (fun w'=>w'.cell? ⟨D,0,none⟩=some (.int .i64 e.kind)) (go_keep)
  (first
   | (
    go_at_call 18;refine(o.out _).mono ?_;rintro z M ⟨m,rfl,hm,E⟩;have I:Hid (Below N.heap.size N M):=zc ⟨E.os,E.tape,E.output,E.size,E.block⟩;have b:=hm.look (k:=e.kind) f.out;rw[x.out]at b;replace c0:=(I.out.cell (p:=⟨D,0,none⟩) A).trans c0;replace A:=zf A I.out.size;clear hm E))
 all_goals
  clear c0 A b;have B:M.heap[R]?=some (.cells #[.int .i64 0,.int .i64 0] 31 (0,0)):=(I.out.block R (zd V.out).1).trans V.out;have n:=zc B;have r0:M.cell? ⟨R,0,none⟩=some (.int .i64 0):=by simp[World.cell?,B]
  have r1:M.cell? ⟨R,1,none⟩=some (.int .i64 0):=by simp[World.cell?,B]
  have h1:=(zd B).1;have h0:∀j,M.frozen? ⟨R,j,none⟩=false:=by intro j;simp[World.frozen?,B]
  have l:=zc (zj a.out I.out a.out.size);clear B;go_wp2;have X:=zi (i:=1) (u:=.int .i64 1) (zi (i:=0) (u:=.int .i64 0) n.out);have g0:((M.setCell ⟨R,0,none⟩ (.int .i64 0)).setCell ⟨R,1,none⟩ (.int .i64 1)).cell? ⟨R,0,none⟩=some (.int .i64 0):=by simp[World.cell?,X]
  have g1:((M.setCell ⟨R,0,none⟩ (.int .i64 0)).setCell ⟨R,1,none⟩ (.int .i64 1)).cell? ⟨R,1,none⟩=some (.int .i64 1):=by simp[World.cell?,X]
  refine bodyPost_ret (v:=.agg #[.int .i64 0,.int .i64 1]) ?_ rfl ⟨rfl,t.out.below ((l.out.setCell (p:=⟨R,0,none⟩) (by show _<=R;exact U.out) _).setCell (p:=⟨R,1,none⟩) (by show _<=R;exact U.out) _)⟩;simp[results,results7,go_sem,g0,g1]
end
theorem zjr{k:Int}(h:¬(1<=k/\k<=15)):zhF k=none:=by
 unfold zhF;simp only[yL]
 repeat rw[if_neg (by omega)]
theorem zhL(D M:Sc->Ev->Out->Prop)(e:Ev)(b:Nat)(w:World)(F:Nat->Prop)(s:Nat)(S:Sc)(L:Lay)(h:zq w F s S L)(N:zpY e.kind)(he:e.Ok)(ok:S.Fit b)(hb:b<900)(O:∀(n:Nat) (t:Tk),S.ts[n]?=some t->t.zpc<S.gs.length)
 (R:∀e o,D S e o->o.1.Fit (b+1)) (T:∀e o,M S e o->o.1.Fit (b+1))
 (X:e.kind=2->∀W G,zq W G s S L->Calls prog 40 #[ptr s,.agg (zpu e)] W fun z w'=>∃o,D S e o/\uT W G s o z w')
 (V:e.kind=3->∀W G,zq W G s S L->Calls prog 41 #[ptr s,.agg (zpu e)] W fun z w'=>∃o,M S e o/\uT W G s o z w'):
 Calls prog 7 #[ptr s,.agg (zpu e)] w fun z w'=>∃I n f S',S.ztG D M e S' n f/\z=.returned (.agg #[.int .i64 n,.int .i64 f])/\zn w F s S' I w':=by
 have H:∀o,S.zrN D M e o->o.1.Fit (b+1):=fun o J=>zfM R T ok hb he J;have fin:∀{z:Ending} {w':World},(∃o I n f S',S.zrN D M e o/\((o.2.2=0/\S'=o.1.settle/\n=o.2.1/\f=0)∨(o.2.2≠0/\S'=o.1/\n=0/\f=o.2.2))/\z=.returned (.agg #[.int .i64 n,.int .i64 f])/\zn w F s S' I w')->∃I n f S',S.ztG D M e S' n f/\z=.returned (.agg #[.int .i64 n,.int .i64 f])/\zn w F s S' I w':=
  fun⟨o,I,n,f,S',Z,U,c,Y⟩=>⟨I,n,f,S',.inr ⟨o,Z,U⟩,c,Y⟩
 by_cases A:1<=e.kind/\e.kind<=15
 ·have d:e.kind=1∨e.kind=2∨e.kind=3∨e.kind=4∨e.kind=5∨e.kind=6∨e.kind=7∨e.kind=8∨e.kind=9∨e.kind=10∨e.kind=11∨e.kind=12∨e.kind=13∨e.kind=14∨e.kind=15:=by omega
  rcases d with A | A | A | A | A | A | A | A | A | A | A | A | A | A | A
  ·exact(xz 1 39 (by decide) (by kernel_rfl) (by omega) e A (S.zrN D M e) (b+1) H w F s S L h (fun W G E=>(zjh e b W G s S L E ok hb O).mono fun z w' hd=>⟨_,(.inl ⟨A,rfl⟩),hd⟩)).mono fun z w' B=>fin B
  ·exact(xz 2 40 (by decide) (by kernel_rfl) (by omega) e A (S.zrN D M e) (b+1) H w F s S L h (fun W G E=>(X A W G E).mono fun z w' ⟨o,J,hd⟩=>⟨o,(.inr (.inl ⟨A,J⟩)),hd⟩)).mono fun z w' B=>fin B
  ·exact(xz 3 41 (by decide) (by kernel_rfl) (by omega) e A (S.zrN D M e) (b+1) H w F s S L h (fun W G E=>(V A W G E).mono fun z w' ⟨o,J,hd⟩=>⟨o,(.inr (.inr (.inl ⟨A,J⟩))),hd⟩)).mono fun z w' B=>fin B
  ·exact(xz 4 42 (by decide) (by kernel_rfl) (by omega) e A (S.zrN D M e) (b+1) H w F s S L h (fun W G E=>(zfK e b W G s S L E ok.1).mono fun z w' hd=>⟨_,(.inr (.inr (.inr (.inl ⟨A,rfl⟩)))),hd.any⟩)).mono fun z w' B=>fin B
  ·exact(xz 5 43 (by decide) (by kernel_rfl) (by omega) e A (S.zrN D M e) (b+1) H w F s S L h (fun W G E=>(zhK e b W G s S L E ok).mono fun z w' hd=>⟨_,(.inr (.inr (.inr (.inr (.inl ⟨A,rfl⟩))))),hd.any⟩)).mono fun z w' B=>fin B
  ·exact(xz 6 45 (by decide) (by kernel_rfl) (by omega) e A (S.zrN D M e) (b+1) H w F s S L h (fun W G E=>(zhB e b W G s S L E ok he hb).mono fun z w' hd=>⟨_,(.inr (.inr (.inr (.inr (.inr (.inl ⟨A,rfl⟩)))))),hd⟩)).mono fun z w' B=>fin B
  ·exact(xz 7 46 (by decide) (by kernel_rfl) (by omega) e A (S.zrN D M e) (b+1) H w F s S L h (fun W G E=>(ziK e b W G s S L E ok.1).mono fun z w' hd=>⟨_,(.inr (.inr (.inr (.inr (.inr (.inr (.inl ⟨A,rfl⟩))))))),hd.any⟩)).mono fun z w' B=>fin B
  ·exact(xz 8 49 (by decide) (by kernel_rfl) (by omega) e A (S.zrN D M e) (b+1) H w F s S L h (fun W G E=>(zcA e b W G s S L E ok.1).mono fun z w' hd=>⟨_,(.inr (.inr (.inr (.inr (.inr (.inr (.inr (.inl ⟨A,rfl⟩)))))))),hd.any⟩)).mono fun z w' B=>fin B
  ·exact(xz 9 51 (by decide) (by kernel_rfl) (by omega) e A (S.zrN D M e) (b+1) H w F s S L h (fun W G E=>(zhm e b W G s S L E ok.1).mono fun z w' hd=>⟨_,(.inr (.inr (.inr (.inr (.inr (.inr (.inr (.inr (.inl ⟨A,rfl⟩))))))))),hd.any⟩)).mono fun z w' B=>fin B
  ·exact(xz 10 50 (by decide) (by kernel_rfl) (by omega) e A (S.zrN D M e) (b+1) H w F s S L h (fun W G E=>(ziS e b W G s S L E ok.1).mono fun z w' hd=>⟨_,(.inr (.inr (.inr (.inr (.inr (.inr (.inr (.inr (.inr (.inl ⟨A,rfl⟩)))))))))),hd.any⟩)).mono fun z w' B=>fin B
  ·exact(xz 11 52 (by decide) (by kernel_rfl) (by omega) e A (S.zrN D M e) (b+1) H w F s S L h (fun W G E=>(zjp e b W G s S L E ok hb).mono fun z w' hd=>⟨_,(.inr (.inr (.inr (.inr (.inr (.inr (.inr (.inr (.inr (.inr (.inl ⟨A,rfl⟩))))))))))),hd.any⟩)).mono fun z w' B=>fin B
  ·exact(xz 12 44 (by decide) (by kernel_rfl) (by omega) e A (S.zrN D M e) (b+1) H w F s S L h (fun W G E=>(zfZ e b W G s S L E ok.1).mono fun z w' hd=>⟨_,(.inr (.inr (.inr (.inr (.inr (.inr (.inr (.inr (.inr (.inr (.inr (.inl ⟨A,rfl⟩)))))))))))),hd.any⟩)).mono fun z w' B=>fin B
  ·exact(xz 13 53 (by decide) (by kernel_rfl) (by omega) e A (S.zrN D M e) (b+1) H w F s S L h (fun W G E=>(zjk e b W G s S L E ok).mono fun z w' ⟨o,J,hd⟩=>⟨o,(.inr (.inr (.inr (.inr (.inr (.inr (.inr (.inr (.inr (.inr (.inr (.inr (.inl ⟨A,J⟩))))))))))))),hd.any⟩)).mono fun z w' B=>fin B
  ·exact(xz 14 47 (by decide) (by kernel_rfl) (by omega) e A (S.zrN D M e) (b+1) H w F s S L h (fun W G E=>(ziP e b W G s S L E ok.1).mono fun z w' hd=>⟨_,(.inr (.inr (.inr (.inr (.inr (.inr (.inr (.inr (.inr (.inr (.inr (.inr (.inr (.inl ⟨A,rfl⟩)))))))))))))),hd.any⟩)).mono fun z w' B=>fin B
  ·exact(xz 15 48 (by decide) (by kernel_rfl) (by omega) e A (S.zrN D M e) (b+1) H w F s S L h (fun W G E=>(ziR e b W G s S L E ok he).mono fun z w' hd=>⟨_,(.inr (.inr (.inr (.inr (.inr (.inr (.inr (.inr (.inr (.inr (.inr (.inr (.inr (.inr ⟨A,rfl⟩)))))))))))))),hd.any⟩)).mono fun z w' B=>fin B
 ·exact(znu e (zjr A) N w F s S L h).mono fun z w' ⟨B,a⟩=>⟨L,0,1,S,.inl ⟨A,rfl,rfl,rfl⟩,B,a⟩
theorem zrd.snoc{D M:Sc->Ev->Out->Prop}{S B A:Sc}{e:Ev}{l:List Ev}{a:List (Int×Int)}{n f:Int}(h:Sc.zrd D M S l B a)(E:B.ztG D M e A n f):Sc.zrd D M S (l++ [e]) A (a++ [(n,f)]):=by
 induction h with
 | nil S=>exact .cons E (.nil _)
 | cons h t ih=>exact .cons h (ih E)
theorem zrd.len{D M:Sc->Ev->Out->Prop}{S S':Sc}{l:List Ev}{a:List (Int×Int)}(h:Sc.zrd D M S l S' a):a.length=l.length:=by
 induction h with
 | nil S=>rfl
 | cons h t ih=>simp[ih]
section
attribute [local go_sem ↓] Go.wp_at_zero Go.wp_at_succ
abbrev zsi:Sc->Ev->Out->Prop:=fun _ _ _=>False
def Ev.Good(e:Ev):Prop:=zpY e.kind/\e.Ok/\e.kind≠2/\e.kind≠3
theorem znv{S S':Sc}{b:Nat}{e:Ev}{n f:Int}(hd:S.ztG zsi zsi e S' n f)(ok:S.Fit b)(hb:b<900)(he:e.Good){P:List Int}(N:S.Kp P):S'.Kp (e.more f P)/\S'.zpV=e.zqJ f S.zpV/\S'.Fit (b+1):=by
 have E:=zoP (D:=zsi) (M:=zsi) (fun _ _ h=>h.elim) (fun _ _ h=>h.elim) ok hb he.2.1 hd;rcases hd with⟨G,rfl,_,rfl⟩ | ⟨o,O,B⟩
 ·have B:¬(e.kind=1/\(1:Int)=0):=fun h=>by cases h.2
  have R:¬(e.kind=6/\(1:Int)=0):=fun h=>by cases h.2
  unfold Ev.more Ev.zqJ;rw[if_neg B,if_neg R];exact⟨N,rfl,E⟩
 ·obtain⟨A,I⟩:=zoY ok hb he.2.1 O he.2.2.1 he.2.2.2 N;have H:=zfM (D:=zsi) (M:=zsi) (fun _ _ h=>h.elim) (fun _ _ h=>h.elim) ok hb he.2.1 O;rcases B with⟨J,rfl,_,rfl⟩ | ⟨J,rfl,_,rfl⟩
  ·rw[J]at A I;have G:=(zdX H).2.zrH;exact⟨A.zrH G,(zd3 G).trans I,E⟩
  ·exact⟨A,I,E⟩
theorem znw{w:World}{base:Nat}{e:TypeId}{size n k c:Nat}{B:Option Addr}{xs:List Value}(h:w.ownsRow base e size (.slice B k c) n xs){g:Nat}(D:(Value.slice B k c).ownBlock=some g):B=some ⟨g,0,none⟩:=by
 rcases h.2 with⟨A,_⟩ | ⟨g',cap,cur,A,_⟩
 ·injection A with e1
  rw[e1]at D;cases D
 ·injection A with e1
  subst e1;obtain rfl:g'=g:=Option.some.inj D;rfl
theorem zlu(l:List Ev)(n:Nat)(a:Option Addr)(c:Nat)(b:Nat)(w:World)(F:Nat->Prop)(s:Nat)(S:Sc)(L:Lay)(h:zq w F s S L)(hn:n=l.length)(Hn:n<=100)(hR:zbU w a l)(H3:∀r,a=some ⟨r,0,none⟩->¬F r)(hI:∀e∈l,e.Good)
 (P:List Int) (hk:S.Kp P) (ok:S.Fit b) (hb:b+n<=900):
 Calls prog 25 #[ptr s,.slice a n c] w fun z w'=>∃L' S' D g c' P',Sc.zrd zsi zsi S l S' D/\S'.Kp P'/\S'.Fit (b+n)/\z=.returned (.slice g n c')/\zoc w' g D/\zn w F s S' L' w':=by
 obtain⟨i0,hi,Hb,Hh,He⟩:=info_parts zhw;have HH:=zc (⟨hR,H3⟩:zbU w a l/\∀r,a=some ⟨r,0,none⟩->¬F r);have HG:=zc hI;have HN:=zc hn;obtain⟨G0,hc⟩:∃G0:Nat->Prop,G0=fun k=>F k/\k<w.heap.size:=⟨_,rfl⟩
 have H0:zq w G0 s S L:=by rw[hc];exact h.zpy
 have hy:∀x,G0 x->x<w.heap.size/\(F x∨w.heap.size<=x):=by rw[hc];exact fun x A=>⟨A.2,.inl A.1⟩
 have j:=zc (⟨H0,hy,hk,ok⟩:zq w G0 s S L/\(∀x,G0 x->x<w.heap.size/\(F x∨w.heap.size<=x))/\S.Kp P/\S.Fit b);clear h hn hR H3 hI hk ok hc H0 hy;go_enter func25,ntmps25;go_wp2_with fail;go_loopw [5,7,10] (fun v5 _ i wr=>∃(k:Nat) (L':Lay) (S':Sc) (D:List (Int×Int)) (M:Option Addr) (Z:Nat) (G:Nat->Prop) (P':List Int),k<=n/\i=.int .i64 k/\v5=.slice M k Z/\Sc.zrd zsi zsi S (l.take k) S' D/\S'.Kp P'/\S'.Fit (b+k)/\wr.ownsRow w.heap.size 31 2 (.slice M k Z) k (vB D)/\zq wr G s S' L'/\(∀x,G x->x<wr.heap.size/\(F x∨w.heap.size<=x))/\(∀r,M=some ⟨r,0,none⟩->¬G r)/\zbU wr a l/\zo8 F w wr) (fun _ _ i _=>n-(intOf i).toNat)
 case atStart=>exact⟨0,L,S,[],none,0,G0,P,by omega,rfl,rfl,.nil S,j.out.2.2.1,j.out.2.2.2,by simpa[vB]using World.ownsRow_nil _ _ _ _,j.out.1,j.out.2.1,(fun r hr=>by cases hr),HH.out.1,.refl F w⟩
 case round=>
  obtain⟨k,L',S',D,M,Z,G,P',hk,rfl,rfl,y,hz,v,K,hS,hG,hl,C,hT⟩:=hrel;have Y:=zc y;have hf:=zc hz;have O:=zc v;have E:=zc K;have R:=zc (⟨hG,hl⟩:(∀x,G x->x<wr.heap.size/\(F x∨w.heap.size<=x))/\(∀r,M=some ⟨r,0,none⟩->¬G r));have HT:=zc hT;have hj:=zc C;have HS:=zc hS;clear y hz v K hS hG hl C hT;by_cases H6:k<n
  ·have Hj:(k:Int) <(n:Int):=by omega
   obtain⟨e,he⟩:∃e,l[k]?=some e:=⟨_,List.getElem?_eq_getElem (by rw[<-HN.out];exact H6)⟩
   obtain⟨r,rfl,Hd,c0,c1,c2,c3,c4,c5⟩:=hj.out k e he;have HE:=zc he;have B:=HG.out e (List.mem_of_getElem? he);have h6:=zc B;obtain⟨w1,h9⟩:=zh (wr.alloc (.cells (zpu e) 35))
   have hh:Below wr.heap.size wr w1:=by rw[h9];exact zk wr _
   have H2:=zc hh;have HD:=zc (zhL zsi zsi e (b+k) w1 G s S' L' (HS.out.behind hh) B.1 B.2.1 O.out (by omega) hf.out.zpc (fun _ _ h=>h.elim) (fun _ _ h=>h.elim) (fun o=>absurd o B.2.2.1) (fun h3=>absurd h3 B.2.2.2));clear B hh he;go_wp2_with fail;rw[show wr.alloc (.cells #[.int .i64 e.kind,.int .i64 e.a,.int .i64 e.b,.int .i64 e.n,.int .i64 e.m,.int .u64 e.mask] 35)=w1 from h9.symm];clear h9 c0 c1 c2 c3 c4 c5 Hd;refine HD.out.mono ?_;rintro z X ⟨L2,nn,ff,S2,W,rfl,p⟩;obtain⟨q1,q2,q3⟩:=znv W O.out (by omega) h6.out hf.out;have HQ:=zc (⟨q1,q3⟩:S2.Kp _/\S2.Fit _);have h5:=zc (zrd.snoc Y.out W)
   have Hl:=H2.out.size;have Hk:=p.2.size;have h7:zo8 G wr X:=(zo8.zo7 H2.out:zo8 G wr w1).trans p.2 fun x A=>.inl A;have H8:=zc h7;have hq:X.ownsRow w.heap.size 31 2 (.slice M k Z) k (vB D):=xW E.out fun g hg=>by have:=(E.out.lt g hg).2;refine h7.block g this ?_;exact R.out.2 g (znw E.out hg)
   have Ha:=zc hq;have Hf:=zc p;clear q1 q2 q3 W h7 hq p;go_wp2_with (at_builtin;go_loud (refine wpList_append_own_at _ rfl _ _ 93 rfl w.heap.size 31 i0 (.agg #[.int .i64 0,.int .i64 0]) 2 16 underlying93 hi Hb Hh He rfl (by decide) _ k (vB D) rfl (Ha.out.alloc _) ⟨X.heap.size,0,none⟩ 1 1 [.int .i64 nn,.int .i64 ff] rfl rfl ?c1 ?c2 ?c3 ?c4 ?c5 ?_))
   case c1=>
    intro jj u T;have H7:jj=0∨jj=1:=by have:=(ze T).1;simp at this;omega
    rcases H7 with rfl | rfl
    ·simp at T;subst T;simp[go_sem]
    ·simp at T;subst T;simp[go_sem]
   case c2=>intro u hu;simp at hu;rcases hu with rfl | rfl <;> rfl
   case c3=>unfold maxLen;omega
   case c4=>omega
   case c5=>have:=HT.out.size;simp;omega
   intro v' t H J _ q;obtain⟨U,ha⟩:∃U:Nat->Prop,U=fun x=>Ext G w1 X x/\x<X.heap.size:=⟨_,rfl⟩
   have ho:zq X U s S2 L2:=by rw[ha];exact Hf.out.1.zpy
   have N:∀x,U x->x<X.heap.size/\(F x∨w.heap.size<=x):=by
    rw[ha];rintro x ⟨A | A,d⟩
    ·exact⟨d,(R.out.1 x A).2⟩
    ·exact⟨d,.inr (by have:=HT.out.size;omega)⟩
   have h8:∀g,(Value.slice M k Z).ownBlock=some g->g<wr.heap.size/\¬U g:=fun g hg=>by
    have h1:=(E.out.lt g hg).2;refine⟨h1,?_⟩;have o:=znw E.out hg;rw[ha];rintro⟨A | A,_⟩
    ·exact R.out.2 g o A
    ·have:=A.1;omega
   have f:zo8 (fun x=>(Value.slice M k Z).ownBlock=some x) X t:=((zo8.refl (fun x=>(Value.slice M k Z).ownBlock=some x) X).alloc (.cells #[.int .i64 nn,.int .i64 ff] 31)).grown J fun x A=>.inl A;have Hi:=f.size;have H5:zq t U s S2 L2:=ho.kept fun x A d=>f.block x A fun e'=>(h8 x e').2 d;have I:zo8 F w t:=by
    refine(HT.out.trans (G:=fun x=>G x∨(Value.slice M k Z).ownBlock=some x) ((H8.out.mono fun x A=>.inl A).trans (f.mono (G:=fun x=>G x∨(Value.slice M k Z).ownBlock=some x) fun x A=>.inr A) fun x A=>.inl A) fun x A=>?_);rcases A with A | A
    ·exact(R.out.1 x A).2
    ·exact .inr (E.out.lt x A).1
   have hlen:D.length=k:=by have:=zrd.len Y.out;rw[List.length_take,<-HN.out]at this;omega
   rcases H.2 with⟨_,h0⟩ | ⟨g,cap,cur,hv,_⟩
   ·omega
   subst hv;have Q:∀x,(some (⟨g,0,none⟩:Addr))=some ⟨x,0,none⟩->¬U x:=fun x A H4=>by
    obtain rfl:g=x:=by injection A with e1;injection e1
    have h1:=(N g H4).1;rcases q with h3 | h3
    ·exact(h8 g h3.symm).2 H4
    ·have h4:g=X.heap.size+1:=Option.some.inj h3;omega
   have V:zbU t (some ⟨r,0,none⟩) l:=HH.out.1.kept (fun x A H9=>I.block x H9 (HH.out.2 x A)) I.size;have Hg:=zc (⟨H5,N,Q,V,I,H⟩:zq t U s S2 L2/\(∀x,U x->x<X.heap.size/\(F x∨w.heap.size<=x))/\(∀x,(some (⟨g,0,none⟩:Addr))=some ⟨x,0,none⟩->¬U x)/\zbU t (some ⟨r,0,none⟩) l/\zo8 F w t/\t.ownsRow w.heap.size 31 2 (.slice (some ⟨g,0,none⟩) (k+1) cap) (k+1) (vB D++ [.int .i64 nn,.int .i64 ff]));clear H5 N Q V I H J q ho h8 f;go_wp2_with fail;go_roundw
   case rel=>
    obtain⟨t1,t2,t3,t4,t5,t6⟩:=Hg.out;refine⟨k+1,L2,S2,D++ [(nn,ff)],some ⟨g,0,none⟩,cap,U,_,by omega,by go_num,rfl,?_,HQ.out.1,HQ.out.2,by rw[zi7];exact t6,t1,fun x A=>⟨by have:=(t2 x A).1;omega,(t2 x A).2⟩,t3,t4,t5⟩;rw[List.take_add_one,HE.out];exact h5.out
   case measure=>simp[intOf];omega
  ·have Hc:k=n:=by omega
   subst Hc;go_wp2;go_ret;have ht:l.take k=l:=by rw[HN.out,List.take_length]
   have hr:=Y.out;rw[ht]at hr;exact⟨L',S',D,M,Z,P',hr,hf.out,O.out,rfl,zoc.zqA E.out,HS.out.mono fun x _ A=>by
    obtain⟨h1,o⟩:=R.out.1 x A;rcases o with o | o
    ·exact .inl o
    ·exact .inr ⟨o,h1⟩,HT.out⟩
end
end Go.Proofs.YtmpdpmhpkgbepaaGreatDoor
