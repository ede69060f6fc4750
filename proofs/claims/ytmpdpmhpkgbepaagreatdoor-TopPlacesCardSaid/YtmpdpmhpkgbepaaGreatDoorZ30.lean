/- Parts for TopPlaces. Conditions: as stated. -/
import Derived.Test.YtmpdpmhpkgbepaaGreatDoorZ29
set_option linter.unusedVariables false
set_option maxRecDepth 100000
set_option maxHeartbeats 4000000
open Go.Value renaming int->zd,slice->zf,agg->zg,bool->zh,tuple->zi
open Go.IntKind renaming i64->zj,u64->zk,signed->yq
open Go.Ending renaming returned->zm
open Go.Obj renaming cells->zn
open Option renaming some->zo,none->zp
open Bool renaming true->zq,false->zt
open Go renaming World->zu,Calls->zw
open Option.some renaming inj->zx
open List renaming getElem?_eq_getElem->zy,getElem?_set_ne->zC,length_set->zD,getElem?_append_left->zF,getD_eq_getElem?_getD->zH,getElem?_set_self->zT,getElem?_append_right->zV,mem_cons->yg,mem_map->yh,range->yi,mem_cons_of_mem->yj,mem_cons_self->yk,mem_append->yn
open Int renaming toNat_natCast->zI
open Go.Proofs.Tryz
namespace Go.Proofs.YtmpdpmhpkgbepaaGreatDoor
open Go Go.RowKit Go.ChangeShapes Go.WideShapes
variable {S:Sc}{n b m p k s:Nat}{t:Tk}{h:Hm}{w:zu}{c:Ck}{x:Gp}{d:TL}{l r:List Nat}{a:Int}{D M:Sc->Ev->Out->Prop}{e:Ev}{F:Nat->Prop}{L:Lay}
attribute [local go_sem ↓] Go.wp_at_zero Go.wp_at_succ
theorem Hi.of{A:Sc}(h:Hi S n t)(B:A.gs=S.gs)(G:A.pool=S.pool)(D:A.at_=S.at_)(E:A.ps=S.ps):Hi A n t:=
 ⟨by rw[B];exact h.OG,by rw[G];exact h.pool,h.hi,by rw[D];exact h.at_,by rw[E];exact h.TC,h.wt,h.mask,h.e,h.nice,h.min⟩
theorem Dz{D:Hm}(E:qM h D)(g:Nat):(D.gs g).isSome=(h.gs g).isSome:=by
 rcases E.gs g with⟨B,A⟩|⟨x,y,B,A,_⟩
 .rw[B,A]
 .rw[B,A];rfl
theorem Sc.Ok.one(B:S.Ok b){u:Tk}(H:S.ts[n]?=zo t)(hd:t.dead=zt)(E:S.ts[m]?=zo u)(A:u.dead=zt)(e:t.hi=u.hi):n=m:=by have D:=(B.tk n t H hd).at_;have G:=(B.tk m u E A).at_;rw[e,G]at D;exact D.symm
theorem Sc.Ok.leave(A:S.Ok b)(d:∀p,p<S.ps->(S.hs p).Ok)(X:S.ts[n]?=zo t)(L:t.on=zq):(S.leave n).Ok b:=by
 have H:=A.on X L;have hd:=A.dead n t X L;have c:=H.TC;obtain⟨g,l,hj⟩:=H.OG;obtain⟨x,e,f,he,Z⟩:=A.stands X L l;obtain⟨a1,a2,a3⟩:=Fv (d t.p c) f t.hi;have s:=Sc.RV X;have Q:=Sc.PE l;obtain⟨m,hm⟩:=yB ((S.hs t.p).minOf g.hi)
 have K: -9223372036854775808<=m/\m<=9223372036854775807:=by rw[hm];unfold Hm.minOf;rw[f];exact((d t.p c).q _ _ f).1.min
 have o:(e.half t.hi).Ok/\(e.half t.hi).id=t.hi:=by have P:=(xu he).1;have R:=((d t.p c).q _ _ f).1.RA e P;have:=H.hi;exact⟨⟨by show 0<=(t.hi:Int)/\(t.hi:Int)<=1000000;omega,R.w,R.v,R.rem⟩,rfl⟩
 have h9:S.leave n=((S.OY n { t with min:=m,e:=e.half t.hi,on:=zt }).OM t.p ((S.hs t.p).drop g.hi t.hi)):=by unfold Sc.leave Sc.least;rw[s,Q,Z,<-hm];rfl
 rw[h9];obtain⟨T,U⟩:∃T:Tk,T={ t with min:=m,e:=e.half t.hi,on:=zt }:=⟨_,rfl⟩
 rw[<-U];have C:Hi S n T:=by rw[U];exact⟨H.OG,H.pool,H.hi,H.at_,H.TC,H.wt,H.mask,o,H.nice,K⟩
 have I:T.on=zt:=by rw[U]
 have W:∀p,p<S.ps->qM (S.hs p) (OV S.hs t.p ((S.hs t.p).drop g.hi t.hi) p):=fun p _=>by
  by_cases e:p=t.p
  .subst e;rw[yR];exact a2
  .rw[yQ _ _ e];exact .refl _
 refine⟨A.RY,A.ps,A.tick,A.credit,A.lat,A.tr,A.tok,A.dA,?_,A.gl,A.g0,A.gk,A.pl,A.gu,?_,?_,?_,?_,?_,?_,?_,?_,A.ck,A.bk⟩
 .show(S.ts.set n T).length<=b;rw[zD];exact A.tl
 .intro k y V h7 j;obtain⟨R,a,h3⟩:=A.gx k y V h7 j;exact⟨R,a,h3⟩
 .intro k u D h8;rcases xh D with⟨rfl,rfl⟩|⟨J,D⟩
  .exact C.of rfl rfl rfl rfl
  .exact(A.tk k u D h8).of rfl rfl rfl rfl
 .intro k u D O;rcases xh D with⟨rfl,rfl⟩|⟨J,D⟩
  .rw[I]at O;cases O
  .exact A.dead k u D O
 .intro p B i;show(((OV S.hs t.p ((S.hs t.p).drop g.hi t.hi)) p).gs i).isSome=(S.pl i).isSome;rw[Dz (W p B) i];exact A.hk p B i
 .intro p B i z F j;rcases(W p B).gs i with⟨_,a⟩|⟨z0,z1,R,a,h3,h4⟩
  .rw[show(((S.OY n T).OM t.p ((S.hs t.p).drop g.hi t.hi)).hs p).gs i=_ from rfl]at F;exact absurd (a.symm.trans F) (by simp)
  .have ha:zo z1=zo z:=a.symm.trans F;obtain rfl:=zx ha;obtain⟨h5,h6⟩:=A.hu p B i z0 R j;exact⟨h3.trans h5,h4.trans h6⟩
 .intro p B;exact(W p B).cr.trans (A.hc p B)
 .intro p B;show((OV S.hs t.p ((S.hs t.p).drop g.hi t.hi)) p).PD;by_cases e:p=t.p
  .subst e;rw[yR];exact VA (d _ B) (A.hf _ B) _ _
  .rw[yQ _ _ e];exact A.hf p B
 .intro p B i k;show((OV S.hs t.p ((S.hs t.p).drop g.hi t.hi)) p).even i k↔∃(n':Nat) (t':Tk) (g':Gp),(S.ts.set n T)[n']?=zo t'/\t'.on=zq/\t'.p=p/\S.gs[t'.OG]?=zo g'/\g'.hi=i/\t'.hi=k;by_cases e:p=t.p
  .subst e;rw[yR,a3];constructor
   .rintro⟨h,r⟩;obtain⟨n',u,y,D,E,G,V,M,N⟩:=(A.ev t.p c i k).1 r;have Y:n'≠n:=by rintro rfl;rw[X]at D;obtain rfl:=zx D;rw[l]at V;obtain rfl:=zx V;exact h ⟨M.symm,by rw[<-N]⟩
    exact⟨n',u,y,by rw[zC (Ne.symm Y)];exact D,E,G,V,M,N⟩
   .rintro⟨n',u,y,D,E,G,V,M,N⟩;rcases xh D with⟨rfl,rfl⟩|⟨J,D⟩
    .rw[I]at E;cases E
    .refine⟨?_,(A.ev t.p c i k).2 ⟨n',u,y,D,E,G,V,M,N⟩⟩;rintro⟨_,hh⟩;exact J (A.one D (A.dead n' u D E) X hd (by omega))
  .rw[yQ _ _ e,A.ev p B i k];constructor
   .rintro⟨n',u,y,D,E,G,hr⟩;have Y:n'≠n:=by rintro rfl;rw[X]at D;obtain rfl:=zx D;exact e G.symm
    exact⟨n',u,y,by rw[zC (Ne.symm Y)];exact D,E,G,hr⟩
   .rintro⟨n',u,y,D,E,G,hr⟩;rcases xh D with⟨rfl,rfl⟩|⟨J,D⟩
    .rw[I]at E;cases E
    .exact⟨n',u,y,D,E,G,hr⟩
theorem Md(v f t:Int): -9223372036854775808<=uP v f t/\uP v f t<=9223372036854775807:=YY _ _
theorem Me(h:S.ts[n]?=zo t):S.OY n t=S:=by
 obtain⟨B,A⟩:=yy h;have:S.ts.set n t=S.ts:=by rw[<-A];exact List.set_getElem_self B
 unfold Sc.OY;rw[this]
theorem Tx(S:Sc)(n:Nat)(t t':Tk):(S.OY n t).OY n t'=S.OY n t':=by simp[Sc.OY]
theorem Sc.Ok.iP(A:S.Ok b){g:Gp}(M:S.ts[n]?=zo t)(hd:t.dead=zt)(T:t.on=zt)(R:S.gs[t.OG]?=zo g)(O:g.there=zq)(I:p<S.ps):∃x,(S.hs p).gs g.hi=zo x/\x.q.get (2*(t.hi:Int))=zp:=by
 obtain⟨_,B⟩:=A.gk _ g R O;have hk:=A.hk p I g.hi;rw[B]at hk;obtain⟨x,J⟩:=Option.isSome_iff_exists.1 hk;refine⟨x,J,?_⟩;cases he:x.q.get (2*(t.hi:Int))with
 | none=>rfl
 | some e=>
  have U:x.q.has (2*(t.hi:Int)):=Vq.2 (by rw[he];simp);obtain⟨m,u,y,G,E,_,_,_,D⟩:=(A.ev p I g.hi t.hi).1 ⟨x,J,U⟩;have H:=(A.on G E).at_;have N:=(A.tk n t M hd).at_;rw[D,N]at H;subst H;rw[M]at G;obtain rfl:=zx G;rw[T]at E;cases E
theorem RR.cV{gb:Nat->Nat}(h:RR w b gb t)(v:Int):RR (w.setCell ⟨b,11,zp⟩ (zd zj v)) b gb { t with e:={ t.e with v:=v } }:=yD h
theorem Wu(n p:Nat)(woke:Bool)(t:Tk)(b:Nat)(w:zu)(F:Nat->Prop)(s:Nat)(S:Sc)(L:Lay)(h:yK w F s S L)(ok:S.Ok b)(P:S.ts[n]?=zo t)(hd:t.dead=zt)(ho:t.on=zt)(hp:p<S.ps):
 zw prog 89 #[ptr s,ptr (L.tb n),zd zj p,zh woke] w fun z w'=>(∃v,z=zm v)/\yG w F s (S.put n p woke) L w':=by
 have hT:=ok.tk n t P hd;obtain⟨g,hg,h2⟩:=hT.OG;obtain⟨x,hx,h9⟩:=ok.iP P hd ho hg h2 hp;have HX:=yw hx;have H5:=yw h9;have W:=Sc.RV P;have h0:=Sc.PE hg;have hz:=hT.hi;have H6:=ok.hc p hp;have H7:=ok.credit;have j:=hT.e;have h8:=hT.min;obtain⟨m,hm⟩:=yB ((S.hs p).minOf g.hi)
 have hq: -9223372036854775808<=m/\m<=9223372036854775807:=by obtain⟨G,hH,_⟩:=h.SX hp;rw[hm];unfold Hm.minOf;rw[hx];exact(hH.2.q _ _ hx).1.min
 obtain⟨J,l⟩:=yB ((if p=t.p then t.e.v else uP t.e.v t.min m))
 obtain⟨V,hV⟩:=yB ((if woke=zq then Je J m S.credit else J))
 have K: -9223372036854775808<=J/\J<=9223372036854775807:=by
  rw[l];split
  .exact j.1.v
  .exact Md _ _ _
 have hu: -9223372036854775808<=V/\V<=9223372036854775807:=by
  rw[hV];split
  .exact Fr K
  .exact K
 have hj:S.put n p woke=((S.OY n (t.SF p V)).OM p ((S.hs p).put g.hi { t.e with v:=V })):=by
  have H2:S.TP n p woke=V:=by unfold Sc.TP Sc.least;rw[W,h0,<-hm,hV,l]
  unfold Sc.put;rw[H2,W,h0];rfl
 have H1:=yw hj;have HC:Hid (∀(w':zu) (F':Nat->Prop) (y:Tk),yK w' F' s (S.OY n y) L->w'.cell? ⟨L.tb n,5,zp⟩=zo (ptr (L.gb t.OG))->zw prog 88 #[ptr s,ptr (L.tb n),zd zj p] w' fun z H3=>z=zm (zd zj m)/\Below w'.heap.size w' H3):=yw (fun w' F' y hb c5=>by rw[hm];exact Jw (L.tb n) t.OG p g w' F' s (S.OY n y) L hb hg (ok.hi hg h2) hp c5);obtain⟨HH,C,HG⟩:=Qe h P hg;have H8:(p:Int) <(S.ps:Int):=by omega
 obtain⟨ht,HV,f,h6⟩:=Qf l hV j (show t.e.id=t.hi from j.2);obtain⟨t0,t1,t2,t3,t4,o,t6,t7,t8,t9,X,D,Z,N⟩:=(h.tk P).TY;have B:=(h.tk P).lt;have M:=(h.tk P).OH;clear h ok P hd ho hT h2 hx h9 W h0 hm hj l hV j;go_enter func89,ntmps89;go_upto_if 13 with(fail)
 go_cut []from 13 to 34 (fun wc=>yG w F s (S.OY n { t with e:={ t.e with v:=J } }) L wc)
 case first=>
  by_cases d:p=t.p
  .have hb:((p:Int) != (t.p:Int))=zt:=by rw[d];simp
   have c:J=t.e.v:=by rw[ht.out,if_pos d]
   have h5:Hid (yG w F s (S.OY n { t with e:={ t.e with v:=J } }) L w):=yw (by rw[c];rw[show S.OY n { t with e:={ t.e with v:=t.e.v } }=S from Me C.out];exact yG.refl HH.out);clear c d;go_wp2_with fail;go_meet
   case rel=>exact h5.out
  .have hb:((p:Int) != (t.p:Int))=zq:=by simp;omega
   have c:J=uP t.e.v t.min m:=by rw[ht.out,if_neg d]
   have h4:=yw c;have Q:=h8;have H4:=f.out.1.v;clear c d t0 t1 t2 t3 t4 t6 t7 t8 t9 X Z;go_wp2_with fail;go_region_with
    (first
     | (
      go_at_call 88;refine(HC.out w.drew F t ((by rw[Me C.out];exact HH.out:yK w F s (S.OY n t) L).kept fun k _ _=>rfl) o).mono ?_;rintro z w4 ⟨rfl,A⟩;have a:=yw (show Below w.heap.size w w4 from⟨A.os,A.tape,A.output,A.size,A.block⟩);replace D:=(A.cell (p:=⟨L.tb n,11,zp⟩) B).trans D;replace N:=(A.cell (p:=⟨L.tb n,13,zp⟩) B).trans N;replace B:=yz B A.size;clear A M o)
     | (
      go_at_call 130;refine(Lh t.e.v t.min m w4 H4 Q hq).mono ?_;rintro z w5 ⟨rfl,E⟩;rw[<-h4.out];have T:=yw (yC a.out E a.out.size);replace D:=(E.cell (p:=⟨L.tb n,11,zp⟩) B).trans D;replace B:=yz B E.size;have M:=(HH.out.behind T.out |>.tk C.out).OH;clear E N))
   all_goals
    go_wp2_with fail;go_meet
    case rel=>
     have ha:=HH.out.behind T.out;exact yG.NZ T.out (ha.AU C.out (OA.refl _ _).one ((ha.tk C.out).cV J))
 case rest=>
  have H:=yw hcut;clear hcut t0 t1 t2 t3 t4 o t6 t7 t8 t9 X D Z N B M;have O:=yw (vj (t':={ t with e:={ t.e with v:=J } }) C.out);go_upto_if 35 with(fail)
  go_cut []from 35 to 54 (fun wd=>yG w F s (S.OY n { t with e:={ t.e with v:=V } }) L wd)
  case first=>
   cases woke with
   | false=>
    have c:V=J:=by rw[HV.out,if_neg (by decide)]
    have h5:Hid (yG w F s (S.OY n { t with e:={ t.e with v:=V } }) L wc):=yw (by rw[c];exact H.out);clear c;go_wp2_with fail;go_meet
    case rel=>exact h5.out
   | true=>
    have c:V=Je J m S.credit:=by rw[HV.out,if_pos rfl]
    have h4:=yw c;obtain⟨-,-,-,-,-,o,-,-,-,-,-,D,-,-⟩:=(H.out.1.tk O.out).TY;have B:=(H.out.1.tk O.out).lt;obtain⟨s3,Y⟩:wc.cell? ⟨s,3,zp⟩=zo (zd zj S.credit)/\s<wc.heap.size:=by obtain⟨tg,hh⟩:=H.out.1;exact⟨hh.sx.c3,hh.sx.lt⟩
    clear c;go_wp2_with fail;go_region_with
     (first
      | (
       go_at_call 88;refine(HC.out wc.drew _ _ (H.out.1.kept fun k _ _=>rfl) o).mono ?_;rintro z w4 ⟨rfl,A⟩;have a:=yw (show Below wc.heap.size wc w4 from⟨A.os,A.tape,A.output,A.size,A.block⟩);replace D:=(A.cell (p:=⟨L.tb n,11,zp⟩) B).trans D;replace s3:=(A.cell (p:=⟨s,3,zp⟩) Y).trans s3;replace B:=yz B A.size;replace Y:=yz Y A.size;clear A o)
      | (
       go_at_call 137;refine(Rj J m S.credit w4 hq (by omega)).mono ?_;rintro z w5 ⟨rfl,E⟩;rw[<-h4.out];have T:=yw (yC a.out E a.out.size);replace D:=(E.cell (p:=⟨L.tb n,11,zp⟩) B).trans D;replace B:=yz B E.size;have M:=(H.out.1.behind T.out |>.tk O.out).OH;clear E s3))
    all_goals
     go_wp2_with fail;go_meet
     case rel=>
      have h1:=H.out.below T.out;have h:=h1.then (h1.1.AU O.out (OA.refl _ _).one ((h1.1.tk O.out).cV V));rw[Tx]at h;exact h
  case rest=>
   have R:=yw hcut;clear hcut;have U:=yw (vj (t':={ t with e:={ t.e with v:=V } }) C.out);obtain⟨-,-,-,t3,t4,-,-,-,-,-,-,-,-,-⟩:=(R.out.1.tk U.out).TY;have B:=(R.out.1.tk U.out).lt;have M:=(R.out.1.tk U.out).OH;go_wp2_with fail;have y1:RR (wc.setCell ⟨L.tb n,4,zp⟩ (zd zj p)) (L.tb n) L.gb { t with p:=p,e:={ t.e with v:=V } }:=yD (R.out.1.tk U.out);have y2:RR ((wc.setCell ⟨L.tb n,4,zp⟩ (zd zj p)).setCell ⟨L.tb n,3,zp⟩ (zh zq)) (L.tb n) L.gb (t.SF p V):=yD y1
   have RJ:OA (fun k=>k=L.tb n) wc ((wc.setCell ⟨L.tb n,4,zp⟩ (zd zj p)).setCell ⟨L.tb n,3,zp⟩ (zh zq)):=(OA.refl (fun k=>k=L.tb n) wc).one.one;have h3:=R.out.then (R.out.1.AU U.out RJ y2);rw[Tx]at h3;obtain⟨u,hl⟩:=yB ((wc.setCell ⟨L.tb n,4,zp⟩ (zd zj p)).setCell ⟨L.tb n,3,zp⟩ (zh zq))
   rw[<-hl]at h3 ⊢;have I:=yw h3;clear hl y1 y2 RJ h3 t3 t4 B M H O HC;have hf:=yw (vj (t':=t.SF p V) C.out);obtain⟨r,H9,hv⟩:=HH.out.eD hp;obtain⟨h7,rp,H0⟩:=I.out.1.SK (p:=p) hp hv;obtain⟨t0,t1,t2,t3,t4,o,t6,t7,t8,t9,X,D,Z,N⟩:=(I.out.1.tk hf.out).TY;have B:=(I.out.1.tk hf.out).lt;obtain⟨g0,g1,g2,g3,g4,g5,g6⟩:=(I.out.1.gp HG.out).c7;have hy:=(I.out.1.gp HG.out).lt;have Y:=I.out.1.RZ.2;obtain⟨G,hH,hU⟩:=I.out.1.SX (p:=p) hp;have HU:=yw hU
   have HP:Hid (zw prog 138 #[ptr (L.hb p),zd zj g.hi,zg #[zd zj t.e.id,zd zk t.e.w,zd zj V,zd zk t.e.rem]] u.drew fun z w'=>z=zm (zd zj 0)/\qv u.drew G (L.hb p) ((S.hs p).put g.hi { t.e with v:=V }) w'):=yw (CM g.hi t.hi { t.e with v:=V } u.drew G (L.hb p) (S.hs p) x (hH.kept fun k _ _=>rfl) HX.out ⟨f.out.1.id,f.out.1.w,hu,f.out.1.rem⟩ hz h6.out H5.out (by rw[H6];omega));clear t0 t1 t2 t3 t4 t6 t7 t8 N g0 g2 g3 g4 g5 g6 hv hU hH;simp only[Tk.SF]at t9 X D Z o;go_region_with
    (
     go_at_call 138;refine HP.out.mono ?_;rintro z w4 ⟨rfl,hr⟩;have hw:=yw (HU.out _ _ (qv.NZ (F:=G) (⟨rfl,rfl,rfl,yA _,fun _ _=>rfl⟩:Below u.heap.size u u.drew) hr));clear hr o t9 X D Z g1 h7 rp H0 B hy Y)
   all_goals
    go_end0;refine⟨⟨_,rfl⟩,?_⟩;rw[H1.out];exact I.out.then hw.out
theorem Ty{woke:Bool}(B: -9223372036854775808<=(S.t n).e.v/\(S.t n).e.v<=9223372036854775807): -9223372036854775808<=S.TP n p woke/\S.TP n p woke<=9223372036854775807:=by
 unfold Sc.TP;simp only;have A: -9223372036854775808<=(if p=(S.t n).p then(S.t n).e.v else uP (S.t n).e.v (S.t n).min (S.least n p))/\(if p=(S.t n).p then(S.t n).e.v else uP (S.t n).e.v (S.t n).min (S.least n p))<=9223372036854775807:=by
  split
  .exact B
  .exact Md _ _ _
 split
 .exact Fr A
 .exact A
theorem Sc.Ok.put(A:S.Ok b)(hq:∀p,p<S.ps->(S.hs p).Ok)(l:S.ts[n]?=zo t)(hd:t.dead=zt)(ho:t.on=zt)(j:p<S.ps)(woke:Bool):(S.put n p woke).Ok b:=by
 have G:=A.tk n t l hd;obtain⟨g,o,h8⟩:=G.OG;obtain⟨x,hx,d⟩:=A.iP l hd ho o h8 j;have c:=Sc.RV l;have L:=Sc.PE o;obtain⟨V,hV⟩:=yB (S.TP n p woke)
 have K: -9223372036854775808<=V/\V<=9223372036854775807:=by rw[hV];exact Ty (by rw[c];exact G.e.1.v)
 have O:({ t.e with v:=V }:En).Ok:=⟨G.e.1.id,G.e.1.w,K,G.e.1.rem⟩
 obtain⟨a1,a2,a3⟩:=Ln (hq p j) hx O G.hi G.e.2 d;have he:S.put n p woke=((S.OY n (t.SF p V)).OM p ((S.hs p).put g.hi { t.e with v:=V })):=by unfold Sc.put;rw[<-hV,c,L];rfl
 have hF:=FC (hq p j) (A.hf p j) hx O G.hi G.e.2 d;rw[he];obtain⟨J,H⟩:∃J:Tk,J=t.SF p V:=⟨_,rfl⟩
 have h9:Hi S n J:=by rw[H];exact⟨G.OG,G.pool,G.hi,G.at_,j,G.wt,G.mask,⟨O,G.e.2⟩,G.nice,G.min⟩
 have q:J.on=zq:=by rw[H];rfl
 have Y:J.p=p:=by rw[H];rfl
 have a:J.OG=t.OG:=by rw[H];rfl
 have m:J.hi=t.hi:=by rw[H];rfl
 have s:J.dead=zt:=by rw[H];exact hd
 rw[<-H];obtain⟨U,Q⟩:∃U,U=(S.hs p).put g.hi { t.e with v:=V }:=⟨_,rfl⟩
 rw[<-Q]at a1 a2 a3 hF ⊢;have P:∀k,k<S.ps->qM (S.hs k) (OV S.hs p U k):=fun k _=>by
  by_cases e:k=p
  .subst e;rw[yR];exact a2
  .rw[yQ _ _ e];exact .refl _
 refine⟨A.RY,A.ps,A.tick,A.credit,A.lat,A.tr,A.tok,A.dA,?_,A.gl,A.g0,A.gk,A.pl,A.gu,?_,?_,?_,?_,?_,?_,?_,?_,A.ck,A.bk⟩
 .show(S.ts.set n J).length<=b;rw[zD];exact A.tl
 .intro k y f C h0;obtain⟨h,T,F⟩:=A.gx k y f C h0;exact⟨h,T,F⟩
 .intro k u B ha;rcases xh B with⟨rfl,rfl⟩|⟨E,B⟩
  .exact h9.of rfl rfl rfl rfl
  .exact(A.tk k u B ha).of rfl rfl rfl rfl
 .intro k u B h7;rcases xh B with⟨rfl,rfl⟩|⟨E,B⟩
  .exact s
  .exact A.dead k u B h7
 .intro k D i;show(((OV S.hs p U) k).gs i).isSome=(S.pl i).isSome;rw[Dz (P k D) i];exact A.hk k D i
 .intro k D i z hz h0;rcases(P k D).gs i with⟨_,T⟩|⟨z0,z1,h,T,F,h4⟩
  .exact absurd (T.symm.trans hz) (by simp)
  .have W:zo z1=zo z:=T.symm.trans hz;obtain rfl:=zx W;obtain⟨h5,h6⟩:=A.hu k D i z0 h h0;exact⟨F.trans h5,h4.trans h6⟩
 .intro k D;exact(P k D).cr.trans (A.hc k D)
 .intro k D;show((OV S.hs p U) k).PD;by_cases e:k=p
  .subst e;rw[yR];exact hF
  .rw[yQ _ _ e];exact A.hf k D
 .intro r D i k;show((OV S.hs p U) r).even i k↔∃(n':Nat) (t':Tk) (g':Gp),(S.ts.set n J)[n']?=zo t'/\t'.on=zq/\t'.p=r/\S.gs[t'.OG]?=zo g'/\g'.hi=i/\t'.hi=k;have R:=(yy l).1;have fO:(∃(n':Nat) (t':Tk) (g':Gp),(S.ts.set n J)[n']?=zo t'/\n'≠n/\t'.on=zq/\t'.p=r/\S.gs[t'.OG]?=zo g'/\g'.hi=i/\t'.hi=k)↔(S.hs r).even i k:=by
   rw[A.ev r D i k];constructor
   .rintro⟨n',u,y,B,E,N⟩;rw[zC (Ne.symm E)]at B;exact⟨n',u,y,B,N⟩
   .rintro⟨n',u,y,B,I,N⟩;have E:n'≠n:=by rintro rfl;rw[l]at B;obtain rfl:=zx B;rw[ho]at I;cases I
    exact⟨n',u,y,by rw[zC (Ne.symm E)];exact B,E,I,N⟩
  by_cases e:r=p
  .subst e;rw[yR,a3,<-fO];constructor
   .rintro(⟨h,T⟩|⟨n',u,y,B,_,N⟩)
    .exact⟨n,J,g,by rw[zT R],q,Y,by rw[a];exact o,h.symm,by rw[m];omega⟩
    .exact⟨n',u,y,B,N⟩
   .rintro⟨n',u,y,B,I,M,f,X,Z⟩;by_cases E:n'=n
    .subst E;rw[zT R]at B;obtain rfl:=zx B;rw[a,o]at f;obtain rfl:=zx f;exact .inl ⟨X.symm,by rw[<-Z,m]⟩
    .exact .inr ⟨n',u,y,B,E,I,M,f,X,Z⟩
  .rw[yQ _ _ e,<-fO];constructor
   .rintro⟨n',u,y,B,_,N⟩;exact⟨n',u,y,B,N⟩
   .rintro⟨n',u,y,B,I,M,N⟩;have E:n'≠n:=by rintro rfl;rw[zT R]at B;obtain rfl:=zx B;exact e (M.symm.trans Y)
    exact⟨n',u,y,B,E,I,M,N⟩
theorem Sc.Ok.OM(B:S.Ok b)(hp:p<S.ps){D:Hm}(Y:qM (S.hs p) D)(f:∀k i,D.even k i↔(S.hs p).even k i)(X:D.PD):(S.OM p D).Ok b:=by
 have I:∀k,k<S.ps->qM (S.hs k) (OV S.hs p D k):=fun k _=>by
  by_cases e:k=p
  .subst e;rw[yR];exact Y
  .rw[yQ _ _ e];exact .refl _
 refine⟨B.RY,B.ps,B.tick,B.credit,B.lat,B.tr,B.tok,B.dA,B.tl,B.gl,B.g0,B.gk,B.pl,B.gu,?_,?_,B.dead,?_,?_,?_,?_,?_,B.ck,B.bk⟩
 .intro k y Z J G;obtain⟨H,E,M⟩:=B.gx k y Z J G;exact⟨H,E,M⟩
 .intro k u a N;exact(B.tk k u a N).of rfl rfl rfl rfl
 .intro k A i;show(((OV S.hs p D) k).gs i).isSome=(S.pl i).isSome;rw[Dz (I k A) i];exact B.hk k A i
 .intro k A i z R G;rcases(I k A).gs i with⟨_,E⟩|⟨c,U,H,E,M,T⟩
  .exact absurd (E.symm.trans R) (by simp)
  .have O:zo U=zo z:=E.symm.trans R;obtain rfl:=zx O;obtain⟨V,d⟩:=B.hu k A i c H G;exact⟨M.trans V,T.trans d⟩
 .intro k A;exact(I k A).cr.trans (B.hc k A)
 .intro k A;show((OV S.hs p D) k).PD;by_cases e:k=p
  .subst e;rw[yR];exact X
  .rw[yQ _ _ e];exact B.hf k A
 .intro r A i k;show((OV S.hs p D) r).even i k↔_;by_cases e:r=p
  .subst e;rw[yR,f];exact B.ev r A i k
  .rw[yQ _ _ e];exact B.ev r A i k
theorem Sc.Ok.alike(G:S.Ok b)(D:p<S.ps){A:Hm}(B:ua (S.hs p) A)(E:A.PD):(S.OM p A).Ok b:=G.OM D B.dQ B.even E
theorem Sc.Ok.PZ(A:S.Ok b)(p:Nat)(O:Xj b c/\c.lat=S.lat):(S.PZ p c).Ok b:=by
 refine⟨A.RY,A.ps,A.tick,A.credit,A.lat,A.tr,A.tok,A.dA,A.tl,A.gl,A.g0,A.gk,A.pl,A.gu,?_,?_,A.dead,A.hk,A.hu,A.hc,A.hf,A.ev,?_,A.bk⟩
 .intro k y G D M;obtain⟨I,E,N⟩:=A.gx k y G D M;exact⟨I,E,N⟩
 .intro k u J B;exact(A.tk k u J B).of rfl rfl rfl rfl
 .intro r H;show Xj b ((OV S.cs p c) r)/\((OV S.cs p c) r).lat=S.lat;by_cases e:r=p
  .subst e;rw[yR];exact O
  .rw[yQ _ _ e];exact A.ck r H
theorem Sc.Ok.OF(A:S.Ok b){g g':Gp}(f:S.gs[n]?=zo g)(t:n≠0)(s:g'.hi=g.hi)(r:g'.hg=g.hg)(o:g'.there=g.there)(l:g.there=zq->NF S b g'):(S.OF n g').Ok b:=by
 have c:=(yy f).1;have U:∀(m:Nat) (y:Gp),(S.gs.set n g')[m]?=zo y->∃z,S.gs[m]?=zo z/\y.hi=z.hi/\y.hg=z.hg/\y.there=z.there/\(m≠n->y=z):=fun m y B=>by
  rcases xh B with⟨rfl,rfl⟩|⟨Y,B⟩
  .exact⟨g,f,s,r,o,fun h=>absurd rfl h⟩
  .exact⟨y,B,rfl,rfl,rfl,fun _=>rfl⟩
 have I:∀(m:Nat) (z:Gp),S.gs[m]?=zo z->∃y,(S.gs.set n g')[m]?=zo y/\y.hi=z.hi/\y.hg=z.hg/\y.there=z.there:=fun m z D=>by
  by_cases e:m=n
  .subst e;rw[f]at D;obtain rfl:=zx D;exact⟨g',by rw[zT c],s,r,o⟩
  .exact⟨z,by rw[zC (Ne.symm e)];exact D,rfl,rfl,rfl⟩
 refine⟨A.RY,A.ps,A.tick,A.credit,A.lat,A.tr,A.tok,A.dA,A.tl,?_,?_,?_,?_,A.gu,?_,?_,A.dead,A.hk,A.hu,A.hc,A.hf,?_,A.ck,A.bk⟩
 .show 1<=(S.gs.set n g').length/\(S.gs.set n g').length<=b+1;rw[zD];exact A.gl
 .obtain⟨x,F,C⟩:=A.g0;exact⟨x,by show(S.gs.set n g')[0]?=_;rw[zC t];exact F,C⟩
 .intro m y B G;obtain⟨z,D,E,j,X,_⟩:=U m y B;obtain⟨T,R⟩:=A.gk m z D (by rw[<-X];exact G);exact⟨by rw[E,j];exact T,by rw[E];exact R⟩
 .intro i m K;obtain⟨z,D,M,J⟩:=A.pl i m K;obtain⟨y,B,E,j,X⟩:=I m z D;exact⟨y,B,by rw[X];exact M,by rw[E];exact J⟩
 .intro m y B G a;rcases xh B with⟨rfl,rfl⟩|⟨Y,B⟩
  .obtain⟨T,R,d⟩:=l (by rw[<-o];exact G);exact⟨T,R,d⟩
  .obtain⟨T,R,d⟩:=A.gx m y B G a;exact⟨T,R,d⟩
 .intro k u V q;have h:=A.tk k u V q;obtain⟨z,D,M⟩:=h.OG;obtain⟨y,B,E,j,X⟩:=I _ z D;exact⟨⟨y,B,by rw[X];exact M⟩,h.pool,h.hi,h.at_,h.TC,h.wt,h.mask,h.e,h.nice,h.min⟩
 .intro p v i k;rw[show((S.OF n g').hs p).even i k↔(S.hs p).even i k from Iff.rfl,A.ev p v i k];constructor
  .rintro⟨m,u,z,V,N,H,D,J,O⟩;obtain⟨y,B,E,_,_⟩:=I _ z D;exact⟨m,u,y,V,N,H,B,by rw[E];exact J,O⟩
  .rintro⟨m,u,y,V,N,H,B,Z,O⟩;obtain⟨z,D,E,_,_,_⟩:=U _ y B;exact⟨m,u,z,V,N,H,D,by rw[<-E];exact Z,O⟩
def Sc.Fit(S:Sc)(b:Nat):Prop:=S.Ok b/\∀p,p<S.ps->(S.hs p).Ok
def Sc.ST(S A:Sc):Prop:=∃hs,A={ S with hs:=hs }
theorem Sc.ST.refl(S:Sc):S.ST S:=⟨S.hs,rfl⟩
theorem Sc.ST.OM{A:Sc}(h:S.ST A)(p:Nat)(x:Hm):S.ST (A.OM p x):=by obtain⟨hs,rfl⟩:=h;exact⟨_,rfl⟩
theorem Sc.Fit.alike(h:S.Fit b)(D:p<S.ps){A:Hm}(B:ua (S.hs p) A)(E:A.PD):(S.OM p A).Fit b:=by
 refine⟨h.1.alike D B E,fun k hk=>?_⟩;show((OV S.hs p A) k).Ok;by_cases e:k=p
 .subst e;rw[yR];exact B.ok
 .rw[yQ _ _ e];exact h.2 k hk
theorem Uv{S:Sc}{b:Nat}(h:S.Fit b)(g:Nat)(A:List Int):∀k,k<=S.ps->(S.RE g A k).Fit b/\S.ST (S.RE g A k)
 | 0,_=>⟨h,.refl S⟩
 | k+1,hk=>by
  obtain⟨B,G⟩:=Uv h g A k (by omega);unfold Sc.RE;simp only;have D:(S.RE g A k).ps=S.ps:=by obtain⟨hs,e⟩:=G;rw[e]
  have E:k<(S.RE g A k).ps:=by rw[D];omega
  split
  .obtain⟨w1,H⟩:=Lv (S.g g).shares (A.getD k 0) A.sum;exact⟨B.alike E (Jm (B.2 k E) _ w1 H) (KR (B.1.hf k E) _ _),G.OM _ _⟩
  .exact⟨B,G⟩
theorem VG(h:S.Fit b)(g:Nat):(S.OT g).Fit b/\S.ST (S.OT g):=Uv h g _ _ (yA _)
theorem Sc.ST.trans{a b c:Sc}(h:a.ST b)(A:b.ST c):a.ST c:=by obtain⟨h1,rfl⟩:=h;obtain⟨B,rfl⟩:=A;exact⟨B,rfl⟩
theorem Uw{S:Sc}{b:Nat}(h:S.Fit b):∀k,(S.PO k).Fit b/\S.ST (S.PO k)
 | 0=>⟨h,.refl S⟩
 | k+1=>by
  obtain⟨B,A⟩:=Uw h k;unfold Sc.PO;simp only;split
  .exact⟨B,A⟩
  .split
   .exact⟨B,A⟩
   .obtain⟨E,D⟩:=VG B _;exact⟨E,A.trans D⟩
theorem FH(h:S.Fit b)(A:p<S.ps):(S.OM p (S.hs p).pick.1).Fit b:=h.alike A (Un (h.2 p A)) (Hm.PD.pick (h.2 p A) (h.1.hf p A))
theorem Mf(h:S.Fit b)(A:p<S.ps):(S.OM p (S.hs p).yield.1).Fit b:=h.alike A (Sd (h.2 p A)) (KS (h.2 p A) (h.1.hf p A))
theorem Hp(h:S.Fit b)(A:p<S.ps)(ns:Int):(S.OM p ((S.hs p).OK ns)).Fit b:=h.alike A (Ir (h.2 p A) ns) (Hm.PD.OK (h.2 p A) (h.1.hf p A) ns)
theorem Jy(h:S.Fit b)(A:p<S.ps)(g:Nat)(v:Bool):(S.OM p ((S.hs p).stop g v)).Fit b:=h.alike A (QN (h.2 p A) g v) (VB (h.2 p A) (h.1.hf p A) g v)
theorem FI(h:S.Fit b)(A:p<S.ps)(g k:Nat)(w:Int):(S.OM p ((S.hs p).nice g k w)).Fit b:=h.alike A (Fw (h.2 p A) g k w) (VC (h.1.hf p A) g k w)
theorem Ql(h:S.Fit b)(A:S.ts[n]?=zo t)(B:t.on=zq):(S.leave n).Fit b:=by
 refine⟨h.1.leave h.2 A B,fun p G=>?_⟩;have D:=h.1.on A B;obtain⟨g,E,_⟩:=D.OG;obtain⟨x,e,H,_⟩:=h.1.stands A B E;show((OV S.hs (S.t n).p ((S.hs (S.t n).p).drop (S.g (S.t n).OG).hi (S.t n).hi)) p).Ok;rw[Sc.RV A,Sc.PE E];by_cases e:p=t.p
 .subst e;rw[yR];exact(Fv (h.2 _ D.TC) H t.hi).1
 .rw[yQ _ _ e];exact h.2 p G
theorem Bp(h:S.Fit b)(D:S.ts[n]?=zo t)(hd:t.dead=zt)(O:t.on=zt)(H:p<S.ps)(woke:Bool):(S.put n p woke).Fit b:=by
 refine⟨h.1.put h.2 D hd O H woke,fun k hk=>?_⟩;have A:=h.1.tk n t D hd;obtain⟨g,N,G⟩:=A.OG;obtain⟨x,R,I⟩:=h.1.iP D hd O N G H;have B:=Sc.RV D;have J:=Sc.PE N;have M:=Ty (S:=S) (n:=n) (p:=p) (woke:=woke) (by rw[B];exact A.e.1.v);have E:({ t.e with v:=S.TP n p woke }:En).Ok:=⟨A.e.1.id,A.e.1.w,M,A.e.1.rem⟩
 obtain⟨T,_,_⟩:=Ln (h.2 p H) R E A.hi A.e.2 I;show((OV S.hs p ((S.hs p).put (S.g (S.t n).OG).hi ((S.t n).SF p (S.TP n p woke)).e)) k).Ok;rw[B,J];by_cases e:k=p
 .subst e;rw[yR];exact T
 .rw[yQ _ _ e];exact h.2 k hk
def Hm.cD(h:Hm)(g:Nat):Nat->Nat->Prop
 | 0,d=>d=g
 | n+1,d=>∃(c:Nat) (y:Gr),Hm.cD h g n c/\h.gs d=zo y/\y.up=c/\y.on=zq
theorem cD.trans{h:Hm}{g c n:Nat}(a:h.cD g n c):∀(m d:Nat),h.cD c m d->h.cD g (n+m) d
 | 0,d,hd=>by have:d=c:=hd;subst this;exact a
 | m+1,d,⟨e,y,h1,h2⟩=>⟨e,y,cD.trans a m e h1,h2⟩
theorem Mg:∀(k:Nat) {h:Hm} (hk:h.Ok) (g:Nat),0<=(h.down PC PC k g).2.2->∃n,h.cD g n (h.down PC PC k g).2.1/\h.even (h.down PC PC k g).2.1 ((h.down PC PC k g).2.2/2)
 | 0,h,hk,g,B=>by have:(0:Int)<= -1:=B;omega
 | k+1,h,hk,g,B=>by
  revert B
  unfold Hm.down;cases hx:h.gs g with
  | none=>intro B;have:(0:Int)<= -1:=B;omega
  | some x=>
   simp only;have e:(h.set g (x.OD (PC x.q))).set g ((x.OD (PC x.q)).OD (PC (PC x.q)))=h:=by have I:h.set g (x.OD (PC x.q))=h:=qY (x:=x.OD (PC x.q)) hx;rw[I];exact qY (x:=(x.OD (PC x.q)).OD (PC (PC x.q))) hx
   rw[e];have H:=(hk.q g x hx).1;split
   .rename_i O;intro B;have h4:0<=(PC x.q).cur:=B;refine⟨0,rfl,x,hx,?_⟩;have A:x.q.has x.q.cur:=H.cur.resolve_left (by have:(PC x.q).cur=x.q.cur:=rfl;omega);have G:2*((PC x.q).cur/2)=x.q.cur:=by have:(PC x.q).cur=x.q.cur:=rfl;omega
    show x.q.has (2*((PC x.q).cur/2));rw[G];exact A
   .rename_i O;intro B;have I:(PC x.q).cur=x.q.cur:=rfl;have A:x.q.has x.q.cur:=H.cur.resolve_left (by omega);obtain⟨c,R⟩:∃c:Nat,x.q.cur=2*c+1:=⟨(x.q.cur/2).toNat,by omega⟩
    rw[R]at A;obtain⟨y,J,D⟩:=hk.eJ g x c hx A;have E:y.on=zq:=(hk.on g x c y hx J D).1 A;have G:((PC x.q).cur/2).toNat=c:=by omega
    rw[G]at B ⊢;obtain⟨n,M,N⟩:=Mg k hk c B;exact⟨1+n,cD.trans (n:=1) ⟨g,y,rfl,J,D,E⟩ n _ M,N⟩
theorem Pa(hk:h.Ok)(A:h.running≠ -1):∃(d n:Nat) (i:Nat),h.running=i/\h.cD 0 n d/\h.even d i:=by
 unfold Hm.running Ku at A ⊢;split at A
 .exact absurd rfl A
 .rename_i E;rw[if_neg E];obtain⟨n,D,B⟩:=Mg 9 hk 0 (by omega);exact⟨_,n,((h.down PC PC 9 0).2.2/2).toNat,by omega,D,by rw[Int.toNat_of_nonneg (by omega)];exact B⟩
theorem Tz{S:Sc}{b:Nat}(B:S.Ok b){p:Nat}(H:p<S.ps)(hk:(S.hs p).Ok):∀(n d:Nat),(S.hs p).cD 0 n d->∀i∈AF S.tree.l d,∃x,(S.hs p).gs i=zo x/\x.on=zq
 | 0,d,h,i,A=>by have:d=0:=h;subst this;rw[Jp]at A;cases A
 | n+1,d,⟨c,y,h1,h2,h3,h4⟩,i,A=>by
  have hd:d≠0:=by rintro rfl;obtain⟨x,M,J,_⟩:=hk.root;rw[h2]at M;obtain rfl:=zx M;omega
  have E:(S.pl d).isSome=zq:=by rw[<-B.hk p H d,h2];rfl
  obtain⟨m,O⟩:=Option.isSome_iff_exists.1 E;obtain⟨g,N,G,D⟩:=B.pl d m O;obtain⟨⟨q,I,J,_⟩,_⟩:=B.gk m g N G;rw[D]at I;rw[Jq B.tr ⟨q,I,J⟩ hd]at A;have h0:=(B.hu p H d y h2 hd).1;have R:TA S.tree.l d=c:=by omega
  rw[R]at A;rcases yn.1 A with A|A
  .exact Tz B H hk n c h1 i A
  .simp at A;subst A;exact⟨y,h2,h4⟩
theorem Sc.Ok.iQ(D:S.Ok b)(I:p<S.ps)(hk:(S.hs p).Ok){g:Gp}(X:S.ts[n]?=zo t)(A:S.running p=n)(O:S.gs[t.OG]?=zo g):∀i∈AF S.tree.l g.hi,∃x,(S.hs p).gs i=zo x/\x.on=zq:=by
 unfold Sc.running at A;have N:¬(S.hs p).running<0:=by intro h;rw[if_pos h]at A;omega
 rw[if_neg N]at A;obtain⟨d,m,a,T,M,V⟩:=Pa hk (by omega);rw[T,zI]at A;obtain⟨n',u,y,E,G,h6,J,B,H⟩:=(D.ev p I d a).1 V;have R:=(D.on E G).at_;rw[H]at R;have U:n'=n:=by omega
 subst U;rw[X]at E;obtain rfl:=zx E;rw[O]at J;obtain rfl:=zx J;rw[B];exact Tz D I hk m d M
def Hm.TV(h:Hm)(i:Nat):Bool:=match h.gs i with
 | none=>zq
 | some x=>x.st
theorem vC{g:Nat}{x y:Gr}(A:h.gs g=zo x)(hs:y.st=x.st)(i:Nat):(h.set g y).TV i=h.TV i:=by
 unfold Hm.TV;by_cases e:i=g
 .subst e;rw[yO,A];exact hs
 .rw[yJ h y e]
theorem Ca:∀(n:Nat) (h:Hm) (g i:Nat),(h.settle n g).TV i=h.TV i
 | 0,h,g,i=>rfl
 | n+1,h,g,i=>by
  unfold Hm.settle;cases hx:h.gs g with
  | none=>rfl
  | some x=>
   simp only;split
   .rfl
   .cases hu:h.gs x.up.toNat with
    | none=>rfl
    | some u=>
     simp only;split
     .rfl
     .split
      .rw[Ca n];by_cases e:g=x.up.toNat
       .rw[<-e]at hu ⊢;rw[hx]at hu;obtain rfl:=zx hu;exact(vC (x:=x.OD (x.q.put (x.PV x.q.min h.credit))) (y:=x.SF x.q.min h.credit) (yO _ _ _) rfl i).trans (vC (y:=x.OD (x.q.put (x.PV x.q.min h.credit))) hx rfl i)
       .exact(vC (x:=x) (y:=x.SF u.q.min h.credit) (by rw[yJ _ _ e];exact hx) rfl i).trans (vC (y:=u.OD (u.q.put (x.PV u.q.min h.credit))) hu rfl i)
      .rw[Ca n];by_cases e:g=x.up.toNat
       .rw[<-e]at hu ⊢;rw[hx]at hu;obtain rfl:=zx hu;exact(vC (x:=x.OD (x.q.drop (2*g+1))) (y:=x.go (x.RF x.q g)) (yO _ _ _) rfl i).trans (vC (y:=x.OD (x.q.drop (2*g+1))) hx rfl i)
       .exact(vC (x:=x) (y:=x.go (x.RF u.q g)) (by rw[yJ _ _ e];exact hx) rfl i).trans (vC (y:=u.OD (u.q.drop (2*g+1))) hu rfl i)
theorem JO{g:Nat}{x:Gr}(A:h.gs g=zo x)(v:Bool)(i:Nat):(h.stop g v).TV i=if i=g then v else h.TV i:=by
 unfold Hm.stop;rw[A];simp only;rw[Ca];unfold Hm.TV;by_cases e:i=g
 .subst e;rw[yO,if_pos rfl];rfl
 .rw[yJ _ _ e,if_neg e]
theorem JP{f b:Qu->Qu}:∀(k:Nat) (h:Hm) (g i:Nat),(h.down f b k g).1.TV i=h.TV i
 | 0,h,g,i=>rfl
 | k+1,h,g,i=>by
  unfold Hm.down;cases hx:h.gs g with
  | none=>rfl
  | some x=>
   simp only;have e:((h.set g (x.OD (f x.q))).set g ((x.OD (f x.q)).OD (b (f x.q)))).TV i=h.TV i:=by exact(vC (x:=x.OD (f x.q)) (y:=(x.OD (f x.q)).OD (b (f x.q))) (yO _ _ _) rfl i).trans (vC (y:=x.OD (f x.q)) hx rfl i)
   split
   .exact e
   .rw[JP k,e]
theorem LC(h:Hm)(i:Nat):h.pick.1.TV i=h.TV i:=JP _ _ _ _
theorem Cu{α:Type}{f g:α->Bool}:∀(l:List α),(∀i∈l,g i=zq->f i=zq)->(l.filter g).length<=(l.filter f).length/\∀j∈l,f j=zq->g j=zt->(l.filter g).length<(l.filter f).length
 | [],_=>⟨yA _,fun j D=>by cases D⟩
 | a::l,h=>by
  obtain⟨G,E⟩:=Cu l fun i I=>h i (yj _ I);have H:=h a yk;simp only[List.filter_cons];cases hf:f a<;>cases hg:g a
  .refine⟨by simpa using G,fun j D A B=>?_⟩;rcases yg.1 D with rfl|D
   .rw[hf]at A;cases A
   .simpa using E j D A B
  .rw[H hg]at hf;cases hf
  .exact⟨by simp;omega,fun j D A B=>by simp;omega⟩
  .refine⟨by simp;omega,fun j D A B=>?_⟩;rcases yg.1 D with rfl|D
   .rw[hg]at B;cases B
   .have:=E j D A B;simp;omega
def Hm.going(h:Hm):Nat:=((yi 32).filter fun i=>!h.TV i).length
theorem Aa(h:Hm):h.going<=32:=by unfold Hm.going;exact Nat.le_trans (List.length_filter_le _ _) (by simp)
theorem VH{g:Nat}{x:Gr}(B:h.gs g=zo x)(D:g<32)(hs:x.st=zt):(h.stop g zq).going<h.going:=by
 unfold Hm.going;refine(Cu (yi 32) fun i _ A=>?_).2 g (List.mem_range.2 D) ?_ ?_
 .rw[JO B]at A;split at A
  .cases A
  .exact A
 .unfold Hm.TV;rw[B];simp[hs]
 .rw[JO B,if_pos rfl];rfl
theorem KX(h:Hm):h.pick.1.going=h.going:=by
 unfold Hm.going
 congr 1
 exact List.filter_congr fun i _=>by rw[LC]
structure Sc.PX(S S':Sc):Prop where
 ps:S'.ps=S.ps
 tick:S'.tick=S.tick
 ts:S'.ts=S.ts
 pl:S'.pl=S.pl
 tree:S'.tree=S.tree
 at_:S'.at_=S.at_
 book:S'.book=S.book
 len:S'.gs.length=S.gs.length
 g:∀(n:Nat) (x:Gp),S.gs[n]?=zo x->∃y,S'.gs[n]?=zo y/\y.hi=x.hi/\y.hg=x.hg/\y.there=x.there/\y.shares=x.shares/\y.quota=x.quota
theorem Sc.PX.refl(S:Sc):S.PX S:=⟨rfl,rfl,rfl,rfl,rfl,rfl,rfl,rfl,fun n x h=>⟨x,h,rfl,rfl,rfl,rfl,rfl⟩⟩
theorem Sc.PX.trans{a b c:Sc}(h:a.PX b)(A:b.PX c):a.PX c:=
 ⟨A.ps.trans h.ps,A.tick.trans h.tick,A.ts.trans h.ts,A.pl.trans h.pl,A.tree.trans h.tree,A.at_.trans h.at_,A.book.trans h.book,A.len.trans h.len,fun n x J=>by obtain⟨y,H,N,E,O,U,B⟩:=h.g n x J;obtain⟨z,G,D,M,T,R,I⟩:=A.g n y H;exact⟨z,G,D.trans N,M.trans E,T.trans O,R.trans U,I.trans B⟩⟩
theorem Sc.ST.TB{A:Sc}(h:S.ST A):S.PX A:=by obtain⟨hs,rfl⟩:=h;exact⟨rfl,rfl,rfl,rfl,rfl,rfl,rfl,rfl,fun n x h=>⟨x,h,rfl,rfl,rfl,rfl,rfl⟩⟩
theorem Sc.PX.OM{A:Sc}(h:S.PX A)(p:Nat)(x:Hm):S.PX (A.OM p x):=⟨h.ps,h.tick,h.ts,h.pl,h.tree,h.at_,h.book,h.len,h.g⟩
theorem Sc.PX.PZ{A:Sc}(h:S.PX A)(p:Nat)(x:Ck):S.PX (A.PZ p x):=⟨h.ps,h.tick,h.ts,h.pl,h.tree,h.at_,h.book,h.len,h.g⟩
theorem Sc.PX.OF{g g':Gp}(B:S.gs[n]?=zo g)(E:g'.hi=g.hi)(I:g'.hg=g.hg)(G:g'.there=g.there)(H:g'.shares=g.shares)(D:g'.quota=g.quota):S.PX (S.OF n g'):=
 ⟨rfl,rfl,rfl,rfl,rfl,rfl,rfl,by show(S.gs.set n g').length=_;rw[zD],fun m x A=>by
  by_cases e:m=n
  .subst e;rw[B]at A;obtain rfl:=zx A;exact⟨g',by show(S.gs.set m g')[m]?=_;rw[zT (yy B).1],E,I,G,H,D⟩
  .exact⟨x,by show(S.gs.set n g')[m]?=_;rw[zC (Ne.symm e)];exact A,rfl,rfl,rfl,rfl,rfl⟩⟩
theorem Sc.Fit.OF(h:S.Fit b){g g':Gp}(H:S.gs[n]?=zo g)(E:n≠0)(B:g'.hi=g.hi)(G:g'.hg=g.hg)(D:g'.there=g.there)(A:g.there=zq->NF S b g'):(S.OF n g').Fit b:=
 ⟨h.1.OF H E B G D A,h.2⟩
theorem Sc.Fit.PZ(h:S.Fit b)(p:Nat)(A:Xj b c/\c.lat=S.lat):(S.PZ p c).Fit b:=⟨h.1.PZ p A,h.2⟩
theorem Sc.Fit.ON(h:S.Fit b){g:Gp}{d':TL}(A:S.gs[n]?=zo g)(hd:g.band=zo d)(B:vB b d->vB b d')(M:d'.l.length=d.l.length):(S.OF n (g.ON d')).Fit b/\S.PX (S.OF n (g.ON d')):=by
 have E:n≠0:=by rintro rfl;obtain⟨x,G,_,_,_,hb⟩:=h.1.g0;rw[A]at G;obtain rfl:=zx G;rw[hd]at hb;cases hb
 refine⟨h.OF A E rfl rfl rfl fun I=>?_,.OF A rfl rfl rfl rfl rfl⟩;obtain⟨J,⟨c,H,RK,D⟩,N⟩:=h.1.gx n g A I E;rw[hd]at H;obtain rfl:=zx H;exact⟨J,⟨d',rfl,M.trans RK,B D⟩,N⟩
theorem Sc.Fit.OP(h:S.Fit b){g:Gp}(A:S.gs[n]?=zo g)(B:n≠0)(D:(∀p∈g.line,p<S.ps)/\g.line.Nodup->(∀p∈l,p<S.ps)/\l.Nodup):(S.OF n (g.OP l)).Fit b/\S.PX (S.OF n (g.OP l)):=by refine⟨h.OF A B rfl rfl rfl fun H=>?_,.OF A rfl rfl rfl rfl rfl⟩;obtain⟨G,E,I⟩:=h.1.gx n g A H B;exact⟨G,E,D I⟩
theorem Yi(hp:p<m)(h:(∀q∈l,q<m)/\l.Nodup):(∀q∈xe l p,q<m)/\(xe l p).Nodup:=by
 unfold xe;split
 .exact h
 .rename_i E;refine⟨fun q A=>?_,?_⟩
  .rcases yn.1 A with A|A
   .exact h.1 q A
   .simp at A;omega
  .rw[List.nodup_append];refine⟨h.2,by simp,fun a D c B=>?_⟩;simp at B;subst B;rintro rfl;exact E (.inl D)
theorem Pb(h:(∀q∈p::l,q<m)/\(p::l).Nodup):(∀q∈l,q<m)/\l.Nodup:=
 ⟨fun q A=>h.1 q (yj _ A),(List.nodup_cons.1 h.2).2⟩
theorem xg{g g':Gp}(h:S.gs[n]?=zo g):(S.OF n g').gs[n]?=zo g':=by have A:=(yy h).1;show(S.gs.set n g')[n]?=zo g';rw[zT A]
theorem qA(S:Sc)(n:Nat)(g g':Gp):(S.OF n g).OF n g'=S.OF n g':=by simp[Sc.OF]
theorem Sc.Ok.band(A:S.Ok b){g:Gp}(E:S.gs[n]?=zo g)(D:g.there=zq)(B:n≠0):∃d,g.band=zo d/\d.l.length=S.ps/\vB b d:=(A.gx n g E D B).band
theorem Sc.Ok.SA(B:S.Ok b){g:Gp}(D:S.gs[n]?=zo g)(hd:g.band=zo d):n≠0:=by rintro rfl;obtain⟨x,A,_,_,_,hb⟩:=B.g0;rw[D]at A;obtain rfl:=zx A;rw[hd]at hb;cases hb
theorem Yj{g:Nat}(A:S.gs[g]?=zo x)(hd:x.band=zo d):Sc.PL p (g::r) S=if d.may (xA d p)=zq then Sc.PL p r (S.OF g (x.ON (d.SQ p (xA d p))))else
 ((S.OF g ((x.ON (d.SQ p (xA d p))).OP (xe x.line p))).OM p ((S.hs p).stop x.hi zq),zt):=by
 have e:S.g g=x:=Sc.PE A;have B:(S.OF g (x.ON (d.SQ p (xA d p)))).g g=x.ON (d.SQ p (xA d p)):=Sc.PE (xg A);rw[Sc.PL,e,hd];simp only;split
 .rfl
 .rw[B,qA];have D:(S.OF g ((x.ON (d.SQ p (xA d p))).OP (xe (x.ON (d.SQ p (xA d p))).line p))).g g=(x.ON (d.SQ p (xA d p))).OP (xe (x.ON (d.SQ p (xA d p))).line p):=Sc.PE (xg A);rw[D];rfl
def Sc.AV(S:Sc)(l:List Nat):Prop:=∀g∈l,∃x d,S.gs[g]?=zo x/\x.there=zq/\x.band=zo d
theorem Sc.AV.TB{B:Sc}(h:S.AV l)(O:S.PX B)(N:S.Ok b)(A:B.Ok b):B.AV l:=fun g M=>by obtain⟨x,d,H,E,hd⟩:=h g M;obtain⟨y,G,_,_,I,_,_⟩:=O.g g x H;have J:=N.SA H hd;obtain⟨d',D,_⟩:=A.band G (by rw[I];exact E) J;exact⟨y,d',G,by rw[I];exact E,D⟩
theorem Cv{b p:Nat}:∀(l:List Nat) {S:Sc} (h:S.Fit b) (A:p<S.ps) (E:S.AV l),(Sc.PL p l S).1.Fit b/\S.PX (Sc.PL p l S).1
 | [],S,h,A,E=>⟨h,.refl S⟩
 | g::r,S,h,A,E=>by
  obtain⟨x,d,B,O,hd⟩:=E g yk;have N:=h.1.SA B hd;obtain⟨d',D,h1,h2⟩:=h.1.band B O N;rw[hd]at D;obtain rfl:=zx D;rw[Yj B hd];obtain⟨J,M⟩:=h.ON (d':=d.SQ p (xA d p)) B hd (fun hk=>hk.SQ (uB (by omega))) (Wt _ _ _);split
  .obtain⟨G,H⟩:=Cv r J A (Sc.AV.TB (fun g' I=>E g' (yj _ I)) M h.1 J.1);exact⟨G,M.trans H⟩
  .obtain⟨G,H⟩:=J.OP (l:=xe x.line p) (xg B) N (Yi A);rw[qA]at G H;exact⟨Jy G A x.hi zq,(M.trans H).OM _ _⟩
theorem Bq{p:Nat}:∀(l:List Nat) {S:Sc} {b:Nat} (h:S.Fit b) (H:p<S.ps) (G:S.AV l),(Sc.PL p l S).2=zt->∃g x,g∈l/\S.gs[g]?=zo x/\(Sc.PL p l S).1.hs p=(S.hs p).stop x.hi zq
 | [],S,b,h,H,G,hf=>by cases hf
 | g::r,S,b,h,H,G,hf=>by
  obtain⟨x,d,B,O,hd⟩:=G g yk;have R:=h.1.SA B hd;obtain⟨d',E,h1,h2⟩:=h.1.band B O R;rw[hd]at E;obtain rfl:=zx E;obtain⟨M,T⟩:=h.ON (d':=d.SQ p (xA d p)) B hd (fun hk=>hk.SQ (uB (by omega))) (Wt _ _ _);rw[Yj B hd]at hf ⊢;split at hf
  .rename_i J;rw[if_pos J];obtain⟨g',y,A,I,N⟩:=Bq r M H (Sc.AV.TB (fun g' A=>G g' (yj _ A)) T h.1 M.1) hf;by_cases e:g'=g
   .subst e;rw[xg B]at I;obtain rfl:=zx I;exact⟨g',x,yk,B,N⟩
   .have D:(S.gs.set g (x.ON (d.SQ p (xA d p))))[g']?=zo y:=I;rw[zC (Ne.symm e)]at D;exact⟨g',y,yj _ A,D,N⟩
  .rename_i J;rw[if_neg J];exact⟨g,x,yk,B,by show OV S.hs p _ p=_;rw[yR]⟩
theorem Yk{g:Gp}(h:g.limited=zq):∃d,g.band=zo d:=by
 unfold Gp.limited at h;cases hb:g.band with
 | none=>rw[hb]at h;cases h
 | some d=>exact⟨d,rfl⟩
theorem Sc.Ok.AW(H:S.Ok b){g:Gp}(E:S.gs[n]?=zo g)(J:g.there=zq):∀m∈S.SP n,∃y,S.gs[m]?=zo y/\y.there=zq/\y.hi∈AF S.tree.l g.hi:=fun m A=>by unfold Sc.SP at A;rw[Sc.PE E]at A;obtain⟨i,G,rfl⟩:=yh.1 A;obtain⟨_,k,y,hk,I,D,B⟩:=H.path E J G;rw[hk];exact⟨y,I,D,by rw[B];exact G⟩
theorem Br(G:S.Ok b){g:Gp}(I:S.gs[n]?=zo g)(J:g.there=zq):S.AV (S.limited (S.SP n)):=fun m B=>by unfold Sc.limited at B;obtain⟨H,D⟩:=List.mem_filter.1 B;obtain⟨y,E,A,_⟩:=G.AW I J m H;rw[Sc.PE E]at D;obtain⟨d,hd⟩:=Yk D;exact⟨y,d,E,A,hd⟩
theorem Ux(h:S.Fit b)(A:p<S.ps):(S.PH p).Fit b:=FH h A
theorem Ab(S:Sc)(p:Nat):S.PX (S.PH p):=(Sc.PX.refl S).OM _ _
theorem Sc.Fit.run(h:S.Fit b)(B:p<S.ps)(H:S.running p≠ -1):∃(n:Nat) (t:Tk) (g:Gp),S.running p=n/\S.ts[n]?=zo t/\t.on=zq/\t.p=p/\S.gs[t.OG]?=zo g/\g.there=zq/\(S.hs p).running≠ -1:=by obtain⟨n,t,I,D,E,G,J⟩:=h.1.runs B (h.2 p B) H;obtain⟨g,M,A⟩:=(h.1.on D E).OG;exact⟨n,t,g,I,D,E,G,M,A,J⟩
theorem Yl(h:(S.PH p).running p= -1):S.choose p=((S.PH p).PZ p (((S.PH p).cs p).begin (-1)),zq):=by unfold Sc.choose;simp only;rw[if_pos h]
theorem Ym(h:(S.PH p).running p=n)(B:S.ts[n]?=zo t):S.choose p=(let r:=Sc.PL p ((S.PH p).limited ((S.PH p).SP t.OG)) (S.PH p);if r.2=zq then(r.1.PZ p ((r.1.cs p).begin n),zq)else(r.1,zt)):=by
 unfold Sc.choose;simp only;have A:¬((S.PH p).running p= -1):=by omega
 rw[if_neg A,h,zI];have e:(S.PH p).t n=t:=Sc.RV B;rw[e]
theorem Hq(h:S.Fit b)(G:p<S.ps):(S.choose p).1.Fit b/\S.PX (S.choose p).1:=by
 have B:=Ux h G;have I:=Ab S p;have A:p<(S.PH p).ps:=G;by_cases N:(S.PH p).running p= -1
 .rw[Yl N];obtain⟨D,E⟩:=B.1.ck p A;exact⟨B.PZ p ⟨D.begin (by omega) (by omega),(Dy _ _).trans E⟩,I.PZ _ _⟩
 .obtain⟨n,t,g,O,M,h3,h4,R,T,_⟩:=B.run A N;rw[Ym O M];simp only;obtain⟨H,J⟩:=Cv _ B A (Br B.1 R T);have h7:n<S.ts.length:=(yy M).1;have h0:=h.1.tl;have h8:=h.1.RY;split
  .obtain⟨D,E⟩:=H.1.ck p (by rw[J.ps];exact G);exact⟨H.PZ p ⟨D.begin (by omega) (by omega),(Dy _ _).trans E⟩,(I.trans J).PZ _ _⟩
  .exact⟨H,I.trans J⟩
theorem Ac(h:S.Fit b)(c:p<S.ps)(M:(S.choose p).2=zt):((S.choose p).1.hs p).going<(S.hs p).going:=by
 have A:=Ux h c;have B:p<(S.PH p).ps:=c;by_cases k:(S.PH p).running p= -1
 .rw[Yl k]at M;cases M
 .obtain⟨n,t,g,Z,Y,h3,h4,T,o,_⟩:=A.run B k;have N:=Ym Z Y;simp only at N;rw[N]at M ⊢;have r:=Br A.1 T o;split at M
  .cases M
  .rename_i f;rw[if_neg f];obtain⟨m,x,l,I,u⟩:=Bq _ A B r (by simpa using f);rw[u];unfold Sc.limited at l;obtain⟨V,G⟩:=List.mem_filter.1 l;obtain⟨y,j,H,R⟩:=A.1.AW T o m V;rw[I]at j;obtain rfl:=zx j;obtain⟨z,a,J⟩:=A.1.iQ B (A.2 p B) Y Z T _ R;rw[Sc.PE I]at G;obtain⟨d,hd⟩:=Yk G;have U:=A.1.SA I hd;have iR:x.hi≠0:=by intro e;obtain⟨_,E⟩:=A.1.gk m x I H;obtain⟨q,X,s,_,iA,_⟩:=A.1.g0;obtain⟨_,D⟩:=A.1.gk 0 q X iA;rw[s]at D;rw[e,D]at E;exact U (zx E).symm
   have O:z.st=zt:=by
    have:=A.1.hf p B x.hi z a iR;rw[J]at this;unfold Gr.OQ at this;cases hs:z.st with
    | false=>rfl
    | true=>rw[hs]at this;simp at this
   have h0:=VH a (A.1.hi I H) O;have h7:((S.PH p).hs p).going=(S.hs p).going:=by show(OV S.hs p (S.hs p).pick.1 p).going=_;rw[yR,KX]
   omega
theorem Cw{b p:Nat}:∀(k:Nat) {S:Sc} (h:S.Fit b) (A:p<S.ps),(Sc.PY p k S).Fit b/\S.PX (Sc.PY p k S)
 | 0,S,h,A=>⟨h,.refl S⟩
 | k+1,S,h,A=>by
  obtain⟨D,B⟩:=Hq h A;unfold Sc.PY;split
  .exact⟨D,B⟩
  .obtain⟨E,G⟩:=Cw k D (by rw[B.ps];exact A);exact⟨E,B.trans G⟩
theorem Uy{S:Sc}{b:Nat}(h:S.Fit b):∀p,p<=S.ps->(S.choice p).Fit b/\S.PX (S.choice p)
 | 0,_=>⟨h,.refl S⟩
 | p+1,hp=>by obtain⟨D,A⟩:=Uy h p (by omega);obtain⟨B,E⟩:=Cw 40 D (p:=p) (by rw[A.ps];omega);exact⟨B,A.trans E⟩
theorem FJ(h:S.Fit b){g:Nat}(B:S.gs[g]?=zo x)(D:x.there=zq)(hd:x.band=zo d)(hp:p<S.ps):(S.OF g (x.ON (d.back p (xA d p)))).Fit b/\S.PX (S.OF g (x.ON (d.back p (xA d p)))):=by obtain⟨d',A,h1,h0⟩:=h.1.band B D (h.1.SA B hd);rw[hd]at A;obtain rfl:=zx A;exact h.ON B hd (fun hk=>hk.back (uB (by omega))) (FE _ _ _)
theorem Cb{S:Sc}{b:Nat}(h:S.Fit b){g:Nat}{x:Gp}(G:S.gs[g]?=zo x)(E:x.there=zq):∀k,k<=S.ps->(S.SE g k).Fit b/\S.PX (S.SE g k)
 | 0,_=>⟨h,.refl S⟩
 | k+1,hk=>by
  obtain⟨B,A⟩:=Cb h G E k (by omega);obtain⟨y,D,_,_,I,_,_⟩:=A.g g x G;unfold Sc.SE;simp only;rw[Sc.PE D];cases hd:y.band with
  | none=>exact⟨B,A⟩
  | some d=>
   simp only;split
   .obtain⟨H,J⟩:=FJ B D (by rw[I];exact E) hd (p:=k) (by rw[A.ps];omega);exact⟨H,A.trans J⟩
   .exact⟨B,A⟩
theorem Hr{g:Nat}(A:S.gs[g]?=zo x)(hd:x.band=zo d)(E:x.line=p::r)(B:0<d.pool):Sc.serve g (k+1) S=if d.may (xA d p)=zq then Sc.serve g k ((S.OF g ((x.OP r).ON (d.SQ p (xA d p)))).OM p ((S.hs p).stop x.hi zt))
 else Sc.serve g k (S.OF g (((x.OP r).ON (d.SQ p (xA d p))).OP (xe r p))):=by
 have e:S.g g=x:=Sc.PE A;have D:(S.OF g ((x.OP r).ON (d.SQ p (xA d p)))).g g=(x.OP r).ON (d.SQ p (xA d p)):=Sc.PE (xg A);rw[Sc.serve,e,hd,E];simp only;rw[if_pos B,D];split
 .rfl
 .rw[qA]
theorem Cc{g:Nat}(A:S.gs[g]?=zo x)(hd:x.band=zo d)(h:x.line= []∨¬0<d.pool):Sc.serve g k S=S:=by
 have e:S.g g=x:=Sc.PE A;cases k with
 | zero=>rfl
 | succ k=>
  rw[Sc.serve,e,hd];cases hl:x.line with
  | nil=>rfl
  | cons p r=>
   simp only;rw[if_neg (h.resolve_left (by rw[hl];simp))]
theorem Hs(h:S.Fit b){g:Nat}(B:S.gs[g]?=zo x)(G:x.there=zq)(hd:x.band=zo d)(I:x.line=p::r):
 p<S.ps/\(S.OF g (x.OP r)).Fit b/\S.PX (S.OF g (x.OP r))/\(S.OF g ((x.OP r).ON (d.SQ p (xA d p)))).Fit b/\S.PX (S.OF g ((x.OP r).ON (d.SQ p (xA d p)))):=by
 have E:=h.1.SA B hd;obtain⟨d',D,h1,h2⟩:=h.1.band B G E;rw[hd]at D;obtain rfl:=zx D;have A:=(h.1.gx g x B G E).line;rw[I]at A;have R:p<S.ps:=A.1 p yk;obtain⟨H,N⟩:=h.OP (l:=r) B E fun J=>by rw[I]at J;exact Pb J
 obtain⟨M,O⟩:=H.ON (d:=d) (d':=d.SQ p (xA d p)) (xg B) hd (fun hk=>hk.SQ (uB (by omega))) (Wt _ _ _);rw[qA]at M O;exact⟨R,H,N,M,N.trans O⟩
theorem Ce{b g:Nat}:∀(k:Nat) {S:Sc} (h:S.Fit b) {x:Gp} (B:S.gs[g]?=zo x) (D:x.there=zq),(Sc.serve g k S).Fit b/\S.PX (Sc.serve g k S)
 | 0,S,h,x,B,D=>⟨h,.refl S⟩
 | k+1,S,h,x,B,D=>by
  cases hd:x.band with
  | none=>
   have e:Sc.serve g (k+1) S=S:=by rw[Sc.serve,Sc.PE B,hd]
   rw[e];exact⟨h,.refl S⟩
  | some d=>
   by_cases A:x.line= []∨¬0<d.pool
   .rw[Cc B hd A];exact⟨h,.refl S⟩
   .obtain⟨p,r,G⟩:∃p r,x.line=p::r:=by
     cases G:x.line with
     | nil=>exact absurd (.inl G) A
     | cons p r=>exact⟨p,r,rfl⟩
    have I:0<d.pool:=Decidable.not_not.1 fun R=>A (.inr R);obtain⟨J,f1,n1,M,N⟩:=Hs h B D hd G;rw[Hr B hd G I];split
    .obtain⟨H,E⟩:=Ce k (Jy M J x.hi zt) (x:=(x.OP r).ON (d.SQ p (xA d p))) (xg B) D;exact⟨H,(N.OM _ _).trans E⟩
    .obtain⟨H,E⟩:=M.OP (l:=xe r p) (xg B) (h.1.SA B hd) (Yi J);rw[qA]at H E;obtain⟨T,O⟩:=Ce k H (x:=((x.OP r).ON (d.SQ p (xA d p))).OP (xe r p)) (xg B) D;exact⟨T,(N.trans E).trans O⟩
theorem Mh(h:S.Fit b){g:Nat}(D:S.gs[g]?=zo x)(B:x.there=zq):(S.share g).Fit b/\S.PX (S.share g):=by obtain⟨G,A⟩:=Cb h D B S.ps (yA _);obtain⟨y,I,_,_,H,_,_⟩:=A.g g x D;obtain⟨E,J⟩:=Ce 200 G I (by rw[H];exact B);exact⟨E,A.trans J⟩
theorem Ht{b:Nat}:∀(l:List Nat) {S:Sc} (h:S.Fit b) (A:S.AV l),(S.shares l).Fit b/\S.PX (S.shares l)
 | [],S,h,A=>⟨h,.refl S⟩
 | g::r,S,h,A=>by obtain⟨x,d,J,H,hd⟩:=A g yk;obtain⟨D,E⟩:=Mh h J H;obtain⟨G,I⟩:=Ht r D (Sc.AV.TB (fun g' B=>A g' (yj _ B)) E h.1 D.1);exact⟨G,E.trans I⟩
theorem Ad(H:S.Ok b):S.AV (S.limited S.cF):=fun m B=>by unfold Sc.limited at B;obtain⟨G,D⟩:=List.mem_filter.1 B;unfold Sc.cF at G;obtain⟨i,_,I⟩:=List.mem_filterMap.1 G;obtain⟨y,E,A,_⟩:=H.pl _ _ I;rw[Sc.PE E]at D;obtain⟨d,hd⟩:=Yk D;exact⟨y,d,E,A,hd⟩
theorem Yn(h:S.Fit b):S.settle.Fit b/\S.PX S.settle:=by unfold Sc.settle;simp only;obtain⟨A,E⟩:=Uw h 32;obtain⟨B,G⟩:=Ht _ A (Ad A.1);obtain⟨D,H⟩:=Uy B _ (yA _);exact⟨D,(E.TB.trans G).trans H⟩
theorem Kc(a:Int)(w:zu)(F:Nat->Prop)(s:Nat)(S:Sc)(L:Lay)(h:yK w F s S L)(hn:S.ts.length<=100000):
 zw prog 20 #[ptr s,zd zj a] w fun z w'=>z=zm (Yg L.tb (S.tsk? a))/\w'=w:=by
 obtain⟨⟨va,vc,D⟩,H,A⟩:=h.RN;by_cases h0:a<0
 .have e:S.tsk? a=zp:=by unfold Sc.tsk?;rw[if_neg (by omega)]
  rw[e];rw[D]at H;clear h D e A;go_enter func20,ntmps20;go_wp2;go_ret;exact⟨rfl,rfl⟩
 .by_cases h1:(S.ts.length:Int)<=a
  .have e:S.tsk? a=zp:=by unfold Sc.tsk?;rw[if_neg (by omega)]
   rw[e];rw[D]at H;clear h D e A;go_enter func20,ntmps20;go_wp2;go_ret;exact⟨rfl,rfl⟩
  .obtain⟨k,rfl⟩:∃k:Nat,a=k:=⟨a.toNat,by omega⟩
   have hk:k<S.ts.length:=by omega
   obtain⟨r,h2,B,hc,h4⟩:=A k hk;rw[B]at H;have G:(k:Int) <(S.ts.length:Int):=by omega
   obtain⟨t,E⟩:∃t,S.ts[k]?=zo t:=⟨_,zy hk⟩
   obtain⟨-,-,I,-⟩:=(h.tk E).TY;have e:S.tsk? (k:Int)=if t.dead=zq then zp else zo k:=by
    unfold Sc.tsk?;rw[zI,Sc.RV E];by_cases hd:t.dead=zq
    .rw[if_pos hd,if_neg];rintro⟨_,_,M⟩;rw[hd]at M;cases M
    .rw[if_neg hd,if_pos ⟨by omega,G,by simpa using hd⟩]
   rw[e];clear D B A e h;by_cases hd:t.dead=zq
   .rw[if_pos hd];rw[hd]at I;clear hd E;go_enter func20,ntmps20;go_wp2;go_ret;exact⟨rfl,rfl⟩
   .rw[if_neg hd];have J:t.dead=zt:=by simpa using hd
    rw[J]at I;clear hd E J;go_enter func20,ntmps20;go_wp2;go_ret;exact⟨rfl,rfl⟩
abbrev OX(e:Ev):Array Value:=#[zd zj e.kind,zd zj e.a,zd zj e.b,zd zj e.n,zd zj e.m,zd zk e.mask]
theorem FK(w:zu)(e:Ev):(w.alloc (zn (OX e) 35)).cell? ⟨w.heap.size,1,zp⟩=zo (zd zj e.a):=by have h:=heap_alloc_new w (zn (OX e) 35);unfold World.cell?;show(match(w.alloc (zn (OX e) 35)).heap[w.heap.size]? with|some (.cells c _ _)=>c[1]? | _=>zp)=_;rw[h];rfl
theorem Bs(e:Ev)(w:zu)(F:Nat->Prop)(s:Nat)(S:Sc)(L:Lay)(h:yK w F s S L):
 zw prog 93 #[ptr s,zg (OX e)] w fun z w'=>z=zm (zi #[zd zj (S.OI e.a).1,zd zj (S.OI e.a).2])/\Below w.heap.size w w':=by
 obtain⟨w1,A⟩:=yB (w.alloc (zn (OX e) 35))
 have H:Below w.heap.size w w1:=by rw[A];exact yE w _
 have U:=h.behind H;have N:w1.cell? ⟨w.heap.size,1,zp⟩=zo (zd zj e.a):=by rw[A];exact FK w e
 have E:=World.block_lt_of_cell? w1 _ N;obtain⟨Y,R,G⟩:=Qe (uu e.a w1 F s S L U) (xT e.a w1 F s S L U) H;obtain⟨D,O⟩:=yB w.heap.size
 by_cases J:S.TN e.a
 .have hd:decide (S.TN e.a)=zq:=by simp[J]
  rw[hd]at Y;rw[if_pos J]at R;by_cases X:S.running e.a.toNat= -1
  .have B:S.OI e.a=(0,7):=by unfold Sc.OI;rw[if_neg (by simpa using J),if_pos X]
   rw[B];rw[X]at R;clear X B hd J h U H;go_enter func93,ntmps93;go_wp2_with fail;rw[show w.alloc (zn (OX e) 35)=w1 from A.symm];clear A;rw[<-O]at N E ⊢;clear O;refine Y.out.mono ?_;rintro z b ⟨rfl,V⟩;obtain rfl:=V.symm;go_wp2_with fail;refine R.out.mono ?_;rintro z c ⟨rfl,I⟩;have M:=yw (yC G.out I G.out.size);clear I N E;go_wp2;go_ret2;exact⟨rfl,M.out⟩
  .have B:S.OI e.a=(S.running e.a.toNat,0):=by unfold Sc.OI;rw[if_neg (by simpa using J),if_neg X]
   rw[B];obtain⟨Z,T⟩:=yB (S.running e.a.toNat)
   rw[<-T]at R X ⊢;clear B hd J h U H T;go_enter func93,ntmps93;go_wp2_with fail;rw[show w.alloc (zn (OX e) 35)=w1 from A.symm];clear A;rw[<-O]at N E ⊢;clear O;refine Y.out.mono ?_;rintro z b ⟨rfl,V⟩;obtain rfl:=V.symm;go_wp2_with fail;refine R.out.mono ?_;rintro z c ⟨rfl,I⟩;have M:=yw (yC G.out I G.out.size);clear I N E;go_wp2;go_ret2;exact⟨rfl,M.out⟩
 .have hd:decide (S.TN e.a)=zt:=by simp[J]
  rw[hd]at Y;have B:S.OI e.a=(0,1):=by unfold Sc.OI;rw[if_pos (by simpa using J)]
  rw[B];clear B hd J h U H R;go_enter func93,ntmps93;go_wp2_with fail;rw[show w.alloc (zn (OX e) 35)=w1 from A.symm];clear A;rw[<-O]at N E ⊢;clear O;refine Y.out.mono ?_;rintro z b ⟨rfl,V⟩;obtain rfl:=V.symm;clear N E;go_wp2;go_ret2;exact⟨rfl,G.out⟩
theorem Yo(n:Int)(w:zu):zw prog 71 #[zd zj n] w fun z w'=>z=zm (zh (vm n))/\w'=w:=by
 unfold vm;by_cases B:2<=n
 .by_cases A:n<=262144
  .rw[decide_eq_true ⟨B,A⟩];go_enter func71,ntmps71;go_wp2;go_ret;exact⟨rfl,rfl⟩
  .rw[decide_eq_false (fun h=>A h.2)];go_enter func71,ntmps71;go_wp2;go_ret;exact⟨rfl,rfl⟩
 .rw[decide_eq_false (fun h=>B h.1)];go_enter func71,ntmps71;go_wp2;go_ret;exact⟨rfl,rfl⟩
theorem xm{g:Nat}(h:S.grp? a=zo g):a=g/\∃x,S.gs[g]?=zo x/\x.there=zq/\S.g g=x:=by
 unfold Sc.grp? at h;split at h
 .rename_i B;obtain rfl:=zx h;obtain⟨x,A⟩:∃x,S.gs[a.toNat]?=zo x:=⟨_,zy (by omega)⟩
  refine⟨by omega,x,A,?_,Sc.PE A⟩;have:=B.2.2;rw[Sc.PE A]at this;exact this
 .cases h
def RG(w:zu)(D:Nat)(e:Ev):Prop:=w.heap[D]?=zo (zn (OX e) 35 (0,0))
theorem RG.new(w:zu)(e:Ev):RG (w.alloc (zn (OX e) 35)) w.heap.size e:=heap_alloc_new w _
theorem RG.lt{D:Nat}(h:RG w D e):D<w.heap.size:=(yx h).1
theorem RG.behind{w':zu}{D:Nat}(h:RG w D e)(hb:Below w.heap.size w w'):RG w' D e:=(hb.block D h.lt).trans h
theorem RG.c6{D:Nat}(h:RG w D e):w.cell? ⟨D,0,zp⟩=zo (zd zj e.kind)/\w.cell? ⟨D,1,zp⟩=zo (zd zj e.a)/\w.cell? ⟨D,2,zp⟩=zo (zd zj e.b)/\w.cell? ⟨D,3,zp⟩=zo (zd zj e.n)/\w.cell? ⟨D,4,zp⟩=zo (zd zj e.m)/\w.cell? ⟨D,5,zp⟩=zo (zd zk e.mask):=by unfold RG at h;refine⟨?_,?_,?_,?_,?_,?_⟩<;>simp[World.cell?,h]
def TM(w:zu)(F:Nat->Prop)(s:Nat)(L:Lay)(o:Out)(z:Ending)(w':zu):Prop:=z=zm (zi #[zd zj o.2.1,zd zj o.2.2])/\yG w F s o.1 L w'
theorem Pc(e:Ev)(b:Nat)(w:zu)(F:Nat->Prop)(s:Nat)(S:Sc)(L:Lay)(h:yK w F s S L)(U:S.Ok b):
 zw prog 42 #[ptr s,zg (OX e)] w (TM w F s L (S.RX e)):=by
 obtain⟨w1,A⟩:=yB (w.alloc (zn (OX e) 35))
 have R:Below w.heap.size w w1:=by rw[A];exact yE w _
 have d:=h.behind R;have f:RG w1 w.heap.size e:=by rw[A];exact RG.new w e
 have E:Hid (yG w F s S L w1):=yw ((yG.refl h).below R);have T:=yw (xG e.a w1 F s S L d (by have:=U.gl;have:=U.RY;omega));have Z:=yw (Yo e.n);have c:=yw d;obtain⟨D,H⟩:=yB w.heap.size
 rw[<-H]at f;obtain⟨-,v,-,e3,-,-⟩:=f.c6;clear h d R f;obtain⟨O,G⟩:=yB (S.RX e)
 have HO:=yw G;rw[<-G];unfold TM;cases hg:S.grp? e.a with
 | none=>
  have M:O=(S,0,2):=by rw[G];unfold Sc.RX;rw[hg]
  subst M;rw[hg]at T;clear G hg U;go_enter func42,ntmps42;go_wp2_with fail;rw[show w.alloc (zn (OX e) 35)=w1 from A.symm,<-H];clear A H;refine T.out.mono ?_;rintro z Y ⟨rfl,B⟩;obtain rfl:=B.symm;go_wp2;go_ret2;exact⟨rfl,E.out⟩
 | some g=>
  obtain⟨l,x,X,N,J⟩:=xm hg;rw[hg,show Yg L.gb (zo g)=ptr (L.gb g)from rfl]at T;have t:=yw X;by_cases V:e.a=0
  .have M:O=(S,0,1):=by rw[G];unfold Sc.RX;rw[hg];simp[V]
   subst M;rw[V]at v;clear G hg U X N J l V;go_enter func42,ntmps42;go_wp2_with fail;rw[show w.alloc (zn (OX e) 35)=w1 from A.symm,<-H];clear A H;refine T.out.mono ?_;rintro z Y ⟨rfl,B⟩;obtain rfl:=B.symm;go_wp2;go_ret2;exact⟨rfl,E.out⟩
  .cases hwb:vm e.n with
   | false=>
    have M:O=(S,0,4):=by rw[G];unfold Sc.RX;rw[hg];simp[V,hwb]
    subst M;rw[hwb]at Z;clear G hg U X N J l hwb;go_enter func42,ntmps42;go_wp2_with fail;rw[show w.alloc (zn (OX e) 35)=w1 from A.symm,<-H];clear A H;refine T.out.mono ?_;rintro z Y ⟨rfl,B⟩;obtain rfl:=B.symm;go_wp2_with fail;refine(Z.out _).mono ?_;rintro z Y ⟨rfl,B⟩;obtain rfl:=B.symm;go_wp2;go_ret2;exact⟨rfl,E.out⟩
   | true=>
    have M:O=(S.OF g { x with shares:=e.n },0,0):=by rw[G];unfold Sc.RX;rw[hg];simp[V,hwb,J]
    subst M;have hn:2<=e.n/\e.n<=262144:=by unfold vm at hwb;simpa using hwb
    rw[hwb]at Z;have h3:IntKind.u64.wrap e.n=e.n:=by simp only[IntKind.wrap,yq,IntKind.bits];simp;omega
    have I:=c.out.gp X;obtain⟨o,q,g2,g3,p,r,m⟩:=I.c7;have h2:=I.OH;have j:=yw (E.out.then (E.out.1.AG (g':={ x with shares:=e.n }) t.out rfl rfl rfl (OA.refl (fun k=>k=L.gb g) w1).one (yD (i:=3) (u:=zd zk e.n) I)));clear G hg U X N J l hwb I o q g2 p r m;go_enter func42,ntmps42;go_wp2_with fail;rw[show w.alloc (zn (OX e) 35)=w1 from A.symm,<-H];clear A H;refine T.out.mono ?_;rintro z Y ⟨rfl,B⟩;obtain rfl:=B.symm;go_wp2_with fail;refine(Z.out _).mono ?_;rintro z Y ⟨rfl,B⟩;obtain rfl:=B.symm;go_wp2;go_ret2;exact⟨rfl,j.out⟩
theorem VI:(prog.info? 4).map (fun i=>(i.zero,i.size,i.bytes))=zo (zo (zh zt),1,1):=by kernel_rfl
theorem VJ(f:Nat->Bool)(k:Nat):fZ ((yi (k+1)).map f)=fZ ((yi k).map f)++ [zh (f k)]:=by rw[List.range_succ];simp[fZ]
theorem xE.eM{base:Nat}{e:TypeId}{a:Option Addr}{c:Nat}{A:List Value}(B:w.ownsRow base e 1 (zf a n c) n A):xE w a A:=by obtain⟨a',c',e,h⟩:=xE.SW B;simp only[Value.slice.injEq]at e;rw[e.1];exact h
def gY:Option Nat->Ending
 | none=>zm (zi #[zd zj 0,zh zt])
 | some p=>zm (zi #[zd zj (p:Nat),zh zq])
theorem Kd(A:Int)(mask:Int)(b:Nat)(w:zu)(F:Nat->Prop)(s:Nat)(S:Sc)(L:Lay)(h:yK w F s S L)(ok:S.Ok b)(hm:0<=mask)(Z:mask<=18446744073709551615)(hp:A= -1∨∃p:Nat,A=p/\p<S.ps):
 zw prog 86 #[ptr s,zd zj A,zd zk mask] w fun z w'=>z=gY (S.free A mask)/\Below w.heap.size w w':=by
 obtain⟨i0,hi,h3,h9,h5⟩:=info_parts VI;obtain⟨HH,h7,HP,HM,ha⟩:=Qg h ok hp hm Z;obtain⟨s0,h2⟩:=h.RZ;have a:=ok.ps.2;obtain⟨f,hf⟩:∃f:Nat->Bool,f=fun p=>decide (S.running p≠ -1):=⟨_,rfl⟩
 have V:S.runs=(yi S.ps).map f:=by unfold Sc.runs;rw[hf]
 have HF:=yw hf;obtain⟨n,hN⟩:=yB S.ps
 have P:=yw hN;rw[<-hN]at s0 a V;have Y:=yw V;obtain⟨O,hO⟩:=yB (S.free A mask)
 have h6:=yw hO;rw[<-hO];clear h ok hN hp hm Z hf V hO;go_enter func86,ntmps86;go_wp2_with fail;clear s0 h2;go_loopw [8,9,17] (fun v _ i wr=>∃(k:Nat) (l:Option Addr) (C:Nat),k<=n/\i=zd zj k/\v=zf l k C/\wr.ownsRow w.heap.size 4 1 (zf l k C) k (fZ ((yi k).map f))/\Below w.heap.size w wr) (fun _ _ i _=>n-(intOf i).toNat)
 case atStart=>exact⟨0,zp,0,by omega,rfl,rfl,by simpa[fZ]using World.ownsRow_nil _ _ _ _,Below.refl _ _⟩
 case round=>
  obtain⟨k,l,C,hk,rfl,rfl,N,hb⟩:=hrel;obtain⟨K,Q,HS⟩:=Qe N hb (HH.out.behind hb);clear N hb;by_cases W:k<n
  .have R:=yw (xT k wr F s S L HS.out);have M:S.TN (k:Int):=⟨by omega,by rw[<-P.out];omega⟩
   rw[if_pos M,zI]at R;have J:=yw (VJ f k);obtain⟨y,hy⟩:=yB (S.running k)
   obtain⟨ys,o⟩:=yB (fZ ((yi k).map f))
   have r:f k=(y != -1):=by rw[HF.out,hy];by_cases e:S.running k= -1<;>simp[e]
   rw[r]at J;rw[<-hy]at R;rw[<-o]at K J;have he:(k:Int) <(n:Int):=by omega
   obtain⟨yb,T⟩:=yB ((y != -1))
   have h4:=yw T;rw[<-T]at J;clear hy o r M T;go_wp2_with fail;refine R.out.mono ?_;rintro z d ⟨rfl,G⟩;have c:=yw (qQ K.out G);have E:=yw (yC Q.out G Q.out.size);clear G R;have hc:=E.out.size;go_wp2_with (at_builtin;go_loud (refine wpList_append_own _ rfl _ _ 230 rfl w.heap.size 4 i0 (zh zt) 1 1 underlying230 hi h3 h9 h5 rfl (by decide) _ k ys rfl (c.out.alloc _) ⟨d.heap.size,0,zp⟩ 1 1 [zh (y != -1)] rfl rfl ?c1 ?c2 ?c3 ?c4 ?c5 ?_))
   case c1=>exact World.news_of_block (cs:=#[zh (y != -1)]) (t:=4) (fr:=(0,0)) (heap_alloc_new d _)
   case c2=>intro u hu;simp at hu;subst hu;rfl
   case c3=>unfold maxLen;omega
   case c4=>omega
   case c5=>simp;omega
   intro v' w5 B x _;rw[<-h4.out]at B;have D:Below w.heap.size w w5:=(E.out.alloc hc _).grown x (by simp;omega) fun j hj=>(c.out.lt j hj).1;have I:=yw D;have h1:=yw B;rcases B.2 with⟨_,h0⟩|⟨g,hg,cur,hv,_⟩
   .omega
   subst hv;clear D B x;go_wp2_with fail;go_roundw
   case rel=>exact⟨k+1,_,_,by omega,by go_num,rfl,by rw[J.out];exact h1.out,I.out⟩
   case measure=>simp[intOf];omega
  .have U:k=n:=by omega
   have HK:=yw U;rw[U]at K;have m:=yw (Jv b wr F s S L HS.out h7.out);rw[<-P.out]at m;clear W;subst U;go_wp2_with fail;refine m.out.mono ?_;rintro z d ⟨la,lc,rfl,H,G⟩;have X:LR d S.OZ S.runs la l k:=⟨by rw[P.out];simp[Sc.OZ],by rw[Y.out];simp,a,xE.eM H,by rw[Y.out];exact xE.eM (qQ K.out G)⟩
   have R:=yw (Ov A d S.OZ S.runs la k lc l C mask X HM.out ha.out (by rw[P.out];exact HP.out));have E:=yw (yC Q.out G Q.out.size);have h8:Hid (O=xR S.OZ S.runs A mask):=yw h6.out;rw[<-h8.out]at R;clear H G X;cases O with
   | none=>
    go_wp2_with fail;refine R.out.mono ?_;rintro z w5 ⟨rfl,D⟩;have I:=yw (yC E.out D E.out.size);clear D;go_wp2;go_ret2;exact⟨rfl,I.out⟩
   | some q=>
    go_wp2_with fail;refine R.out.mono ?_;rintro z w5 ⟨rfl,D⟩;have I:=yw (yC E.out D E.out.size);clear D;go_wp2;go_ret2;exact⟨rfl,I.out⟩
theorem Uz{l:List Int}{B:List Bool}{A mask:Int}(h:xR l B A mask=zo p):p<l.length:=by
 unfold xR at h;cases hl:vw l mask with
 | none=>rw[hl]at h;cases h
 | some least=>
  rw[hl]at h;simp only at h;split at h
  .rename_i D;obtain rfl:=zx h;unfold qF at D;simp at D;omega
  .split at h
   .rename_i q E;obtain rfl:=zx h;exact List.mem_range.1 (List.mem_of_find?_eq_some E)
   .split at h
    .rename_i hc;obtain rfl:=zx h;omega
    .obtain rfl:=zx h;exact Xr hl
theorem qO(h:S.tsk? a=zo n):a=n/\∃t,S.ts[n]?=zo t/\t.dead=zt/\S.t n=t:=by
 unfold Sc.tsk? at h;split at h
 .rename_i B;obtain rfl:=zx h;obtain⟨t,A⟩:∃t,S.ts[a.toNat]?=zo t:=⟨_,zy (by omega)⟩
  refine⟨by omega,t,A,?_,Sc.RV A⟩;have:=B.2.2;rw[Sc.RV A]at this;exact this
 .cases h
def Ke(x:Option Nat):Nat:=x.getD 0
def Cx(x:Option Nat):Bool:=x.isSome
theorem Xs(x:Option Nat):gY x=zm (zi #[zd zj (Ke x),zh (Cx x)]):=by cases x<;>rfl
theorem Hu(B:S.Ok b)(A mask:Int):Ke (S.free A mask) <S.ps:=by
 unfold Ke;cases h:S.free A mask with
 | none=>have:=B.ps;show 0<_;omega
 | some p=>
  have:=Uz h;rw[B.OZ.2]at this;exact this
theorem JQ(h:S.tsk? e.a=zo n)(A:S.t n=t)(B:t.on=zt):S.AL e=(S.put n (Ke (S.free t.p t.mask)) zq,((Ke (S.free t.p t.mask):Nat):Int),0):=by unfold Sc.AL;simp only[h,A];rw[if_neg (by rw[B];decide)];unfold Ke;cases S.free t.p t.mask<;>rfl
theorem KY(e:Ev)(b:Nat)(w:zu)(F:Nat->Prop)(s:Nat)(S:Sc)(L:Lay)(h:yK w F s S L)(G:S.Ok b):
 zw prog 46 #[ptr s,zg (OX e)] w (TM w F s L (S.AL e)):=by
 obtain⟨w1,B⟩:=yB (w.alloc (zn (OX e) 35))
 have E:Below w.heap.size w w1:=by rw[B];exact yE w _
 have J:=h.behind E;have M:Hid (yG w F s S L w1):=yw ((yG.refl h).below E);have R:=yw (Kc e.a w1 F s S L J (by have:=G.tl;have:=G.RY;omega));unfold TM;cases hg:S.tsk? e.a with
 | none=>
  have V:S.AL e=(S,0,2):=by unfold Sc.AL;rw[hg]
  rw[V];rw[hg]at R;clear V hg G h J E;go_enter func46,ntmps46;go_wp2_with fail;rw[show w.alloc (zn (OX e) 35)=w1 from B.symm];clear B;refine R.out.mono ?_;rintro z Z ⟨rfl,T⟩;obtain rfl:=T.symm;go_wp2;go_ret2;exact⟨rfl,M.out⟩
 | some n=>
  obtain⟨u,t,N,hd,I⟩:=qO hg;rw[hg,show Yg L.tb (zo n)=ptr (L.tb n)from rfl]at R;obtain⟨-,-,-,g,c,-,-,-,f,-⟩:=(J.tk N).TY;have D:=(J.tk N).lt;cases hon:t.on with
  | true=>
   have V:S.AL e=(S,0,7):=by unfold Sc.AL;simp only[hg,I];rw[if_pos hon]
   rw[V];rw[hon]at g;clear V hg G h J E u N hd I c f hon;go_enter func46,ntmps46;go_wp2_with fail;rw[show w.alloc (zn (OX e) 35)=w1 from B.symm];clear B;refine R.out.mono ?_;rintro z Z ⟨rfl,T⟩;obtain rfl:=T.symm;go_wp2;go_ret2;exact⟨rfl,M.out⟩
  | false=>
   rw[JQ hg I hon];have d:=G.tk n t N hd;have X:=Hu G t.p t.mask;have H:=yw (Kd t.p t.mask b w1.drew F s S L (J.kept fun k _ _=>rfl) G d.mask.1 d.mask.2 (.inr ⟨t.p,rfl,d.TC⟩));rw[Xs]at H;obtain⟨q,r⟩:=yB (Ke (S.free t.p t.mask))
   obtain⟨o,U⟩:=yB (Cx (S.free t.p t.mask))
   rw[<-r]at H X ⊢;rw[<-U]at H;have j:=yw (fun Z m (y:yK Z m s S L)=>Wu n q zq t b Z m s S L y G N hd hon X);rw[hon]at g;have h0:q<1000:=by have:=G.ps.2;omega
   clear hg G h J E u N hd I hon d r U;go_enter func46,ntmps46;go_wp2_with fail;rw[show w.alloc (zn (OX e) 35)=w1 from B.symm];clear B;refine R.out.mono ?_;rintro z Z ⟨rfl,T⟩;obtain rfl:=T.symm;go_wp2_with fail;go_region_held3 (fun w'=>w'.cell? ⟨L.tb n,4,zp⟩=zo (zd zj t.p)/\w'.cell? ⟨L.tb n,8,zp⟩=zo (zd zk t.mask)) (go_keep)
    (first
     | (
      go_at_call 86;refine H.out.mono ?_;rintro z x ⟨rfl,A⟩;have Y:=yw (M.out.below (show Below w1.heap.size w1 x from⟨A.os,A.tape,A.output,A.size,A.block⟩));replace c:=(A.cell (p:=⟨L.tb n,4,zp⟩) D).trans c;replace f:=(A.cell (p:=⟨L.tb n,8,zp⟩) D).trans f;replace D:=yz D A.size;clear A g))
   all_goals
    go_wp2_with fail;refine(j.out _ _ Y.out.1).mono ?_;rintro z w5 ⟨⟨v,rfl⟩,O⟩;have l:=yw (Y.out.then O);clear O c f D;go_wp2;go_ret2;exact⟨rfl,l.out⟩
theorem Sc.Ok.more(A:S.Ok b)(hb:b<900):S.Ok (b+1):=
 ⟨hb,A.ps,A.tick,A.credit,A.lat,A.tr,A.tok.more,A.dA.more,Nat.le_succ_of_le A.tl,⟨A.gl.1,by have:=A.gl.2;omega⟩,A.g0,A.gk,A.pl,A.gu,
  fun n g J G I=>by obtain⟨E,⟨d,hd,D,hk⟩,H⟩:=A.gx n g J G I;exact⟨E,⟨d,hd,D,hk.more⟩,H⟩,
  A.tk,A.dead,A.hk,A.hu,A.hc,A.hf,A.ev,fun p B=>⟨(A.ck p B).1.more,(A.ck p B).2⟩,
  ⟨A.bk.bt,A.bk.bg,⟨A.bk.total.1,by have:=A.bk.total.2;omega⟩,by have:=A.bk.many;omega⟩⟩
theorem Sc.Fit.more(h:S.Fit b)(hb:b<900):S.Fit (b+1):=⟨h.1.more hb,h.2⟩
theorem Sc.Ok.OY(A:S.Ok b){t':Tk}(J:S.ts[n]?=zo t)(U:t'.on=t.on)(X:t'.p=t.p)(Y:t'.OG=t.OG)(Z:t'.hi=t.hi)(V:t'.dead=t.dead)(T:t.dead=zt->Hi S n t->Hi S n t'):(S.OY n t').Ok b:=by
 have h4:=(yy J).1;refine⟨A.RY,A.ps,A.tick,A.credit,A.lat,A.tr,A.tok,A.dA,?_,A.gl,A.g0,A.gk,A.pl,A.gu,?_,?_,?_,A.hk,A.hu,A.hc,A.hf,?_,A.ck,A.bk⟩
 .show(S.ts.set n t').length<=b;rw[zD];exact A.tl
 .intro k y I R c;obtain⟨d,a,g⟩:=A.gx k y I R c;exact⟨d,a,g⟩
 .intro k u B O;rcases xh B with⟨rfl,rfl⟩|⟨M,B⟩
  .have hd:t.dead=zt:=by rw[<-V];exact O
   exact(T hd (A.tk k t J hd)).of rfl rfl rfl rfl
  .exact(A.tk k u B O).of rfl rfl rfl rfl
 .intro k u B N;rcases xh B with⟨rfl,rfl⟩|⟨M,B⟩
  .rw[V];exact A.dead k t J (by rw[<-U];exact N)
  .exact A.dead k u B N
 .intro p f i k;rw[show((S.OY n t').hs p).even i k↔(S.hs p).even i k from Iff.rfl,A.ev p f i k];constructor
  .rintro⟨m,u,y,B,G,D,I,E,H⟩;by_cases e:m=n
   .subst e;rw[J]at B;obtain rfl:=zx B;exact⟨m,t',y,vj J,U.trans G,X.trans D,by rw[Y];exact I,E,by rw[Z];exact H⟩
   .exact⟨m,u,y,by show(S.ts.set n t')[m]?=_;rw[zC (Ne.symm e)];exact B,G,D,I,E,H⟩
  .rintro⟨m,u,y,B,G,D,I,E,H⟩;rcases xh B with⟨rfl,rfl⟩|⟨M,B⟩
   .exact⟨m,t,y,J,U.symm.trans G,X.symm.trans D,by rw[<-Y];exact I,E,by rw[<-Z];exact H⟩
   .exact⟨m,u,y,B,G,D,I,E,H⟩
theorem Sc.Fit.OY(h:S.Fit b){t':Tk}(I:S.ts[n]?=zo t)(D:t'.on=t.on)(H:t'.p=t.p)(E:t'.OG=t.OG)(G:t'.hi=t.hi)(B:t'.dead=t.dead)(A:t.dead=zt->Hi S n t->Hi S n t'):(S.OY n t').Fit b:=
 ⟨h.1.OY I D H E G B A,h.2⟩
theorem Sc.Ok.kill(A:S.Ok b)(hb:b<900)(N:S.ts[n]?=zo t)(J:t.on=zt)(hd:t.dead=zt):({ S.OY n { t with dead:=zq }with pool:=S.pool.bB t.hi t.hg }:Sc).Ok (b+1):=by
 have G:=A.more hb;have h4:=(yy N).1;have f:=A.tk n t N hd;obtain⟨q0,T,X,Y⟩:=f.pool;have Z:S.pool.find t.hi t.hg=zo t.hi:=by unfold Pi.Ps.find;rw[zI,T];simp[X,Y]
 refine⟨G.RY,A.ps,A.tick,A.credit,A.lat,A.tr,G.tok,?_,?_,G.gl,A.g0,A.gk,A.pl,A.gu,?_,?_,?_,A.hk,A.hu,A.hc,A.hf,?_,G.ck,G.bk⟩
 .exact A.dA.bB _ _
 .show(S.ts.set n _).length<=b+1;rw[zD];exact G.tl
 .intro k y o V c;obtain⟨g,a,r⟩:=G.gx k y o V c;exact⟨g,a,r⟩
 .intro k u B H;rcases xh B with⟨rfl,rfl⟩|⟨E,B⟩
  .cases H
  .have h:=A.tk k u B H;refine⟨h.OG,?_,h.hi,h.at_,h.TC,h.wt,h.mask,h.e,h.nice,h.min⟩;obtain⟨q,d,O,R⟩:=h.pool;have M:t.hi≠u.hi:=fun e=>E (A.one B H N hd e.symm);refine⟨q,?_,O,R⟩;show(S.pool.bB t.hi t.hg).l[u.hi]?=zo q;unfold Pi.Ps.bB;rw[Z];simp only;rw[zC M];exact d
 .intro k u B I;rcases xh B with⟨rfl,rfl⟩|⟨E,B⟩
  .rw[show t.on=zq from I]at J;cases J
  .exact A.dead k u B I
 .intro p j i k;rw[show(({ S.OY n { t with dead:=zq }with pool:=S.pool.bB t.hi t.hg }:Sc).hs p).even i k↔(S.hs p).even i k from Iff.rfl,A.ev p j i k];constructor
  .rintro⟨m,u,y,B,D,U⟩;have e:m≠n:=by rintro rfl;rw[N]at B;obtain rfl:=zx B;rw[J]at D;cases D
   exact⟨m,u,y,by show(S.ts.set n _)[m]?=_;rw[zC (Ne.symm e)];exact B,D,U⟩
  .rintro⟨m,u,y,B,D,U⟩;rcases xh B with⟨rfl,rfl⟩|⟨E,B⟩
   .rw[show t.on=zq from D]at J;cases J
   .exact⟨m,u,y,B,D,U⟩
theorem FL(h:S.Fit b)(hb:b<900)(B:S.ts[n]?=zo t)(A:t.on=zt)(hd:t.dead=zt):({ S.OY n { t with dead:=zq }with pool:=S.pool.bB t.hi t.hg }:Sc).Fit (b+1):=⟨h.1.kill hb B A hd,h.2⟩
theorem qR(A:S.ts[n]?=zo t):∃t1,(S.leave n).ts[n]?=zo t1/\t1.on=zt/\t1.dead=t.dead/\t1.hi=t.hi/\t1.hg=t.hg/\t1.mask=t.mask/\t1.p=t.p/\t1.OG=t.OG:=by
 have B:=(yy A).1;have hs:=Sc.RV A;refine⟨{ S.t n with min:=S.least n (S.t n).p,e:=(S.hs (S.t n).p).gone (S.g (S.t n).OG).hi (S.t n).hi,on:=zt },?_,rfl,?_,?_,?_,?_,?_,?_⟩
 .show(S.ts.set n _)[n]?=_;rw[zT B]
 all_goals rw[hs]
theorem Ey{S:Sc}{b:Nat}(B:S.Ok b){A mask:Int}{p:Nat}(h:S.free A mask=zo p):p<S.ps:=by have:=Uz h;rw[B.OZ.2]at this;exact this
theorem vI(h:S.Fit b)(B:(S.OI a).2=0):∃(p n:Nat) (t:Tk),a=p/\p<S.ps/\S.OI a=((n:Int),0)/\S.running p=(n:Nat)/\S.ts[n]?=zo t/\t.on=zq/\t.p=p/\(S.hs p).running≠ -1:=by
 unfold Sc.OI at B ⊢;by_cases D:S.TN a
 .rw[if_neg (by simpa using D)]at B ⊢;obtain⟨p,rfl⟩:∃p:Nat,a=p:=⟨a.toNat,by have:=D.1;omega⟩
  have A:p<S.ps:=by have:=D.2;omega
  rw[zI]at B ⊢;by_cases E:S.running p= -1
  .rw[if_pos E]at B;cases B
  .rw[if_neg E];obtain⟨n,t,G,M,I,J,H⟩:=h.1.runs A (h.2 p A) E;exact⟨p,n,t,rfl,A,by rw[G],G,M,I,J,H⟩
 .rw[if_pos (by simpa using D)]at B;cases B
theorem VK(h:S.Fit b)(e:Ev):(S.block e).1.Fit b:=by
 unfold Sc.block;split
 .rename_i D;obtain⟨p,n,t,_,_,A,_,E,B,_,_⟩:=vI h D;rw[A,zI];exact Ql h E B
 .exact h
theorem FM(h:S.Fit b)(hb:b<900)(e:Ev):(S.exit e).1.Fit (b+1):=by
 unfold Sc.exit;split
 .rename_i H;obtain⟨p,n,t,_,_,A,_,B,D,_,_⟩:=vI h H;rw[A,zI];obtain⟨t1,E,G,I,h4,h5,_⟩:=qR B;simp only;rw[Sc.RV E];exact FL (Ql h B D) hb E G (by rw[I];exact h.1.dead n t B D)
 .exact h.more hb
theorem KZ(h:S.Fit b)(e:Ev):(S.TH e).1.Fit b:=by
 unfold Sc.TH;split
 .rename_i D;obtain⟨p,n,t,B,A,_⟩:=vI h D;rw[B,zI];exact Mf h A
 .exact h
theorem FN(h:S.Fit b)(e:Ev):(S.AL e).1.Fit b:=by
 cases hg:S.tsk? e.a with
 | none=>unfold Sc.AL;rw[hg];exact h
 | some n=>
  obtain⟨ha,t,B,hd,A⟩:=qO hg;cases ho:t.on with
  | true=>
   have:S.AL e=(S,0,7):=by unfold Sc.AL;simp only[hg,A];rw[if_pos ho]
   rw[this];exact h
  | false=>
   rw[JQ hg A ho];exact Bp h B hd ho (Hu h.1 _ _) zq
theorem VL(h:S.Fit b)(e:Ev):(S.TR e).1.Fit b:=by
 unfold Sc.TR;cases hg:S.tsk? e.a with
 | none=>exact h
 | some n=>
  obtain⟨ha,t,G,hd,E⟩:=qO hg;simp only;split
  .exact h
  .rename_i B;have A: -20<=e.n/\e.n<=19:=by unfold uL at B;simpa using B
   have D:=Bg A.1 A.2;rw[E];split
   .rename_i H;have I:=h.1.on G H;have J:=FI h I.TC (S.g t.OG).hi t.hi (vd e.n);exact J.OY (t:=t) G rfl rfl rfl rfl rfl fun _ k=>⟨k.OG,k.pool,k.hi,k.at_,k.TC,D,k.mask,k.e,A,k.min⟩
   .refine h.OY (t:=t) G rfl rfl rfl rfl rfl fun _ k=>⟨k.OG,k.pool,k.hi,k.at_,k.TC,D,k.mask,⟨⟨k.e.1.id,D,k.e.1.v,?_⟩,k.e.2⟩,A,k.min⟩
    exact Nw k.e.1.rem.1 k.e.1.rem.2 (by omega)
theorem VM(h:S.Fit b)(e:Ev)(N:0<=e.mask/\e.mask<=18446744073709551615):(S.TJ e).1.Fit b:=by
 unfold Sc.TJ;cases hg:S.tsk? e.a with
 | none=>exact h
 | some n=>
  obtain⟨ha,t,I,hd,E⟩:=qO hg;simp only;split
  .exact h
  .rw[E];have G:(S.OY n { t with mask:=e.mask }).Fit b:=h.OY I rfl rfl rfl rfl rfl fun _ k=>⟨k.OG,k.pool,k.hi,k.at_,k.TC,k.wt,N,k.e,k.nice,k.min⟩
   have B:=vj (t':={ t with mask:=e.mask }) I;split
   .rename_i O;have D:=Ql G B O.1;obtain⟨J,H,g2,R,g4,g5,_⟩:=qR B;have A:J.dead=zt:=R.trans hd;split
    .exact Bp D H A g2 (by have:=D.1.ps;omega) zt
    .rename_i p M;exact Bp D H A g2 (Ey D.1 M) zt
   .exact G
theorem Ae(h:S.Fit b)(e:Ev):(S.RX e).1.Fit b:=by
 unfold Sc.RX;cases hg:S.grp? e.a with
 | none=>exact h
 | some g=>
  obtain⟨ha,x,E,h4,B⟩:=xm hg;simp only;split
  .exact h
  .rename_i h0;split
   .exact h
   .rename_i D;have A:2<=e.n/\e.n<=262144:=by unfold vm at D;simpa using D
    rw[B];refine h.OF E (by omega) rfl rfl rfl fun H=>?_;obtain⟨h1,G,I⟩:=h.1.gx g x E H (by omega);exact⟨A,G,I⟩
theorem XA(h:S.Fit b)(e:Ev):(S.PM e).1.Fit b:=by
 unfold Sc.PM;cases hg:S.grp? e.a with
 | none=>exact h
 | some g=>
  obtain⟨ha,x,B,h0,A⟩:=xm hg;simp only;rw[A];cases hd:x.band with
  | none=>exact h
  | some d=>
   simp only;split
   .exact(h.ON B hd (fun hk=>hk.PM) (KU _)).1
   .exact h
theorem Mi{b g:Nat}:∀(l:List Nat) {S:Sc} (h:S.Fit b) {x:Gp} (A:S.gs[g]?=zo x) (B:g≠0) (D:x.line=l),(∀p∈l,p<S.ps)->(Sc.SN g l S).Fit b/\S.PX (Sc.SN g l S)
 | [],S,h,x,A,B,D,hp=>⟨h,.refl S⟩
 | p::r,S,h,x,A,B,D,hp=>by
  unfold Sc.SN;rw[Sc.PE A];obtain⟨I,M⟩:=h.OP (l:=r) A B fun E=>by rw[D]at E;exact Pb E
  have G:=Jy I (hp p yk) x.hi zt;obtain⟨J,N⟩:=Mi r G (x:=x.OP r) (xg A) B rfl fun q H=>hp q (yj _ H);exact⟨J,(M.OM _ _).trans N⟩
theorem VN(h:S.Fit b)(e:Ev):(S.TQ e).1.Fit b:=by
 unfold Sc.TQ;cases hg:S.grp? e.a with
 | none=>exact h
 | some g=>
  obtain⟨ha,x,D,H,I⟩:=xm hg;simp only;rw[I];split
  .exact h
  .rename_i h0;cases hd:x.band with
   | none=>exact h
   | some d=>
    simp only;split
    .exact h
    .rename_i hb;have G:¬Qt.RM e.n e.m:=by unfold Gt at hb;unfold Qt.RM;simpa using hb
     have A:g≠0:=by omega
     have N:(S.OF g { x.ON (d.SR e.n e.m)with quota:=e.n }).Fit b:=h.OF D A rfl rfl rfl fun M=>by obtain⟨O,⟨c,J,RK,h2⟩,R⟩:=h.1.gx g x D M A;rw[hd]at J;obtain rfl:=zx J;exact⟨O,⟨_,rfl,(Mb _ _ _).trans RK,.SR _ _ G⟩,R⟩
     have B:=xg (g':={ x.ON (d.SR e.n e.m)with quota:=e.n }) D;rw[Sc.PE B];have E:=(h.1.gx g x D H A).line.1;exact(Mi x.line N B A rfl E).1
theorem Sc.Ok.SO(B:S.Ok b)(hb:b<900)(hq:∀p,p<S.ps->(S.hs p).Ok){g:Nat}(hx:S.gs[g]?=zo x)(W:x.there=zq)(hp:p<S.ps)(Q: -20<=e.n/\e.n<=19)(hm:0<=e.mask/\e.mask<=18446744073709551615)(z:S.pool.SD 64=0):
 (S.SO g p e).Ok (b+1)/\∃t,(S.SO g p e).ts[S.ts.length]?=zo t/\t.dead=zt/\t.on=zt:=by
 have J:=B.more hb;have hw:=Bg Q.1 Q.2;have c: -9223372036854775808<=(S.hs p).minOf x.hi/\(S.hs p).minOf x.hi<=9223372036854775807:=by
  unfold Hm.minOf;cases C:(S.hs p).gs x.hi with
  | none=>exact⟨by show(-9223372036854775808:Int)<=0;omega,by show(0:Int)<=_;omega⟩
  | some y=>exact((hq p hp).q _ _ C).1.min
 obtain⟨I,hI⟩:=yB (S.pool.RL 64)
 obtain⟨G,hG⟩:=yB (S.pool.SU 64)
 have o:(∃q,(S.pool.put 64 S.ts.length).l[I]?=zo q/\q.used=zq/\q.gen=G)/\I<64/\∀(i:Nat) q,S.pool.l[i]?=zo q->q.used=zq->i≠I/\(S.pool.put 64 S.ts.length).l[i]?=zo q:=by
  have h4:=B.dA.room;have M:=B.dA.many;have R:¬S.pool.many=64:=by intro h;unfold Pi.Ps.SD at z;rw[if_pos h]at z;cases z
  rw[hI,hG];unfold Pi.Ps.put Pi.Ps.RL Pi.Ps.SU;rw[if_neg R,if_neg R,if_neg R];have hc:=B.dA.chain;cases hst:S.pool.st with
  | nil=>
   rw[hst]at M;simp at M;refine⟨⟨⟨S.ts.length,0,zq,-1⟩,by simp,rfl,rfl⟩,by show S.pool.l.length<64;omega,fun i q Z A=>?_⟩;have L:=(yy Z).1;exact⟨by show i≠S.pool.l.length;omega,by show(S.pool.l++_)[i]?=_;rw[zF L];exact Z⟩
  | cons k st=>
   rw[hst]at hc;obtain⟨_,q0,f,P,_⟩:=hc;have v:=(yy f).1;refine⟨⟨⟨S.ts.length,(S.pool.l.getD k ⟨0,0,zt,0⟩).gen,zq,-1⟩,by show(S.pool.l.set k _)[k]?=_;rw[zT v],rfl,rfl⟩,by show k<64;omega,fun i q Z A=>?_⟩;have a:i≠k:=by rintro rfl;rw[f]at Z;obtain rfl:=zx Z;rw[P]at A;cases A
   exact⟨a,by show(S.pool.l.set k _)[i]?=_;rw[zC (Ne.symm a)];exact Z⟩
 obtain⟨hP,s,O⟩:=o;obtain⟨t,E⟩:∃t:Tk,t=⟨I,G,zt,zt,p,g,e.n,vd e.n,e.mask,⟨I,vd e.n,(S.hs p).minOf x.hi,0⟩,0⟩:=⟨_,rfl⟩
 have j:S.SO g p e={ S with pool:=S.pool.put 64 S.ts.length,ts:=S.ts++ [t],at_:=OV S.at_ I S.ts.length }:=by unfold Sc.SO;rw[Sc.PE hx,E,hI,hG]
 have X:∀(n:Nat) (u:Tk),S.ts[n]?=zo u->u.dead=zt->u.hi≠I:=fun n u A N=>by obtain⟨q,d,Y,_⟩:=(B.tk n u A N).pool;exact(O _ _ d Y).1
 rw[j];have U:(S.ts++ [t])[S.ts.length]?=zo t:=by simp
 have D:∀(k:Nat) (u:Tk),(S.ts++ [t])[k]?=zo u->(k=S.ts.length/\u=t)∨S.ts[k]?=zo u:=fun k u A=>by
  by_cases hk:k<S.ts.length
  .rw[zF hk]at A;exact .inr A
  .rw[zV (by omega)]at A;have:k-S.ts.length=0:=by have:=(yy A).1;simpa using this
   rw[this]at A;simp at A;exact .inl ⟨by omega,A.symm⟩
 refine⟨⟨J.RY,B.ps,B.tick,B.credit,B.lat,B.tr,J.tok,B.dA.put _,?_,J.gl,B.g0,B.gk,B.pl,B.gu,?_,?_,?_,B.hk,B.hu,B.hc,B.hf,?_,J.ck,J.bk⟩,t,U,by rw[E],by rw[E]⟩
 .show(S.ts++ [t]).length<=b+1;have:=B.tl;simp;omega
 .intro k y C F h0;obtain⟨d,Y,K⟩:=J.gx k y C F h0;exact⟨d,Y,K⟩
 .intro k u A N;rcases D k u A with⟨rfl,rfl⟩|A
  .refine⟨?_,?_,?_,?_,?_,?_,?_,?_,?_,?_⟩
   .rw[E];exact⟨x,hx,W⟩
   .rw[E];exact hP
   .rw[E];exact s
   .rw[E];exact yR _ _ _
   .rw[E];exact hp
   .rw[E];exact hw
   .rw[E];exact hm
   .rw[E];exact⟨⟨by show 0<=(I:Int)/\(I:Int)<=1000000;omega,hw,c,by show(0:Int)<=0/\(0:Int) <vd e.n;omega⟩,rfl⟩
   .rw[E];exact Q
   .rw[E];exact⟨by show(-9223372036854775808:Int)<=0;omega,by show(0:Int)<=_;omega⟩
  .have h:=B.tk k u A N;obtain⟨q,d,Y,K⟩:=h.pool;exact⟨h.OG,⟨q,(O _ _ d Y).2,Y,K⟩,h.hi,(yQ _ _ (X k u A N)).trans h.at_,h.TC,h.wt,h.mask,h.e,h.nice,h.min⟩
 .intro k u A T;rcases D k u A with⟨rfl,rfl⟩|A
  .rw[E]at T;cases T
  .exact B.dead k u A T
 .intro r hr i k;show(S.hs r).even i k↔∃(n':Nat) (t':Tk) (g':Gp),(S.ts++ [t])[n']?=zo t'/\_;rw[B.ev r hr i k];constructor
  .rintro⟨m,u,y,A,H⟩;exact⟨m,u,y,by rw[zF (yy A).1];exact A,H⟩
  .rintro⟨m,u,y,A,V,H⟩;rcases D m u A with⟨rfl,rfl⟩|A
   .rw[E]at V;cases V
   .exact⟨m,u,y,A,V,H⟩
theorem Af(h:S.Fit b)(hb:b<900){g:Nat}(I:S.gs[g]?=zo x)(A:x.there=zq)(B:p<S.ps)(J: -20<=e.n/\e.n<=19)(D:0<=e.mask/\e.mask<=18446744073709551615)(E:S.pool.SD 64=0):
 (S.SO g p e).Fit (b+1)/\∃t,(S.SO g p e).ts[S.ts.length]?=zo t/\t.dead=zt/\t.on=zt:=by
 obtain⟨H,G⟩:=h.1.SO hb h.2 I A B J D E;exact⟨⟨H,h.2⟩,G⟩
theorem VO(h:S.Fit b)(hb:b<900)(e:Ev)(H:0<=e.mask/\e.mask<=18446744073709551615):(S.spawn e).1.Fit (b+1):=by
 unfold Sc.spawn;cases hg:S.grp? e.a with
 | none=>exact h.more hb
 | some g=>
  obtain⟨ha,x,N,B,h0⟩:=xm hg;simp only;split
  .exact h.more hb
  .rename_i A;have E: -20<=e.n/\e.n<=19:=by unfold uL at A;simpa using A
   cases hf:S.free (-1) e.mask with
   | none=>exact h.more hb
   | some p=>
    simp only;split
    .exact h.more hb
    .rename_i G;have D:S.pool.SD 64=0:=Decidable.not_not.1 G;obtain⟨J,t,M,hd,I⟩:=Af h hb N B (Ey h.1 hf) E H D;exact Bp J M hd I (Ey h.1 hf) zt
theorem LD{l:List Pl}(h:Tr l):∀k,bM l k->(∀i∈AF l k,dep l i<=dep l k)/\(AF l k).Nodup/\∀i∈AF l k,i≠0:=
 h.induct (by rw[Jp];exact⟨fun i A=>by(cases A),List.nodup_nil,fun i A=>by(cases A)⟩) (fun k D hk ih=>by
  obtain⟨B,H,I⟩:=ih;have hd:=(h.up D hk).2;rw[Jq h D hk];refine⟨fun i A=>?_,?_,fun i A=>?_⟩
  .rcases yn.1 A with A|A
   .have:=B i A;omega
   .simp at A;subst A;exact yA _
  .rw[List.nodup_append];refine⟨H,by simp,fun a G c E=>?_⟩;simp at E;subst E;rintro rfl;have:=B a G;omega
  .rcases yn.1 A with A|A
   .exact I i A
   .simp at A;subst A;exact hk)
theorem Mj{f:Nat->Nat}:∀(l:List Nat),l.Nodup->(∀i∈l,∀j∈l,f i=f j->i=j)->(l.map f).Nodup
 | [],_,_=>List.nodup_nil
 | a::l,h,hi=>by obtain⟨H,G⟩:=List.nodup_cons.1 h;rw[List.map_cons,List.nodup_cons];refine⟨fun D=>?_,Mj l G fun i A j E=>hi i (yj _ A) j (yj _ E)⟩;obtain⟨c,B,e⟩:=yh.1 D;have:=hi c (yj _ B) a yk e;subst this;exact H B
theorem Sc.Ok.dB(A:S.Ok b){g:Gp}(B:S.gs[n]?=zo g)(E:g.there=zq):(S.SP n).Nodup/\(∀m∈S.SP n,m≠0)/\(S.SP n).length<=8:=by
 obtain⟨⟨q,I,M,_⟩,_⟩:=A.gk n g B E;obtain⟨h1,R,V⟩:=LD A.tr g.hi ⟨q,I,M⟩;have U:S.SP n=(AF S.tree.l g.hi).map fun i=>(S.pl i).getD 0:=by unfold Sc.SP;rw[Sc.PE B]
 rw[U];refine⟨Mj _ R fun i G j Z e=>?_,fun m Y=>?_,?_⟩
 .obtain⟨_,a,y,N,J,_,H⟩:=A.path B E G;obtain⟨_,c,z,d,O,_,h0⟩:=A.path B E Z;rw[N,d]at e;have T:a=c:=e;subst T;rw[J]at O;obtain rfl:=zx O;omega
 .obtain⟨i,G,rfl⟩:=yh.1 Y;obtain⟨_,a,y,N,J,h4,H⟩:=A.path B E G;rw[N];rintro rfl;obtain⟨x,X,h5,_⟩:=A.g0;have D:S.gs[0]?=zo y:=J;rw[X]at D;obtain rfl:=zx D;exact V i G (by omega)
 .rw[List.length_map,Gf A.tr _ ⟨q,I,M⟩];have:=A.tr.dp I M;omega
theorem Va(p:Nat)(ns:Int):∀(l:List Nat) (S:Sc),(Sc.PT p ns l S).cs=S.cs
 | [],S=>rfl
 | g::r,S=>by
  unfold Sc.PT;split
  .exact Va p ns r S
  .rw[Va p ns r];rfl
theorem Bt{g:Nat}{ns:Int}(A:S.gs[g]?=zo x)(hd:x.band=zo d):Sc.PT p ns (g::r) S=Sc.PT p ns r (S.OF g (x.ON ((d.OW p (xA d p) ns).SQ p (d.left (xA d p) ns)))):=by rw[Sc.PT,Sc.PE A,hd]
theorem Hv(h:vB k d)(A:p<d.l.length){ns:Int}(D:0<=ns)(B:ns<=1000000000):vB (k+1) ((d.OW p (xA d p) ns).SQ p (d.left (xA d p) ns)):=
 (h.OW (uB A) D B).SQ (Qt.Bd.AZ ns (uB A))
def Sc.cJ(S:Sc)(b:Nat)(l:List Nat):Prop:=∀g∈l,∃x d,S.gs[g]?=zo x/\x.there=zq/\x.band=zo d/\d.l.length=S.ps/\vB b d
theorem Cy{b p:Nat}{ns:Int}(M:0<=ns)(N:ns<=1000000000):∀(l:List Nat) {S:Sc} (h:S.Fit (b+1)) (I:p<S.ps) (A:l.Nodup) (E:S.cJ b l),(Sc.PT p ns l S).Fit (b+1)/\S.PX (Sc.PT p ns l S)
 | [],S,h,I,A,E=>⟨h,.refl S⟩
 | g::r,S,h,I,A,E=>by
  obtain⟨x,d,O,ht,hd,h2,J⟩:=E g yk;obtain⟨Y,Z⟩:=List.nodup_cons.1 A;rw[Bt O hd];have H:=Hv (p:=p) J (by omega) M N;obtain⟨R,X⟩:=h.ON (d':=(d.OW p (xA d p) ns).SQ p (d.left (xA d p) ns)) O hd (fun _=>H) (by rw[Wt,Ct]);obtain⟨V,T⟩:=Cy M N r R I Z fun g' D=>by
   obtain⟨y,c,U,B⟩:=E g' (yj _ D);have G:g≠g':=by rintro rfl;exact Y D
   exact⟨y,c,by show(S.gs.set g _)[g']?=_;rw[zC G];exact U,B⟩
  exact⟨V,X.trans T⟩
theorem Sc.Ok.fK(A:S.Ok b){x:Bk}(J:FF x b):({ S with book:=x }:Sc).Ok b:=
 ⟨A.RY,A.ps,A.tick,A.credit,A.lat,A.tr,A.tok,A.dA,A.tl,A.gl,A.g0,A.gk,A.pl,A.gu,
  fun n g I B H=>by obtain⟨E,D,G⟩:=A.gx n g I B H;exact⟨E,D,G⟩,
  fun n t B hd=>(A.tk n t B hd).of rfl rfl rfl rfl,A.dead,A.hk,A.hu,A.hc,A.hf,A.ev,A.ck,J⟩
theorem FF.credit{k:Bk}(h:FF k b){A:List Nat}{ns:Int}(h0:0<=ns)(h1:ns<=1000000000)(hl:A.length<=12):FF (k.credit A n ns) (b+1):=by
 obtain⟨t1,t2⟩:=h.total;have hm:=h.many;refine⟨fun m=>?_,fun g=>?_,?_,?_⟩
 .have a:=h.bt m;have c:=h.bt n;show 0<=OV k.bt n (k.bt n+ns) m/\OV k.bt n (k.bt n+ns) m<=k.total+ns;unfold OV;split<;>omega
 .have a:=h.bg g;show 0<=(if g∈A then k.bg g+ns else k.bg g)/\(if g∈A then k.bg g+ns else k.bg g)<=k.total+ns;split<;>omega
 .show 0<=k.total+ns/\k.total+ns<=_;omega
 .show k.n+A.length+1<=_;omega
theorem Uc(h:l.Nodup):(S.limited l).Nodup:=List.Pairwise.filter _ h
theorem FO{S:Sc}{b:Nat}(D:S.Ok b){n:Nat}{g:Gp}(H:S.gs[n]?=zo g)(G:g.there=zq):S.cJ b (S.limited (S.SP n)):=fun m J=>by obtain⟨x,d,E,A,hd⟩:=Br D H G m J;obtain⟨d',B,I,hk⟩:=D.band E A (D.SA E hd);rw[hd]at B;obtain rfl:=zx B;exact⟨x,d,E,A,hd,I,hk⟩
def Sc.SY(S:Sc)(p n:Nat)(OG:Nat)(ns:Int):Sc:=Sc.PT p ns (S.limited (S.SP OG)) (({ S with book:=S.book.credit (0::S.SP OG) n ns }:Sc).OM p ((S.hs p).OK ns))
theorem Hw(h:S.Fit b)(hb:b<900)(B:p<S.ps){OG:Nat}{g:Gp}(H:S.gs[OG]?=zo g)(E:g.there=zq){ns:Int}(G:0<=ns)(D:ns<=1000000000):(S.SY p n OG ns).Fit (b+1)/\(S.SY p n OG ns).cs=S.cs/\S.ps=(S.SY p n OG ns).ps:=by
 obtain⟨w1,w2,w3⟩:=h.1.dB H E;have I:(({ S with book:=S.book.credit (0::S.SP OG) n ns }:Sc)).Fit (b+1):=⟨(h.1.more hb).fK (h.1.bk.credit G D (by rw[List.length_cons];omega)),h.2⟩
 have A:=Hp I B ns;obtain⟨J,M⟩:=Cy G D (S.limited (S.SP OG)) A B (Uc w1) (FO h.1 H E);exact⟨J,Va _ _ _ _,M.ps.symm⟩
theorem Vb(A:S.TN e.a)(B:¬(e.n<0∨S.tick<e.n))(D:S.running e.a.toNat= -1):S.PP e=(S.PZ e.a.toNat ((S.cs e.a.toNat).tick e.n),-1,0):=by unfold Sc.PP;rw[if_neg (by simpa using A),if_neg B];simp only;rw[if_pos D];rfl
theorem Vc(A:S.TN e.a)(B:¬(e.n<0∨S.tick<e.n))(E:S.running e.a.toNat=n)(D:S.ts[n]?=zo t):S.PP e=
 (
  show Out from let s3:=S.SY e.a.toNat n t.OG e.n
  let c:=(s3.cs e.a.toNat).tick e.n
  let s4:=s3.PZ e.a.toNat c
  if c.due t.w (s3.load 0 e.a.toNat)=zq then((s4.OM e.a.toNat (s4.hs e.a.toNat).yield.1).PZ e.a.toNat (c.begin (-1)),(n:Int),0)else(s4,(n:Int),0)):=by
 unfold Sc.PP;rw[if_neg (by simpa using A),if_neg B];simp only;rw[if_neg (by omega),E,zI,Sc.RV D];unfold Ck.due;simp only[decide_eq_true_eq];rfl
theorem Xj.tick(h:Xj k c){ns:Int}(B:0<=ns)(A:ns<=1000000000):Xj (k+1) (c.tick ns)/\(c.tick ns).lat=c.lat:=by
 unfold Ck.tick;split
 .exact⟨h.rest B A,rfl⟩
 .exact⟨h.serve B A,rfl⟩
theorem VP(h:S.Fit b)(hb:b<900)(e:Ev):(S.PP e).1.Fit (b+1):=by
 by_cases E:S.TN e.a
 .by_cases H:e.n<0∨S.tick<e.n
  .have:S.PP e=(S,0,8):=by unfold Sc.PP;rw[if_neg (by simpa using E),if_pos H]
   rw[this];exact h.more hb
  .have A:e.a.toNat<S.ps:=by have:=E.1;have:=E.2;omega
   have h2:=h.1.tick;have I:0<=e.n:=by omega
   have D:e.n<=1000000000:=by omega
   by_cases R:S.running e.a.toNat= -1
   .rw[Vb E H R];obtain⟨J,O⟩:=h.1.ck _ A;obtain⟨G,M⟩:=J.tick I D;exact(h.more hb).PZ _ ⟨G,M.trans O⟩
   .obtain⟨n,t,g,d,Z,e3,e4,X,Y,_⟩:=h.run A R;rw[Vc E H d Z];obtain⟨N,T,V⟩:=Hw h hb A (n:=n) X Y I D;obtain⟨J,O⟩:=h.1.ck _ A;obtain⟨G,M⟩:=J.tick I D;simp only;rw[T];have B:((S.cs e.a.toNat).tick e.n).lat=(S.SY e.a.toNat n t.OG e.n).lat:=by have D:=(N.1.ck e.a.toNat (by rw[<-V];exact A)).2;rw[T]at D;rw[M];exact D
    have U:=N.PZ e.a.toNat ⟨G,B⟩;split
    .have c:=Mf U (p:=e.a.toNat) (by show _<(S.SY e.a.toNat n t.OG e.n).ps;rw[<-V];exact A);exact c.PZ _ ⟨G.begin (by omega) (by omega),(Dy _ _).trans B⟩
    .exact U
 .have:S.PP e=(S,0,1):=by unfold Sc.PP;rw[if_pos (by simpa using E)]
  rw[this];exact h.more hb
theorem LF{s:Ps}(h:s.Ok 32 b)(H:s.SD 32=0)(x:SZ):(∃q,(s.put 32 x).l[s.RL 32]?=zo q/\q.used=zq/\q.gen=s.SU 32/\q.x=x)/\s.RL 32<32/\(∀(i:Nat) q,s.l[i]?=zo q->q.used=zq->i≠s.RL 32)/\∀i,i≠s.RL 32->(s.put 32 x).l[i]?=s.l[i]?:=by
 have h0:=h.room;have A:=h.many;have D:¬s.many=32:=by intro h;unfold Ps.SD at H;rw[if_pos h]at H;cases H
 unfold Ps.put Ps.RL Ps.SU;rw[if_neg D,if_neg D,if_neg D];have M:=h.chain;cases hst:s.st with
 | nil=>
  rw[hst]at A;simp at A;refine⟨⟨⟨x,0,zq,-1⟩,by simp,rfl,rfl,rfl⟩,by show s.l.length<32;omega,fun i q B I=>?_,fun i B=>?_⟩
  .have h2:=(yy B).1;show i≠s.l.length;omega
  .show(s.l++_)[i]?=_;have h1:i≠s.l.length:=B;by_cases N:i<s.l.length
   .rw[zF N]
   .rw[List.getElem?_eq_none (by simp;omega),List.getElem?_eq_none (by omega)]
 | cons k st=>
  rw[hst]at M;obtain⟨_,q0,E,J,_⟩:=M;have G:=(yy E).1;refine⟨⟨⟨x,(s.l.getD k ⟨.zero,0,zt,0⟩).gen,zq,-1⟩,by show(s.l.set k _)[k]?=_;rw[zT G],rfl,rfl,rfl⟩,by show k<32;omega,fun i q B I=>?_,fun i B=>?_⟩
  .show i≠k;rintro rfl;rw[E]at B;obtain rfl:=zx B;rw[J]at I;cases I
  .show(s.l.set k _)[i]?=_;rw[zC (Ne.symm B)]
theorem FP{l A:List Pl}{i:Nat}(h:A[i]?=l[i]?):TA A i=TA l i/\dep A i=dep l i:=by unfold TA dep;rw[zH,zH,h];exact⟨rfl,rfl⟩
structure Grew(S:Sc)(u:Nat)(y:Gp):Prop where
 ne0:S.tree.TO y.hi y.hg≠0
 lt:S.tree.TO y.hi y.hg<32
 bare:S.pl (S.tree.TO y.hi y.hg)=zp
 dp:dep S.tree.l y.hi<8
 place:∃q,(S.tree.cT y.hi y.hg).l[S.tree.TO y.hi y.hg]?=zo q/\q.used=zq/\q.gen=S.tree.cA y.hi y.hg/\q.x=⟨y.hi,y.hi,y.hg,dep S.tree.l y.hi+1⟩
 fO:∀i,i≠S.tree.TO y.hi y.hg->(S.tree.cT y.hi y.hg).l[i]?=S.tree.l[i]?
theorem Sc.Ok.grew(E:S.Ok b){u:Nat}{y:Gp}(R:S.gs[u]?=zo y)(G:y.there=zq)(D:S.tree.AK y.hi y.hg=0):Grew S u y:=by
 obtain⟨⟨q,Y,f,h0⟩,h4⟩:=E.gk u y R G;have B:=E.find R G;have h3:=E.tr.dp Y f;unfold Ps.AK at D;rw[B]at D;simp only at D;have A:¬dep S.tree.l y.hi=8:=by intro h;rw[if_pos h]at D;cases D
 rw[if_neg A]at D;obtain⟨d,X,O,U⟩:=LF E.tok D ⟨y.hi,y.hi,y.hg,dep S.tree.l y.hi+1⟩;have H:S.tree.TO y.hi y.hg=S.tree.RL 32:=by unfold Ps.TO;rw[B];simp only;rw[if_neg A]
 have a:S.tree.cA y.hi y.hg=S.tree.SU 32:=by unfold Ps.cA;rw[B];simp only;rw[if_neg A]
 have T:S.tree.cT y.hi y.hg=S.tree.put 32 ⟨y.hi,y.hi,y.hg,dep S.tree.l y.hi+1⟩:=by unfold Ps.cT;rw[B];simp only;rw[if_neg A]
 refine⟨?_,by rw[H];exact X,?_,by omega,by rw[H,a,T];exact d,by rw[H,T];exact U⟩
 .rw[H];obtain⟨V,J,I,_⟩:=E.tr.root;exact fun h=>O 0 V J I h.symm
 .rw[H];cases hp:S.pl (S.tree.RL 32)with
  | none=>rfl
  | some m=>
   obtain⟨z,c,N,M⟩:=E.pl _ _ hp;obtain⟨⟨Z,J,I,_⟩,_⟩:=E.gk m z c N;exact absurd M (O _ Z J I)
theorem Sc.Ok.bT(D:S.Ok b)(hb:b<900)(hq:∀p,p<S.ps->(S.hs p).Ok){u:Nat}{y:Gp}(hy:S.gs[u]?=zo y)(L:y.there=zq)(hE:S.tree.AK y.hi y.hg=0){n:Int}(hn:2<=n/\n<=262144):(S.bT u n).Fit (b+1):=by
 have G:=D.grew hy L hE;have Z:=D.more hb;obtain⟨I,hI⟩:=yB (S.tree.TO y.hi y.hg)
 obtain⟨T,hT⟩:=yB (S.tree.cT y.hi y.hg)
 obtain⟨q,s,hv,ha,H0⟩:=G.place;have f:=G.ne0;have W:=G.lt;have O:=G.bare;have X:=G.fO;have h7:=D.tr.cT D.tok (y.hi:Int) y.hg;have Q:=D.tok.cT (y.hi:Int) y.hg;rw[<-hT,<-hI]at s;rw[<-hI]at f W O;rw[<-hT,<-hI]at X;rw[<-hT]at h7 Q;obtain⟨g',R⟩:∃g':Gp,g'=⟨I,S.tree.cA y.hi y.hg,n,0,zo ⟨0,0,0,0,List.replicate S.ps 0⟩,[],zq⟩:=⟨_,rfl⟩
 have h5:S.bT u n={ S with tree:=T,gs:=S.gs++ [g'],pl:=OV S.pl I (zo S.gs.length),hs:=fun p=>if p<S.ps then(S.hs p).link I y.hi else S.hs p }:=by unfold Sc.bT;rw[Sc.PE hy,R,hI,hT]
 have Y:∀(k:Nat) (z:Gp),(S.gs++ [g'])[k]?=zo z->(k=S.gs.length/\z=g')∨S.gs[k]?=zo z:=fun k z B=>by
  by_cases hk:k<S.gs.length
  .rw[zF hk]at B;exact .inr B
  .rw[zV (by omega)]at B;have:k-S.gs.length=0:=by have:=(yy B).1;simpa using this
   rw[this]at B;simp at B;exact .inl ⟨by omega,B.symm⟩
 have M:∀(k:Nat) (z:Gp),S.gs[k]?=zo z->(S.gs++ [g'])[k]?=zo z:=fun k z B=>by rw[zF (yy B).1];exact B
 have K:∀(k:Nat) (z:Gp),S.gs[k]?=zo z->z.there=zq->z.hi≠I:=fun k z B J e=>by have:=(D.gk k z B J).2;rw[e,O]at this;cases this
 have he:=(D.gk u y hy L).2;have h8:∀p,p<S.ps->∃N:Gr,(S.hs p).gs y.hi=zo N/\(S.hs p).gs I=zp/\N.deep<8/\N.deep=dep S.tree.l y.hi:=fun p E=>by
  have V:=D.hk p E y.hi;rw[he]at V;obtain⟨N,c⟩:=Option.isSome_iff_exists.1 V;have U:=D.hk p E I;rw[O]at U;have hj:(S.hs p).gs I=zp:=by
   cases hh:(S.hs p).gs I with
   | none=>rfl
   | some z=>rw[hh]at U;cases U
  have hd:N.deep=dep S.tree.l y.hi:=by
   by_cases C:y.hi=0
   .obtain⟨r,j,_,hl⟩:=(hq p E).root;rw[C]at c ⊢;rw[c]at j;obtain rfl:=zx j;rw[hl,(D.tr.bZ D.tr.gF).2.2 rfl];rfl
   .exact(D.hu p E _ N c C).2
  have:=G.dp;exact⟨N,c,hj,by omega,hd⟩
 rw[h5];have hL:∀p,p<S.ps->((S.hs p).link I y.hi).Ok/\(∀k i,((S.hs p).link I y.hi).even k i↔(S.hs p).even k i)/\∃N:Gr,N.deep=dep S.tree.l y.hi/\(S.hs p).link I y.hi=(S.hs p).set I (Jj I y.hi N.deep):=fun p E=>by obtain⟨N,V,U,P,h4⟩:=h8 p E;obtain⟨k1,k2,k3⟩:=JB (hq p E) f W U V P;exact⟨k1,k2,N,h4,k3⟩
 refine⟨⟨Z.RY,D.ps,D.tick,D.credit,D.lat,h7,Q,Z.dA,Z.tl,?_,?_,?_,?_,?_,?_,?_,D.dead,?_,?_,?_,?_,?_,Z.ck,Z.bk⟩,?_⟩
 .show 1<=(S.gs++ [g']).length/\(S.gs++ [g']).length<=b+1+1;have:=D.gl;simp;omega
 .obtain⟨x,hx,j⟩:=D.g0;exact⟨x,M 0 x hx,j⟩
 .intro k z B J;rcases Y k z B with⟨rfl,rfl⟩|B
  .exact⟨⟨q,by rw[R];exact s,hv,by rw[R];exact ha⟩,by rw[R];exact yR _ _ _⟩
  .obtain⟨⟨q1,V,U,P⟩,h4⟩:=D.gk k z B J;have F:=K k z B J;exact⟨⟨q1,(X _ F).trans V,U,P⟩,(yQ _ _ F).trans h4⟩
 .intro i m hm;have d:OV S.pl I (zo S.gs.length) i=zo m:=hm;by_cases e:i=I
  .subst e;rw[yR]at d;obtain rfl:=zx d;exact⟨g',by show(S.gs++ [g'])[S.gs.length]?=_;simp,by rw[R],by rw[R]⟩
  .rw[yQ _ _ e]at d;obtain⟨z,B,V,U⟩:=D.pl i m d;exact⟨z,M m z B,V,U⟩
 .intro i q1 V U;show ∃m,OV S.pl I (zo S.gs.length) i=zo m;by_cases e:i=I
  .subst e;exact⟨_,yR _ _ _⟩
  .rw[yQ _ _ e];exact D.gu i q1 ((X i e).symm.trans V) U
 .intro k z B J C;rcases Y k z B with⟨rfl,rfl⟩|B
  .rw[R];exact⟨hn,⟨_,rfl,by simp,vB.new _ _⟩,⟨fun p E=>(by cases E),List.nodup_nil⟩⟩
  .obtain⟨V,U,P⟩:=Z.gx k z B J C;exact⟨V,U,P⟩
 .intro k t v hd;have h:=D.tk k t v hd;obtain⟨z,B,J⟩:=h.OG;exact⟨⟨z,M _ z B,J⟩,h.pool,h.hi,h.at_,h.TC,h.wt,h.mask,h.e,h.nice,h.min⟩
 .intro p E i;have A:p<S.ps:=E;obtain⟨_,_,N,_,H⟩:=hL p A;show((if p<S.ps then(S.hs p).link I y.hi else S.hs p).gs i).isSome=(OV S.pl I (zo S.gs.length) i).isSome;rw[if_pos A,H];by_cases e:i=I
  .subst e;rw[yO,yR];rfl
  .rw[yJ _ _ e,yQ _ _ e];exact D.hk p A i
 .intro p E i x hx C;have A:p<S.ps:=E;obtain⟨_,_,N,h9,H⟩:=hL p A;have a:(if p<S.ps then(S.hs p).link I y.hi else S.hs p).gs i=zo x:=hx;rw[if_pos A,H]at a;by_cases e:i=I
  .subst e;rw[yO]at a;obtain rfl:=zx a;show(y.hi:Int)=TA T.l i/\N.deep+1=dep T.l i;have hg:=xD s;unfold TA dep;rw[hg,H0];simp only;omega
  .rw[yJ _ _ e]at a;obtain⟨V,U⟩:=D.hu p A i x a C;obtain⟨e1,e2⟩:=FP (X i e);exact⟨by rw[e1];exact V,by rw[e2];exact U⟩
 .intro p E;have A:p<S.ps:=E;obtain⟨_,_,N,h9,H⟩:=hL p A;show(if p<S.ps then(S.hs p).link I y.hi else S.hs p).credit=S.credit;rw[if_pos A,H];exact D.hc p A
 .intro p E;have A:p<S.ps:=E;show(if p<S.ps then(S.hs p).link I y.hi else S.hs p).PD;rw[if_pos A];exact VD (D.hf p A) _ _
 .intro p E i k;have A:p<S.ps:=E;obtain⟨_,hw,_⟩:=hL p A;show(if p<S.ps then(S.hs p).link I y.hi else S.hs p).even i k↔∃(n:Nat) (t:Tk) (g:Gp),S.ts[n]?=zo t/\t.on=zq/\t.p=p/\(S.gs++ [g'])[t.OG]?=zo g/\g.hi=i/\t.hi=k;rw[if_pos A,hw,D.ev p A i k];constructor
  .rintro⟨m,t,z,v,ho,o,B,j⟩;exact⟨m,t,z,v,ho,o,M _ z B,j⟩
  .rintro⟨m,t,z,v,ho,o,B,j⟩;obtain⟨z',h6,_⟩:=(D.on v ho).OG;have:=M _ z' h6;rw[B]at this;obtain rfl:=zx this;exact⟨m,t,z,v,ho,o,h6,j⟩
 .intro p E;have A:p<S.ps:=E;show(if p<S.ps then(S.hs p).link I y.hi else S.hs p).Ok;rw[if_pos A];exact(hL p A).1
theorem FQ(h:S.Fit b)(hb:b<900)(e:Ev):(S.grow e).1.Fit (b+1):=by
 unfold Sc.grow;cases hg:S.grp? e.a with
 | none=>exact h.more hb
 | some u=>
  obtain⟨ha,y,H,B,D⟩:=xm hg;simp only;split
  .exact h.more hb
  .rename_i E;rw[D];split
   .exact h.more hb
   .rename_i G;have A:2<=e.n/\e.n<=262144:=by unfold vm at E;simpa using E
    exact h.1.bT hb h.2 H B (Decidable.not_not.1 G) A
def Sc.eN(S:Sc)(o:Out):Prop:=(∃f:Int,f≠0/\o=(S,0,f))∨∃(n:Nat) (t:Tk) (p:Nat),S.ts[n]?=zo t/\t.on=zq/\p<S.ps/\o=((S.leave n).put n p zt,(n:Int),0)
theorem FR(h:S.Fit b){o:Out}(E:S.eN o):o.1.Fit b:=by
 rcases E with⟨f,_,rfl⟩|⟨n,t,p,B,A,D,rfl⟩
 .exact h
 .obtain⟨t1,H,G,I,_⟩:=qR B;exact Bp (Ql h B A) H (I.trans (h.1.dead n t B A)) G D zt
def Sc.cL(S:Sc)(Ee Ef:Sc->Ev->Out->Prop)(e:Ev)(o:Out):Prop:=
 (e.kind=1/\o=S.grow e)∨(e.kind=2/\Ee S e o)∨(e.kind=3/\Ef S e o)∨(e.kind=4/\o=S.RX e)∨(e.kind=5/\o=S.TQ e)∨(e.kind=6/\o=S.spawn e)∨(e.kind=7/\o=S.AL e)∨
 (e.kind=8/\o=S.block e)∨(e.kind=9/\o=S.TH e)∨(e.kind=10/\o=S.exit e)∨(e.kind=11/\o=S.PP e)∨(e.kind=12/\o=S.PM e)∨(e.kind=13/\S.eN o)∨(e.kind=14/\o=S.TR e)∨(e.kind=15/\o=S.TJ e)
def Sc.gB(S:Sc)(Ee Ef:Sc->Ev->Out->Prop)(e:Ev)(A:Sc)(n f:Int):Prop:=
 (¬(1<=e.kind/\e.kind<=15)/\A=S/\n=0/\f=1)∨∃o,S.cL Ee Ef e o/\((o.2.2=0/\A=o.1.settle/\n=o.2.1/\f=0)∨(o.2.2≠0/\A=o.1/\n=0/\f=o.2.2))
def Ev.Ok(e:Ev):Prop:=0<=e.mask/\e.mask<=18446744073709551615
theorem Cf(G:∀e o,D S e o->o.1.Fit (b+1))(E:∀e o,M S e o->o.1.Fit (b+1))(h:S.Fit b)(hb:b<900)(B:e.Ok){o:Out}(A:S.cL D M e o):o.1.Fit (b+1):=by
 rcases A with⟨_,rfl⟩|⟨_,A⟩|⟨_,A⟩|⟨_,rfl⟩|⟨_,rfl⟩|⟨_,rfl⟩|⟨_,rfl⟩|⟨_,rfl⟩|⟨_,rfl⟩|⟨_,rfl⟩|⟨_,rfl⟩|⟨_,rfl⟩|⟨_,A⟩|⟨_,rfl⟩|⟨_,rfl⟩
 .exact FQ h hb e
 .exact G e o A
 .exact E e o A
 .exact(Ae h e).more hb
 .exact(VN h e).more hb
 .exact VO h hb e B
 .exact(FN h e).more hb
 .exact(VK h e).more hb
 .exact(KZ h e).more hb
 .exact FM h hb e
 .exact VP h hb e
 .exact(XA h e).more hb
 .exact(FR h A).more hb
 .exact(VL h e).more hb
 .exact(VM h e B).more hb
theorem NG(H:∀e o,D S e o->o.1.Fit (b+1))(G:∀e o,M S e o->o.1.Fit (b+1))(h:S.Fit b)(hb:b<900)(E:e.Ok){B:Sc}{n f:Int}(A:S.gB D M e B n f):B.Fit (b+1):=by
 rcases A with⟨_,rfl,_⟩|⟨o,A,⟨_,rfl,_⟩|⟨_,rfl,_⟩⟩
 .exact h.more hb
 .exact(Yn (Cf H G h hb E A)).1
 .exact Cf H G h hb E A
theorem Cg(h:yK w F s S L)(M:S.Ok b)(B:(S.OI a).2=0):∃(p n:Nat) (t:Tk),a=p/\p<S.ps/\S.OI a=((n:Int),0)/\S.running p=(n:Nat)/\S.ts[n]?=zo t/\t.on=zq/\t.p=p/\(S.hs p).running≠ -1:=by
 unfold Sc.OI at B ⊢;by_cases D:S.TN a
 .rw[if_neg (by simpa using D)]at B ⊢;obtain⟨p,rfl⟩:∃p:Nat,a=p:=⟨a.toNat,by have:=D.1;omega⟩
  have A:p<S.ps:=by have:=D.2;omega
  rw[zI]at B ⊢;by_cases E:S.running p= -1
  .rw[if_pos E]at B;cases B
  .rw[if_neg E];obtain⟨G,N,_⟩:=h.SX A;obtain⟨n,t,H,J,O,R,I⟩:=M.runs A N.2 E;exact⟨p,n,t,rfl,A,by rw[H],H,J,O,R,I⟩
 .rw[if_pos (by simpa using D)]at B;cases B
theorem Ch(A:(S.OI a).2≠0):S.OI a=(0,(S.OI a).2):=by
 unfold Sc.OI at A ⊢;split
 .rfl
 .rename_i B;rw[if_neg B]at A;split
  .rfl
  .rename_i D;rw[if_neg D]at A;exact absurd rfl A
theorem Cz(e:Ev)(b:Nat)(w:zu)(F:Nat->Prop)(s:Nat)(S:Sc)(L:Lay)(h:yK w F s S L)(J:S.Ok b):
 zw prog 49 #[ptr s,zg (OX e)] w (TM w F s L (S.block e)):=by
 obtain⟨w1,E⟩:=yB (w.alloc (zn (OX e) 35))
 have H:Below w.heap.size w w1:=by rw[E];exact yE w _
 have U:=h.behind H;have T:Hid (yG w F s S L w1):=yw ((yG.refl h).below H);have M:=yw (Bs e w1 F s S L U);have Z:=yw U;unfold TM;by_cases O:(S.OI e.a).2=0
 .obtain⟨p,n,t,Q,K,B,X,l,u,k,Y⟩:=Cg h J O;have D:S.block e=(S.leave n,(n:Int),0):=by unfold Sc.block;rw[B];simp
  rw[D];rw[B]at M;have P:=yw (fun V m (y:yK V m s S L)=>Jx n t b V m s S L y J l u);have N:=(yy l).1;have h0:(n:Int) <(S.ts.length:Int):=by omega
  have d:=yw N;have h3:S.ts.length<=1000:=by have:=J.tl;have:=J.RY;omega
  clear h J U H O Q K B X l u k Y D N;go_enter func49,ntmps49;go_wp2_with fail;rw[show w.alloc (zn (OX e) 35)=w1 from E.symm];clear E;refine M.out.mono ?_;rintro z V ⟨rfl,A⟩;have c:=yw (Z.out.behind A);have G:=yw (T.out.below A);obtain⟨-,o,I⟩:=c.out.RN;obtain⟨r,h4,x,C,j⟩:=I n d.out;rw[x]at o;clear A I x;go_wp2_with fail;refine(P.out _ _ G.out.1).mono ?_;rintro z w3 ⟨⟨v,rfl⟩,R⟩;have g:=yw (G.out.then R);clear R o C j;go_wp2;go_ret2;exact⟨rfl,g.out⟩
 .have B:=Ch O;have D:S.block e=(S,0,(S.OI e.a).2):=by unfold Sc.block;rw[if_neg O]
  rw[D];rw[B]at M;obtain⟨f,q⟩:=yB ((S.OI e.a).2)
  rw[<-q]at M O ⊢;clear h J U H B D q;go_enter func49,ntmps49;go_wp2_with fail;rw[show w.alloc (zn (OX e) 35)=w1 from E.symm];clear E;refine M.out.mono ?_;rintro z V ⟨rfl,A⟩;have G:=yw (T.out.below A);clear A;go_wp2;go_ret2;exact⟨rfl,G.out⟩
theorem yK.ats(h:yK w F s S L){i:Nat}(A:i<64):w.cell? ⟨s,41+i,zp⟩=zo (zd zj (S.at_ i)):=by obtain⟨tg,h⟩:=h;exact h.sx.at_ i A
theorem yG.grow{w':zu}{G:Nat->Prop}(a:yG w F s S L w')(A:∀k,F k->G k):yG w G s S L w':=
 ⟨a.1.mono fun k _ B=>B.imp (A k) id,a.2.mono A⟩
theorem Ag(e:Ev)(b:Nat)(w:zu)(F:Nat->Prop)(s:Nat)(S:Sc)(L:Lay)(h:yK w F s S L)(q:S.Ok b):
 zw prog 51 #[ptr s,zg (OX e)] w (TM w F s L (S.TH e)):=by
 obtain⟨w1,A⟩:=yB (w.alloc (zn (OX e) 35))
 have J:Below w.heap.size w w1:=by rw[A];exact yE w _
 have h1:=h.behind J;have K:Hid (yG w F s S L w1):=yw ((yG.refl h).below J);have l:=yw (Bs e w1 F s S L h1);have y:RG w1 w.heap.size e:=by rw[A];exact RG.new w e
 have P:=yw y;obtain⟨D,V⟩:=yB w.heap.size
 rw[<-V]at P;unfold TM;by_cases T:(S.OI e.a).2=0
 .obtain⟨p,n,t,ha,R,H,x,hn,ho,W,U⟩:=Cg h q T;obtain⟨G0,d,_⟩:=h.SX R;obtain⟨g,i,C,hi,h2⟩:=KT d.2 (q.hf p R) U;have I:S.TH e=(S.OM p (S.hs p).yield.1,(S.at_ i:Int),0):=by unfold Sc.TH;rw[if_pos T,ha,zI,C,zI]
  rw[I];rw[H]at l;obtain⟨HY,HO,j,h3,HA⟩:=Qg C (show yK w (fun k=>F k/\k<w.heap.size) s S L from h.mono fun k hk v=>⟨v,hk⟩) J V ha;have h7:(p:Int) <(S.ps:Int):=by omega
  have h6:(i:Int) <64:=by omega
  obtain⟨r,h4,hv⟩:=h.eD R;have HV:=yw hv;clear h q h1 J T ha H x hn ho W U I C h2 d y hv;go_enter func51,ntmps51;go_wp2_with fail;rw[show w.alloc (zn (OX e) 35)=w1 from A.symm,<-V];clear A V;refine l.out.mono ?_;rintro z o ⟨rfl,B⟩;have m:=yw (yC j.out B j.out.size);have N:=yw (HO.out.behind m.out);have O:=yw (P.out.behind B);clear B;obtain⟨M,rp,Y⟩:=N.out.SK (p:=p) R HV.out;obtain⟨-,u,-⟩:=O.out.c6;rw[HA.out]at u;have c:=N.out.ats hi;obtain⟨G,hH,hU⟩:=N.out.SX (p:=p) R;have HU:=yw hU;have HP:=yw (Gu o.drew G (L.hb p) (S.hs p) (hH.kept fun k _ _=>rfl))
  rw[HY.out]at HP;clear hU hH;go_wp2_with fail;go_region_held3 (fun w'=>w'.cell? ⟨s,105,zp⟩=zo (zf (zo ⟨r,0,zp⟩) S.ps h4)/\w'.cell? ⟨r,p,zp⟩=zo (ptr (L.hb p))/\w'.cell? ⟨D,1,zp⟩=zo (zd zj p)/\w'.cell? ⟨s,41+i,zp⟩=zo (zd zj (S.at_ i))) (go_keep)
   (first
    | (
     go_at_call 95;refine HP.out.mono ?_;rintro z w3 ⟨rfl,Z⟩;have E:=HU.out _ _ (qv.NZ (F:=G) (⟨rfl,rfl,rfl,yA _,fun _ _=>rfl⟩:Below o.heap.size o o.drew) Z);have h0:=yw E;have X:RG w3 D e:=(E.2.block D O.out.lt (fun hk=>by have:=hk.2;rw[<-h3.out]at this;omega)).trans O.out;clear Z M rp Y u c;obtain⟨M,rp,Y⟩:=E.1.SK (p:=p) R HV.out;obtain⟨-,u,-⟩:=X.c6;rw[HA.out]at u;have c:w3.cell? ⟨s,41+i,zp⟩=zo (zd zj (S.at_ i)):=E.1.ats hi;clear E X))
  all_goals
   have h5:=yw (yG.NZ m.out (h0.out.grow (G:=F) fun k hk=>hk.1));go_wp2;go_ret2;exact⟨rfl,h5.out⟩
 .have H:=Ch T;have I:S.TH e=(S,0,(S.OI e.a).2):=by unfold Sc.TH;rw[if_neg T]
  rw[I];rw[H]at l;obtain⟨f,v⟩:=yB ((S.OI e.a).2)
  rw[<-v]at l T ⊢;clear h q h1 J H I v y V P;go_enter func51,ntmps51;go_wp2_with fail;rw[show w.alloc (zn (OX e) 35)=w1 from A.symm];clear A;refine l.out.mono ?_;rintro z o ⟨rfl,B⟩;have Q:=yw (K.out.below B);clear B;go_wp2;go_ret2;exact⟨rfl,Q.out⟩
