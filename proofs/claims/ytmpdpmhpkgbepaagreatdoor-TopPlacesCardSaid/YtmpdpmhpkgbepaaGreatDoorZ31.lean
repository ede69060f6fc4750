/- Parts for TopPlaces. Conditions: as stated. -/
import Derived.Test.YtmpdpmhpkgbepaaGreatDoorZ30
set_option linter.unusedVariables false
set_option maxRecDepth 100000
set_option maxHeartbeats 4000000
open Go.Value renaming int->zd,pointer->ze,slice->zf,agg->zg,bool->zh,ownBlock->zX
open Go.IntKind renaming i64->zj,u64->zk,signed->yq
open Go.Ending renaming returned->zm
open Go.Obj renaming cells->zn
open Option renaming some->zo,none->zp
open Bool renaming true->zq,false->zt
open Go renaming World->zu,Calls->zw,Value->zz
open Option.some renaming inj->zx,injEq->ya
open List renaming getElem?_eq_getElem->zy,length_append->zE,getElem?_append_left->zF,getD_eq_getElem?_getD->zH,getElem?_append_right->zV,mem_of_getElem?->zW,replicate->ye,mem_map->yh,range->yi
open Go.World renaming cell?_setCell_other->zB,cell?->zN,frozen?->zY,ownsRow_nil->ym
open Int renaming toNat_natCast->zI
open And renaming intro->zQ
open Go.RowKit.Below renaming refl->zU
open Go.Obj.cells renaming injEq->yo
open Go.Proofs.Tryz
namespace Go.Proofs.YtmpdpmhpkgbepaaGreatDoor
open Go Go.RowKit Go.ChangeShapes Go.WideShapes
variable {S:Sc}{n b g p s B m:Nat}{x:Gp}{w:zu}{F:Nat->Prop}{L:Lay}{t:Tk}{tg:Nat->Nat}
attribute [local go_sem ↓] Go.wp_at_zero Go.wp_at_succ
theorem VQ{a:Int}(h:S.tsk? a=zo n):a=n/\∃t,S.ts[n]?=zo t/\t.dead=zt/\S.t n=t:=by
 unfold Sc.tsk? at h;split at h
 .rename_i B;obtain rfl:=zx h;obtain⟨t,A⟩:∃t,S.ts[a.toNat]?=zo t:=⟨_,zy (by omega)⟩
  refine⟨by omega,t,A,?_,Sc.RV A⟩;have:=B.2.2;rw[Sc.RV A]at this;exact this
 .cases h
theorem Of{n:Int}(h1: -128<=n)(h2:n<=127):IntKind.i8.wrap n=n:=by simp only[IntKind.wrap,yq,IntKind.bits];simp;omega
theorem FU(n:Int): -128<=IntKind.i8.wrap n/\IntKind.i8.wrap n<=127:=by simp only[IntKind.wrap,yq,IntKind.bits];simp;omega
theorem Xt{n:Int}(h1: -128<=n)(h2:n<=127):IntKind.i64.wrap n=n:=by simp only[IntKind.wrap,yq,IntKind.bits];simp;omega
theorem XB(e:Ev)(b:Nat)(w:zu)(F:Nat->Prop)(s:Nat)(S:Sc)(L:Lay)(h:yK w F s S L)(f:S.Ok b):
 zw prog 47 #[ptr s,zg (OX e)] w (TM w F s L (S.TR e)):=by
 obtain⟨w1,A⟩:=yB (w.alloc (zn (OX e) 35))
 have Y:Below w.heap.size w w1:=by rw[A];exact yE w _
 have h1:=h.behind Y;have hE:RG w1 w.heap.size e:=by rw[A];exact RG.new w e
 have ha:Hid (yG w F s S L w1):=yw ((yG.refl h).below Y);have hj:=yw (show yK w1 (fun k=>F k/\k<w.heap.size) s S L from(h.mono fun k hk hf=>⟨hf,hk⟩:yK w (fun k=>F k/\k<w.heap.size) s S L).behind Y);have P:=yw Y;have HG:=yw (Kc e.a w1 F s S L h1 (by have:=f.tl;have:=f.RY;omega));obtain⟨D,N⟩:=yB w.heap.size
 have H4:=yw N;rw[<-N]at hE;have HE:=yw hE;obtain⟨-,e1,-,e3,-,-⟩:=hE.c6;clear h h1 Y hE;obtain⟨O,U⟩:=yB (S.TR e)
 rw[<-U];unfold TM;cases hg:S.tsk? e.a with
 | none=>
  have d:O=(S,0,2):=by rw[U];unfold Sc.TR;rw[hg]
  subst d;rw[hg]at HG;clear U hg f;go_enter func47,ntmps47;go_wp2_with fail;rw[show w.alloc (zn (OX e) 35)=w1 from A.symm,<-N];clear A N;refine HG.out.mono ?_;rintro z w2 ⟨rfl,hw⟩;obtain rfl:=hw.symm;go_wp2;go_ret2;exact⟨rfl,ha.out⟩
 | some n=>
  obtain⟨-,t,hn,hd,J⟩:=VQ hg;rw[hg,show Yg L.tb (zo n)=ptr (L.tb n)from rfl]at HG;have hT:=f.tk n t hn hd;have c:=yw hn;by_cases h8: -128<=e.n/\e.n<=127
  .have w8:=Of h8.1 h8.2;have hy:=Xt h8.1 h8.2;by_cases M: -20<=e.n/\e.n<=19
   .have l:uL e.n=zq:=by unfold uL;exact decide_eq_true M
    have hw:=Bg M.1 M.2;have HW:=yw (Du e.n w1 M.1 M.2);obtain⟨W,hW⟩:=yB (vd e.n)
    rw[<-hW]at HW hw;cases hon:t.on with
    | true=>
     obtain⟨g,K,H2⟩:=hT.OG;obtain⟨x,en,hx,hr,_⟩:=f.stands hn hon K;have Q:=hT.TC;have H0:=hT.hi;have d:O=(((S.OM t.p ((S.hs t.p).nice g.hi t.hi W)).OY n { t with nice:=e.n,w:=W }),0,0):=by rw[U];unfold Sc.TR;simp only[hg,J,l,hon];rw[Sc.PE K,hW];rfl
     subst d;obtain⟨HX,hz,hl,h5⟩:=Qf hx hr K hon;clear U hg f hd J l hW hT H2 hn K hx hr hon;go_enter func47,ntmps47;go_wp2_with fail;rw[show w.alloc (zn (OX e) 35)=w1 from A.symm,<-N];clear A N;refine HG.out.mono ?_;rintro z w2 ⟨rfl,I⟩;obtain rfl:=I.symm;go_wp2_with fail;refine HW.out.mono ?_;rintro z Z ⟨rfl,B⟩;obtain⟨y,E,X⟩:=Qe (yC P.out B P.out.size) (hj.out.behind B) (HE.out.behind B);clear B e1 e3;obtain⟨t0,t1,t2,t3,t4,t5,t6,t7,t8,t9,m,h7,C,h6⟩:=(E.out.tk c.out).TY;rw[h5.out]at t3;obtain⟨r,H5,hv⟩:=E.out.eD Q
     have HV:=yw hv;obtain⟨V,rp,h9⟩:=E.out.SK Q hv;obtain⟨-,g1,-⟩:=(E.out.gp hl.out).c7;obtain⟨G,hH,hU⟩:=E.out.SX Q;have HU:=yw hU;have HP:=yw (WZ g.hi t.hi W en Z.drew G (L.hb t.p) (S.hs t.p) x (hH.kept fun k _ _=>rfl) HX.out H0 hz.out hw.1 hw.2);have H7:(t.p:Int) <(S.ps:Int):=by omega
     clear t1 t2 t6 t7 t8 t9 m h7 C h6 hv hU hH;go_wp2_with fail;go_region_held3 (fun w'=>w'.cell? ⟨s,105,zp⟩=zo (zf (zo ⟨r,0,zp⟩) S.ps H5)/\w'.cell? ⟨r,t.p,zp⟩=zo (ptr (L.hb t.p))/\w'.cell? ⟨L.tb n,0,zp⟩=zo (zd zj t.hi)/\w'.cell? ⟨L.tb n,4,zp⟩=zo (zd zj t.p)/\w'.cell? ⟨L.tb n,5,zp⟩=zo (ptr (L.gb t.OG))/\w'.cell? ⟨L.gb t.OG,1,zp⟩=zo (zd zj g.hi)) (go_keep)
      (first
       | (
        go_at_call 90;refine HP.out.mono ?_;rintro z w4 ⟨rfl,hm⟩;have T:=HU.out _ _ (qv.NZ (F:=G) (⟨rfl,rfl,rfl,yA _,fun _ _=>rfl⟩:Below Z.heap.size Z Z.drew) hm);have j:=yw T;clear hm t0 t3 t4 t5 V rp h9 g1;obtain⟨V,rp,h9⟩:=T.1.SK (p:=t.p) Q HV.out;obtain⟨t0,-,-,-,t4,t5,-⟩:=(T.1.tk (n:=n) (t:=t) c.out).TY;obtain⟨-,g1,-⟩:=(T.1.gp (n:=t.OG) (g:=g) hl.out).c7;clear T))
     all_goals
      clear V rp h9 t0 t4 t5 g1;have hq:RG w4 D e:=(j.out.2.block D X.out.lt (fun hk=>by have:=hk.2;rw[<-H4.out]at this;omega)).trans X.out;obtain⟨-,-,-,e3,-,-⟩:=hq.c6;have H:=j.out.1.tk (n:=n) (t:=t) c.out;obtain⟨-,-,-,-,-,-,t6,t7,-⟩:=H.TY;have h4:=H.OH;have y1:RR (w4.setCell ⟨L.tb n,6,zp⟩ (zd zj e.n)) (L.tb n) L.gb { t with nice:=e.n }:=yD H;have y2:RR ((w4.setCell ⟨L.tb n,6,zp⟩ (zd zj e.n)).setCell ⟨L.tb n,7,zp⟩ (zd zk W)) (L.tb n) L.gb { t with nice:=e.n,w:=W }:=yD y1
      have he:=yw (yG.NZ y.out ((j.out.then (j.out.1.AU (n:=n) (t:=t) c.out (OA.refl (fun k=>k=L.tb n) w4).one.one y2)).grow (G:=F) fun k hk=>hk.1));clear hq H y1 y2;go_wp2;go_ret2;exact⟨rfl,he.out⟩
    | false=>
     have d:O=(S.OY n { t with nice:=e.n,w:=W,e:={ t.e with rem:=t.e.rem*W/t.e.w,w:=W } },0,0):=by rw[U];unfold Sc.TR;simp only[hg,J,l,hon];rw[hW];rfl
     subst d;have hc:=hT.e.1;have h0:=hc.rem;have h3:=hc.w;have h5:=yw hon;clear U hg f hd J l hW hT hn hc hon;go_enter func47,ntmps47;go_wp2_with fail;rw[show w.alloc (zn (OX e) 35)=w1 from A.symm,<-N];clear A N;refine HG.out.mono ?_;rintro z w2 ⟨rfl,I⟩;obtain rfl:=I.symm;go_wp2_with fail;refine HW.out.mono ?_;rintro z Z ⟨rfl,B⟩;obtain⟨y,E,X⟩:=Qe (yC P.out B P.out.size) (hj.out.behind B) (HE.out.behind B);clear B e1 e3;obtain⟨t0,t1,t2,t3,t4,t5,t6,t7,t8,t9,m,h7,C,h6⟩:=(E.out.tk c.out).TY;have h4:=(E.out.tk c.out).OH;rw[h5.out]at t3;obtain⟨-,-,-,e3,-,-⟩:=X.out.c6
     clear t0 t1 t2 t4 t5 t6 t7 t8 t9 h7 h6;go_wp2_with fail;go_region_with
      (
       go_at_call 91;refine(Fx h0.1 h0.2 hw.1 hw.2 h3.1 h3.2 Z.drew).mono ?_;rintro z w4 ⟨rfl,ht⟩;have q:Below Z.heap.size Z w4:=yC (yI (zU _ Z)) ht (yA _);obtain⟨H3,v,hp⟩:=Qe (yC y.out q y.out.size) (E.out.behind q) (X.out.behind q);clear ht q t3 m C h4 e3;obtain⟨-,-,-,-,-,-,t6,t7,-,-,m,-,C,-⟩:=(v.out.tk c.out).TY;have h4:=(v.out.tk c.out).OH;obtain⟨-,-,-,e3,-,-⟩:=hp.out.c6)
     all_goals
      obtain⟨R,hR⟩:=yB (t.e.rem*W/t.e.w)
      rw[<-hR];have H:=v.out.tk c.out;have hu:D≠L.tb n:=by intro e;have:=H;have h2:=hp.out;unfold RR at this;unfold RG at h2;rw[e,this]at h2;simp only[ya,yo]at h2;exact absurd h2.2.1 (by decide)
      have y1:RR (w4.setCell ⟨L.tb n,12,zp⟩ (zd zk R)) (L.tb n) L.gb { t with e:={ t.e with rem:=R } }:=yD H;have y2:RR (_) (L.tb n) L.gb { t with e:={ t.e with rem:=R,w:=W } }:=yD (u:=zd zk W) (i:=10) y1;have y3:RR (_) (L.tb n) L.gb { t with nice:=e.n,e:={ t.e with rem:=R,w:=W } }:=yD (u:=zd zj e.n) (i:=6) y2;have y4:RR (_) (L.tb n) L.gb { t with nice:=e.n,w:=W,e:={ t.e with rem:=R,w:=W } }:=yD (u:=zd zk W) (i:=7) y3
      have he:=yw (yG.NZ H3.out ((v.out.AU c.out ((((OA.refl (fun k=>k=L.tb n) w4).one (o:=12) (u:=zd zk R)).one (o:=10) (u:=zd zk W)).one (o:=6) (u:=zd zj e.n)).one y4).grow (G:=F) fun k hk=>hk.1));have H6:=yw hR;clear H y1 y2 y3 y4 hR;go_wp2;go_ret2;exact⟨rfl,by rw[<-H6.out];exact he.out⟩
   .have d:O=(S,0,1):=by rw[U];unfold Sc.TR;simp only[hg];rw[if_pos (by unfold uL;exact decide_eq_false M)]
    subst d;have HW:=yw (Gq e.n w1 (by omega));clear U hg f hd J hT hn;go_enter func47,ntmps47;go_wp2_with fail;rw[show w.alloc (zn (OX e) 35)=w1 from A.symm,<-N];clear A N;refine HG.out.mono ?_;rintro z w2 ⟨rfl,I⟩;obtain rfl:=I.symm;go_wp2_with fail;refine HW.out.mono ?_;rintro z Z ⟨rfl,H1⟩;obtain rfl:=H1.symm;go_wp2;go_ret2;exact⟨rfl,ha.out⟩
  .have d:O=(S,0,1):=by rw[U];unfold Sc.TR;simp only[hg];rw[if_pos (by unfold uL;exact decide_eq_false (by omega))]
   subst d;have hh:=FU e.n;have hy:=Xt hh.1 hh.2;have hu:(e.n != IntKind.i8.wrap e.n)=zq:=by simp;omega
   clear U hg f hd J hT hn;go_enter func47,ntmps47;go_wp2_with fail;rw[show w.alloc (zn (OX e) 35)=w1 from A.symm,<-N];clear A N;refine HG.out.mono ?_;rintro z w2 ⟨rfl,I⟩;obtain rfl:=I.symm;go_wp2;go_ret2;exact⟨rfl,ha.out⟩
theorem Sc.Ok.gr(A:S.Ok b)(E:S.gs[g]?=zo x)(D:x.there=zq)(B:p<S.ps):∃y,(S.hs p).gs x.hi=zo y:=by have h:=A.hk p B x.hi;rw[(A.gk g x E D).2]at h;exact Option.isSome_iff_exists.1 h
theorem Sc.Ok.iR(D:S.Ok b)(H:S.gs[g]?=zo x)(I:x.there=zq)(J:g≠0):x.hi≠0:=by intro e;have G:=(D.gk g x H I).2;obtain⟨z,M,A,_,B,_⟩:=D.g0;have E:=(D.gk 0 z M B).2;rw[A]at E;rw[e,E]at G;exact J (zx G).symm
theorem Ah(S:Sc)(g:Nat)(A:List Int)(k:Nat):S.RE g A (k+1)=if 0<A.getD k 0 then(S.RE g A k).OM k (((S.RE g A k).hs k).OT (S.g g).hi (qS (S.g g).shares (A.getD k 0) A.sum))else S.RE g A k:=rfl
theorem Ai(S:Sc)(g:Nat)(k:Nat):uv ((yi (k+1)).map (S.load g))=uv ((yi k).map (S.load g))++ [zd zk (S.load g k)]:=Hl _ _
theorem XC(f:Nat->Int)(n k:Nat)(h:k<n):((yi n).map f).getD k 0=f k:=by rw[zH,List.getElem?_map,List.getElem?_range h];rfl
theorem Aj(g:Nat)(x:Gp)(b:Nat)(w:zu)(F:Nat->Prop)(s:Nat)(S:Sc)(L:Lay)(h:yK w F s S L)(ok:S.Fit b)(hg:S.gs[g]?=zo x)(ht:x.there=zq)(h0:g≠0):
 zw prog 54 #[ptr s,ptr (L.gb g)] w fun z w'=>(∃v,z=zm v)/\yG w F s (S.OT g) L w':=by
 obtain⟨i0,hi,k7,ki,kd⟩:=info_parts Hd;obtain⟨K,o⟩:∃K:Nat->Prop,K=fun k=>F k/\k<w.heap.size:=⟨_,rfl⟩
 have h6:=yw o;have hh:yK w K s S L:=by rw[o];exact h.mono fun k hk hf=>⟨hf,hk⟩
 obtain⟨HH,h3,HX,hz⟩:=Qf hh ok hg ht;obtain⟨s0,P⟩:=h.RZ;have kc:=ok.1.ps.2;have kn:=(ok.1.gx g x hg ht h0).shares;have h7:Hid (Ws ((yi S.ps).map (S.load g))):=yw (fun y U=>by obtain⟨p,_,rfl⟩:=yh.1 U;exact ok.1.load g p);have k2:=ok.1.iR hg ht h0;obtain⟨n,hN⟩:=yB S.ps
 have HN:=yw hN;have hx:S.OT g=S.RE g ((yi S.ps).map (S.load g)) S.ps:=rfl;rw[hx];rw[<-hN]at s0 kc h7 ⊢;obtain⟨A,E⟩:=yB ((yi n).map (S.load g))
 have m:=yw E;rw[<-E]at h7 ⊢;clear h ok hN hg ht hh o hx E;go_enter func54,ntmps54;go_wp2_with fail;clear s0 P;go_loopw [4,5,13] (fun v _ i wr=>∃(k:Nat) (ar:Option Addr) (cr:Nat),k<=n/\i=zd zj k/\v=zf ar k cr/\wr.ownsRow w.heap.size 33 1 (zf ar k cr) k (uv ((yi k).map (S.load g)))/\Below w.heap.size w wr) (fun _ _ i _=>n-(intOf i).toNat)
 case atStart=>exact⟨0,zp,0,by omega,rfl,rfl,by simpa[uv]using ym _ _ _ _,zU _ _⟩
 case round=>
  obtain⟨k,ar,cr,hk,rfl,rfl,l,hb⟩:=hrel;obtain⟨HO,HB,HS⟩:=Qe l hb (HH.out.behind hb);clear l hb;by_cases kp:k<n
  .have HC:=yw (Yh g k x b wr K s S L HS.out h3.out.1 HX.out hz.out (by omega));have h8:=yw (Ai S g k);obtain⟨y,U⟩:=yB (S.load g k)
   obtain⟨ys,hw⟩:=yB (uv ((yi k).map (S.load g)))
   rw[<-U]at HC h8;rw[<-hw]at HO h8;have kq:(k:Int) <(n:Int):=by omega
   clear U hw;go_wp2_with fail;refine HC.out.mono ?_;rintro z w4 ⟨rfl,h9⟩;have ho:=yw (qQ HO.out h9);have H0:=yw (yC HB.out h9 HB.out.size);clear h9 HC;have km:=H0.out.size;go_wp2_with (at_builtin;go_loud (refine wpList_append_own _ rfl _ _ 27 rfl w.heap.size 33 i0 (zd zk 0) 1 8 underlying27 hi k7 ki kd rfl (by decide) _ k ys rfl (ho.out.alloc _) ⟨w4.heap.size,0,zp⟩ 1 1 [zd zk y] rfl rfl ?c1 ?c2 ?c3 ?c4 ?c5 ?_))
   case c1=>exact World.news_of_block (cs:=#[zd zk y]) (t:=33) (fr:=(0,0)) (heap_alloc_new w4 _)
   case c2=>intro u hu;simp at hu;subst hu;rfl
   case c3=>unfold maxLen;omega
   case c4=>omega
   case c5=>simp;omega
   intro v' w5 H H6 _;have H3:Below w.heap.size w w5:=(H0.out.alloc km _).grown H6 (by simp;omega) fun j hj=>(ho.out.lt j hj).1;have kj:=yw H3;have k3:=yw H;rcases H.2 with⟨_,h0⟩|⟨g,kk,cur,hv,_⟩
   .omega
   subst hv;clear H3 H H6;go_wp2_with fail;go_roundw
   case rel=>exact⟨k+1,_,_,by omega,by go_num,rfl,by rw[h8.out];exact k3.out,kj.out⟩
   case measure=>simp[intOf];omega
  .have k8:k=n:=by omega
   subst k8;have J:k=A.length:=by rw[m.out];simp
   have f:=yw J;have H7:Hid (∀j,j<k->A.getD j 0=S.load g j):=yw (fun j hj=>by rw[m.out];exact XC _ _ _ hj);have kl:=yw (h3.out.1.load g);rw[<-m.out]at HO;have H1:=yw (xE.SG HO.out);have Hy:=yw (Tj A x.shares ar k cr wr J (by omega) h7.out H1.out ⟨by omega,kn.2⟩);obtain⟨g0,g1,g2,g3,g4,g5,g6⟩:=(HS.out.gp HX.out).c7;have C:=(HS.out.gp HX.out).lt;have hc:Hid (∀r,ar=zo ⟨r,0,zp⟩->¬K r):=yw (fun r hr hF=>by have:=(HO.out.lt r (by rw[hr];rfl)).1;rw[h6.out]at hF;have:=hF.2;omega)
   clear J g0 g1 g2 g4 g5 g6;go_wp2_with fail;refine Hy.out.mono ?_;rintro z w6 ⟨v6,rfl,D,h5⟩;obtain⟨a6,c6,k1⟩:∃a6 c6,v6=zf a6 k c6:=by obtain⟨a,c,e,_⟩:=xE.SW D;exact⟨a,c,e⟩
   subst k1;have Hg:=yw (xE.SG D);have hn:=yw (yC HB.out h5 HB.out.size);have ka:=yw (HH.out.behind hn.out);have kh:=yw (H1.out.behind h5);have ha:Hid (∀r,a6=zo ⟨r,0,zp⟩->¬K r):=yw (fun r hr hF=>by have h1:=(D.lt r (by rw[hr];rfl)).1;have h2:=HB.out.size;rw[h6.out]at hF;have:=hF.2;omega);clear D h5 g3 C;go_wp2_with fail;go_loopw [6,7,31] (fun _ _ i wr=>∃(j:Nat),j<=k/\i=zd zj j/\yG w6 K s (S.RE g A j) L wr) (fun _ _ i _=>k-(intOf i).toNat)
   case atStart=>exact⟨0,by omega,rfl,yG.refl ka.out⟩
   case round=>
    obtain⟨j,hj,rfl,hl⟩:=hrel;have I:=yw hl;clear hl;by_cases O:j<k
    .have kr:(j:Int) <(k:Int):=by omega
     obtain⟨FT,SM⟩:=Uv h3.out g A j (by rw[<-HN.out];omega);have H5:=yw FT;obtain⟨y,U⟩:=yB (S.load g j)
     have Y:A[j]?=zo y:=by rw[zy (by rw[<-f.out];exact O)];have:=H7.out j O;rw[zH,zy (by rw[<-f.out];exact O)]at this;rw[U];exact congrArg zo this
     have k9:=yw (Hg.out.RB I.out.2 ha.out);have k5:=yw (kh.out.RB I.out.2 hc.out);obtain⟨r6,k6,hp,kf⟩:=k9.out j (zd zk (qS x.shares y A.sum)) (by simp[uv,Y]);obtain⟨r7,k4,k0,kg⟩:=k5.out j (zd zk y) (uM Y);subst k6;subst k4;have hW:=Lv x.shares y A.sum;obtain⟨W,V⟩:=yB (qS x.shares y A.sum)
     obtain⟨ks,M⟩:=SM;obtain⟨T,Q⟩:=yB (S.RE g A j)
     have R:T.gs[g]?=zo x:=by rw[Q,M];exact HX.out
     have B:j<T.ps:=by rw[Q,M];show j<S.ps;rw[<-HN.out];exact O
     have N:T.ps=k:=by rw[Q,M];exact HN.out.symm
     have h4:A.getD j 0=y:=by rw[H7.out j O,U]
     have H9:=kl.out j;rw[<-U]at H9;have X:=Ah S g A j;rw[h4,<-Q,Sc.PE HX.out,<-V]at X;have H8:=yw X;rw[<-Q]at I H5;rw[<-V]at hp hW;by_cases d:0<y
     .have HE:Hid (S.RE g A (j+1)=T.OM j ((T.hs j).OT x.hi W)):=yw (by rw[H8.out,if_pos d]);obtain⟨yr,hm⟩:=H5.out.1.gr R hz.out B;obtain⟨r,kk,hv⟩:=I.out.1.eD B;obtain⟨Z,rp,kb⟩:=I.out.1.SK B hv;rw[N]at Z;obtain⟨-,g1,-⟩:=(I.out.1.gp R).c7;have C:=(I.out.1.gp R).lt;have P:=I.out.1.RZ.2;obtain⟨G,hH,hU⟩:=I.out.1.SX B;have HU:=yw hU;have HW:=yw (QQ x.hi W wr.drew G (L.hb j) (T.hs j) yr (hH.kept fun k _ _=>rfl) hm k2 hW.1 hW.2);clear Y Q R B N h4 X M hm hv hU hH U V FT;go_wp2_with fail;go_region_with
       (
        go_at_call 105;refine HW.out.mono ?_;rintro z w8 ⟨rfl,he⟩;have ke:=yw (HU.out _ _ (qv.NZ (F:=G) (⟨rfl,rfl,rfl,yA _,fun _ _=>rfl⟩:Below wr.heap.size wr wr.drew) he));clear he Z rp kb g1 C P hp k0 kf kg)
      all_goals
       go_wp2_with fail;go_roundw
       case rel=>exact⟨j+1,by omega,by go_num,by rw[HE.out];exact I.out.then ke.out⟩
       case measure=>simp[intOf];omega
     .have HE:Hid (S.RE g A (j+1)=T):=yw (by rw[H8.out,if_neg d]);clear Y Q R B N h4 X M U V FT;go_wp2_with fail;go_roundw
      case rel=>exact⟨j+1,by omega,by go_num,by rw[HE.out];exact I.out⟩
      case measure=>simp[intOf];omega
    .have H2:j=k:=by omega
     have ko:=yw H2;clear H2;have H4:=yw (yG.NZ hn.out (I.out.grow (G:=F) fun q hq=>by rw[h6.out]at hq;exact hq.1));rw[ko.out]at H4;go_wp2;go_end0;exact⟨⟨_,rfl⟩,H4.out⟩
theorem Ak(f:Nat->Nat)(l:List Nat):xK ((l.map zo).map (Option.map f))=bH f l:=by simp[xK,bH]
theorem Hz(S:Sc)(l:List Nat):S.RQ (l.map zo)=S.limited l:=by unfold Sc.RQ;rw[List.filterMap_map];simp
theorem Sc.Fit.lim1(h:S.Fit b){l:List Nat}(H:S.AV l)(I:g∈l)(hp:p<S.ps):∃x d,S.gs[g]?=zo x/\x.there=zq/\x.band=zo d/\d.Small/\d.l[p]?=zo (xA d p)/\x.hi≠0/\x.hi<32/\vB b d/\g≠0:=by obtain⟨x,d,D,E,hd⟩:=H g I;have G:=h.1.SA D hd;obtain⟨d',B,h1,A⟩:=h.1.band D E G;rw[hd]at B;obtain rfl:=zx B;exact⟨x,d,D,E,hd,A.small (by have:=h.1.RY;omega),uB (by omega),h.1.iR D E G,h.1.hi D E,A,G⟩
theorem Al(hp:p<S.ps):(if(S.PH p).TN (p:Int)then(S.PH p).running (p:Int).toNat else -1)=(S.PH p).running p:=by rw[if_pos ⟨by omega,by show(p:Int) <(S.ps:Int);omega⟩,zI]
theorem yK.PA(h:yK w F s S L):yK w (fun k=>F k/\k<w.heap.size) s S L:=h.mono fun k hk A=>⟨A,hk⟩
theorem Pd(p:Nat)(b:Nat)(w:zu)(F:Nat->Prop)(s:Nat)(S:Sc)(L:Lay)(h:yK w F s S L)(ok:S.Fit b)(hp:p<S.ps):
 zw prog 57 #[ptr s,zd zj p] w fun z w'=>z=zm (zh (S.choose p).2)/\yG w F s (S.choose p).1 L w':=by
 have f1:=Ux ok hp;have U:p<(S.PH p).ps:=hp;obtain⟨r,mb,hv⟩:=h.eD hp;obtain⟨a,rp,H5⟩:=h.SK hp hv;have B:=h.RZ.2;obtain⟨G,hH,hU⟩:=h.SX hp;obtain⟨HU,HP,j⟩:=Qe hU (UR w G (L.hb p) (S.hs p) hH) (Al hp);have mq:(p:Int) <(S.ps:Int):=by omega
 have mi:p<64:=by have:=ok.1.ps.2;omega
 by_cases hr:(S.PH p).running p= -1
 .have Y:=Yl hr;rw[Y];obtain⟨c1,c2⟩:=f1.1.ck p U;obtain⟨A,D⟩:=yB (S.PH p)
  have k1:=yw D;rw[hr]at j;rw[<-D]at U c1 j ⊢;clear h ok f1 hv hU hH hr Y c2 D;go_enter func57,ntmps57;go_wp2_with fail;refine HP.out.mono ?_;rintro z w1 ⟨rfl,ha⟩;have u:Hid (yG w F s A L w1):=yw (by rw[k1.out];exact HU.out _ _ ha);clear ha a rp H5 B;have M:=yw (xT p w1 _ s A L u.out.1);rw[j.out]at M;go_wp2_with fail;refine M.out.mono ?_;rintro z w2 ⟨rfl,o⟩;have H9:=yw (u.out.below o);clear o;obtain⟨hC,rc,cc,W,k5,h9⟩:=H9.out.1.clock U;have B:=H9.out.1.RZ.2;have HB:=yw (Uq (-1) w2 (L.cb p) (A.cs p) hC (by omega) (by omega));have mh:(p:Int) <(A.ps:Int):=by omega
  clear hC;go_wp2_with fail;refine HB.out.mono ?_;rintro z w3 ⟨⟨v,rfl⟩,Z,ht⟩;have hg:=yw (H9.out.then (H9.out.1.eC U ht Z));clear Z ht W k5 h9 B;go_wp2;go_ret;exact⟨rfl,hg.out⟩
 .obtain⟨n,t,g,h1,h2,h3,h4,h5,h6,_⟩:=f1.run U hr;have Y:=Ym h1 h2;simp only at Y;obtain⟨O,hO⟩:=yB (S.choose p)
  rw[<-hO]at Y ⊢;have H3:=yw Y;have hL:=Br f1.1 h5 h6;obtain⟨_,_,k7⟩:=f1.1.dB h5 h6;have K:n<S.ts.length:=(yy h2).1;have mr:S.ts.length<=900:=by have:=ok.1.tl;have:=ok.1.RY;omega
  obtain⟨A,D⟩:=yB (S.PH p)
  have k1:=yw D;rw[h1]at j;have kp:A.ps=S.ps:=by rw[D];rfl
  have hj:A.ts=S.ts:=by rw[D];rfl
  rw[<-D]at U f1 h2 h5 hL k7 j H3;obtain⟨H2,m0,kr,kq,K5⟩:=Qg f1 h2 h5 h6 hL;have ho:n<A.ts.length:=by rw[hj];exact K
  have km:=yw ho;have mp:(n:Int) <(A.ts.length:Int):=by omega
  have mo:n<1000:=by omega
  obtain⟨N,ki⟩:=yB (A.limited (A.SP t.OG))
  have kk:=yw ki;rw[<-ki]at hL K5 H3;clear ki;clear hO;clear h ok hv hU hH hr Y D h1 h2 h3 h4 h5 h6 f1 hL hj kp K ho;go_enter func57,ntmps57;go_wp2_with fail;refine HP.out.mono ?_;rintro z w1 ⟨rfl,ha⟩;have u:Hid (yG w F s A L w1):=yw (by rw[k1.out];exact HU.out _ _ ha);clear ha a rp H5 B;obtain⟨F1,k9⟩:∃F1:Nat->Prop,F1=fun k=>Ext F w w1 k/\k<w1.heap.size:=⟨_,rfl⟩
  have h8:=yw k9;have H1:Hid (yK w1 F1 s A L):=yw (by rw[k9];exact u.out.1.PA);clear k9;have M:=yw (xT p w1 _ s A L H1.out);rw[j.out]at M;go_wp2_with fail;refine M.out.mono ?_;rintro z w2 ⟨rfl,o⟩;have kx:=yw o;have H4:=yw (H1.out.behind o);clear o;obtain⟨-,s7,hz⟩:=H4.out.RN;obtain⟨rt,ct,K3,mc,ko⟩:=hz n km.out;rw[K3]at s7;have B:=H4.out.RZ.2;obtain⟨-,-,-,-,-,t5,-⟩:=(H4.out.tk m0.out).TY;have HW:=yw (Mc t.OG g b w2 F1 s A L H4.out H2.out.1 kr.out kq.out);obtain⟨WY,k4⟩:=yB (A.SP t.OG)
  have K4:=yw k4;rw[<-k4]at HW k7;obtain⟨m,hm⟩:=yB WY.length
  have HM:=yw hm;rw[<-hm]at HW k7;clear hz K3 k4 hm;go_wp2_with fail;refine HW.out.mono ?_;rintro z w3 ⟨a3,c3,rfl,h0,kz⟩;have Hg:=yw (yC kx.out kz kx.out.size);have md:=yw (H1.out.behind Hg.out);have ky:Oz w3 a3 (xK ((WY.map zo).map (Option.map L.gb))):=by rw[Ak];exact .of_v (xE.SG h0)
  have Hy:=yw (Xk (WY.map zo) a3 m c3 w3 F1 s A L md.out (by rw[List.length_map];exact HM.out) (by omega) ky (fun q c=>by obtain⟨q',K2,e⟩:=yh.1 c;obtain rfl:=zx e;rw[K4.out]at K2;obtain⟨y,hy,K8,_⟩:=H2.out.1.AW kr.out kq.out q' K2;exact⟨y,hy,K8⟩));have k6:A.RQ (WY.map zo)=N:=by rw[Hz,K4.out,kk.out]
  rw[k6]at Hy;have kj:N.length<=8:=by have h1:=Ew A (WY.map zo);rw[k6,List.length_map,<-HM.out]at h1;omega
  obtain⟨nl,K⟩:=yB N.length
  have hh:=yw K;rw[<-K]at Hy kj;clear h0 kz s7 mc ko B t5 ky k6 K;go_wp2_with fail;refine Hy.out.mono ?_;rintro z w4 ⟨a4,c4,rfl,R,K6⟩;have kb:=yw (yC Hg.out K6 Hg.out.size);have m4:=yw (H1.out.behind kb.out);have K9:=yw (xE.SG R);have m3:Hid (∀r,a4=zo ⟨r,0,zp⟩->¬F1 r):=yw (fun r hr hF=>by have h1:=(R.lt r (by rw[hr];rfl)).1;have h2:=Hg.out.size;rw[h8.out]at hF;have:=hF.2;omega);clear R K6;go_wp2_with fail;go_loopw [7,43] (fun _ i wr=>∃(k:Nat) (T:Sc),k<=nl/\i=zd zj k/\yG w4 F1 s T L wr/\T.Fit b/\A.PX T/\Sc.PL p (N.drop k) T=Sc.PL p N A) (fun _ i _=>nl-(intOf i).toNat)
  case atStart=>exact⟨0,A,by omega,rfl,yG.refl m4.out,H2.out,.refl A,rfl⟩
  case round=>
   obtain⟨k,T,hk,rfl,hl,hu,h7,J⟩:=hrel;obtain⟨P,kf,ka,kv⟩:=Qf hl hu h7 J;clear hl hu h7 J;have V:p<T.ps:=by rw[ka.out.ps];exact U
   by_cases K7:k<nl
   .have mm:(k:Int) <(nl:Int):=by omega
    have kd:k<N.length:=by rw[<-hh.out];exact K7
    obtain⟨q,c⟩:∃q,N[k]?=zo q:=⟨_,zy kd⟩
    have kg:N.drop k=q::N.drop (k+1):=by
     rw[List.drop_eq_getElem_cons kd]
     congr 1
     rw[zy kd]at c;exact zx c
    obtain⟨x,d,Z,kc,hd,k3,H8,kn,mn,ku,m1⟩:=kf.out.lim1 (K5.out.TB ka.out H2.out.1 kf.out.1) (zW c) V;obtain⟨f2,n2⟩:=kf.out.ON (d':=d.SQ p (xA d p)) Z hd (fun hk=>hk.SQ H8) (Wt _ _ _);have H6:=Yj (p:=p) (r:=N.drop (k+1)) Z hd;rw[<-kg,kv.out]at H6;have I:=yw H6;obtain⟨r4,m9,kw,K1⟩:=(K9.out.RB P.out.2 m3.out) k (ptr (L.gb q)) (Bo c);subst m9;obtain⟨x0,x1,x2,x3,x4,x5,x6⟩:=(P.out.1.gp Z).c7;have f:=(P.out.1.gp Z).lt;have H0:x.band.isSome=zq:=by rw[hd];rfl
    rw[H0]at x5 x6;simp only[if_true]at x5 x6;obtain⟨HE,HX,HD,ms,ke,hn,m7⟩:=Qi (Qt.TF p (xA d p) wr (L.bb q) d (P.out.1.band Z hd) k3 H8) Z hd H0 f2 n2 kc;obtain⟨E,hE⟩:=yB (d.SQ p (xA d p))
    rw[<-hE]at HE I ke hn;cases hmay:d.may (xA d p)with
    | true=>
     rw[hmay]at HE I;simp only[if_true]at I;clear c kg Z kc hd k3 H8 ku H6 x0 x1 x2 x3 x4 x6 H0 f2 n2 hE hmay;go_wp2_with fail;refine HE.out.mono ?_;rintro z w5 ⟨rfl,hf,Q⟩;have X:=yw (P.out.then (P.out.1.cC HX.out HD.out Q hf));clear hf Q x5 f kw K1;go_wp2_with fail;go_roundw
     case rel=>exact⟨k+1,_,by omega,by go_num,X.out,ke.out,ka.out.trans hn.out,I.out.symm⟩
     case measure=>simp[intOf];omega
    | false=>
     rw[hmay]at HE I;simp only[if_neg (show ¬(zt=zq)by decide)]at I;clear c kg Z kc hd k3 H8 ku H6 x0 x1 x2 x3 x4 H0 f2 n2 hE hmay;go_wp2_with fail;refine HE.out.mono ?_;rintro z w5 ⟨rfl,hf,Q⟩;have X:=yw (P.out.then (P.out.1.cC HX.out HD.out Q hf));have he:=yw (xg (g':=x.ON E) HX.out);clear hf Q x5 x6 f kw K1;obtain⟨-,-,-,-,-,-,x6⟩:=(X.out.1.gp he.out).c7;have f:=(X.out.1.gp he.out).lt;simp only[Gp.ON,Option.isSome_some,if_true]at x6;have m5:=yw (Sy w5 (L.lb q) p x.line (X.out.1.line (g:=x.ON E) he.out rfl) (by omega));go_wp2_with fail;refine m5.out.mono ?_;rintro z w6 ⟨⟨v6,rfl⟩,K0,kt⟩
     have k0:=X.out.then (X.out.1.dR he.out rfl kt K0);rw[qA]at k0;have H:=yw k0;have H7:=yw (xg (g':=(x.ON E).OP (xe x.line p)) HX.out);clear K0 kt x6 f k0;obtain⟨f6,n6⟩:=ke.out.OP (l:=xe x.line p) he.out m1 (Yi (by exact V));rw[qA]at f6;obtain⟨yr,k2⟩:=f6.1.gr H7.out m7.out (p:=p) V;have kh:=f6.1.hc p V;have hw:=f6.1.credit;obtain⟨T6,C⟩:=yB (T.OF q ((x.ON E).OP (xe x.line p)))
     have k8:p<T6.ps:=by rw[C];exact V
     have kl:T6.ps=T.ps:=by rw[C];rfl
     rw[<-C]at H H7 k2 kh hw;have m8:Hid (T6.hs p=T.hs p):=yw (by rw[C];rfl);have mf:=yw C;obtain⟨r,mb,hv⟩:=H.out.1.eD k8;obtain⟨a,rp,H5⟩:=H.out.1.SK k8 hv;obtain⟨-,g1,-⟩:=(H.out.1.gp H7.out).c7;have f:=(H.out.1.gp H7.out).lt;have B:=H.out.1.RZ.2;obtain⟨G,hH,hU⟩:=H.out.1.SX k8;have HU:=yw hU;have mg:=yw (Dl x.hi zq w6.drew G (L.hb p) (T6.hs p) yr (hH.kept fun k _ _=>rfl) k2 kn (by rw[kh];omega));have mj:(p:Int) <(T6.ps:Int):=by omega
     simp only[Gp.ON,Gp.OP]at g1;clear k2 hv hU hH kh hw f6 n6 C kl;go_wp2_with fail;go_region_with
      (
       go_at_call 82;refine mg.out.mono ?_;rintro z w8 ⟨rfl,ks⟩;have m6:=yw (HU.out _ _ (qv.NZ (F:=G) (⟨rfl,rfl,rfl,yA _,fun _ _=>rfl⟩:Below w6.heap.size w6 w6.drew) ks));clear ks a rp H5 g1 f B)
     all_goals
      have hg:Hid (yG w4 F1 s (Sc.PL p N A).1 L w8):=yw (by rw[I.out];have:=H.out.then m6.out;rw[m8.out,mf.out]at this;exact this);have me:Hid (O=((Sc.PL p N A).1,zt)):=yw (by
       have h2:(Sc.PL p N A).2=zt:=by rw[I.out]
       rw[H3.out,if_neg (by rw[h2];decide)])
      go_wp2;go_ret;rw[me.out];exact⟨rfl,u.out.then (yG.NZ kb.out (hg.out.grow (G:=Ext F w w1) fun q c=>by rw[h8.out]at c;exact c.1))⟩
   .have m2:k=nl:=by omega
    subst m2;have J:Sc.PL p N A=(T,zq):=by rw[<-kv.out,hh.out,List.drop_length];rfl
    have ma:Hid (O=(T.PZ p ((T.cs p).begin n),zq)):=yw (by rw[H3.out,J,if_pos rfl]);obtain⟨hC,rc,cc,W,k5,h9⟩:=P.out.1.clock V;have B:=P.out.1.RZ.2;have HB:=yw (Uq n wr (L.cb p) (T.cs p) hC (by omega) (by omega));have ml:(p:Int) <(T.ps:Int):=by omega
    clear hC J;go_wp2_with fail;refine HB.out.mono ?_;rintro z w5 ⟨⟨v,rfl⟩,Z,ht⟩;have hg:=yw (P.out.then (P.out.1.eC V ht Z));clear Z ht W k5 h9 B;go_wp2;go_ret;rw[ma.out];exact⟨rfl,u.out.then (yG.NZ kb.out (hg.out.grow (G:=Ext F w w1) fun q c=>by rw[h8.out]at c;exact c.1))⟩
theorem LG{mask:Int}(h:0<=mask)(B:mask<=18446744073709551615)(p:Nat):(bits BinOp.and zk (mask/2 ^ p) 1 == 0)=!qN mask p:=by
 have e:=Hc h B p;have A:bits BinOp.and zk (mask/2 ^ p) 1=0∨bits BinOp.and zk (mask/2 ^ p) 1=1:=by have hd:0<=mask/2 ^ p:=Int.ediv_nonneg h (Int.le_of_lt (Int.pow_pos (by omega)));have D:mask/2 ^ p<=18446744073709551615:=Int.le_trans (Int.ediv_le_self _ h) B;rw[JK _ hd D];omega
 rcases A with A|A<;>rw[A]at e ⊢ <;> (cases hb:qN mask p<;>rw[hb]at e<;>simp at e ⊢)
theorem Mk{e:Ev}{B:Nat}(h:S.tsk? e.a=zo n)(D:S.t n=t)(A:S.free (-1) e.mask=zo B)(E:¬(t.on=zq/\qN e.mask t.p=zt)):S.TJ e=(S.OY n { t with mask:=e.mask },0,0):=by unfold Sc.TJ;simp only[h,A,D];rw[if_neg E]
theorem FV{e:Ev}{B:Nat}(h:S.tsk? e.a=zo n)(D:S.t n=t)(A:S.free (-1) e.mask=zo B)(E:t.on=zq/\qN e.mask t.p=zt):
 S.TJ e=((((S.OY n { t with mask:=e.mask }).leave n).put n (Ke (((S.OY n { t with mask:=e.mask }).leave n).free (-1) e.mask)) zt),0,0):=by
 unfold Sc.TJ;simp only[h,A,D];rw[if_pos E];unfold Ke;cases((S.OY n { t with mask:=e.mask }).leave n).free (-1) e.mask<;>rfl
theorem XD(e:Ev)(b:Nat)(w:zu)(F:Nat->Prop)(s:Nat)(S:Sc)(L:Lay)(h:yK w F s S L)(f:S.Fit b)(he:0<=e.mask/\e.mask<=18446744073709551615):
 zw prog 48 #[ptr s,zg (OX e)] w (TM w F s L (S.TJ e)):=by
 obtain⟨w1,B⟩:=yB (w.alloc (zn (OX e) 35))
 have K:Below w.heap.size w w1:=by rw[B];exact yE w _
 have hE:RG w1 w.heap.size e:=by rw[B];exact RG.new w e
 obtain⟨u,o⟩:∃u:Nat->Prop,u=fun k=>F k/\k<w.heap.size:=⟨_,rfl⟩
 have h7:Hid (∀k,u k->F k):=yw (by rw[o];exact fun k hk=>hk.1);have g:Hid (yK w1 u s S L):=yw (by rw[o];exact h.PA.behind K);have hm:Hid (yG w F s S L w1):=yw ((yG.refl h).below K);have Y:=yw K;have HG:=yw (Kc e.a w1 u s S L g.out (by have:=f.1.tl;have:=f.1.RY;omega));obtain⟨D,Z⟩:=yB w.heap.size
 have H2:Hid (¬u D):=yw (by rw[o,Z];intro hk;omega);rw[<-Z]at hE;have HE:=yw hE;obtain⟨-,e1,-,-,-,m⟩:=hE.c6;clear h K hE o;obtain⟨O,d⟩:=yB (S.TJ e)
 rw[<-d];unfold TM;cases hg:S.tsk? e.a with
 | none=>
  have r:O=(S,0,2):=by rw[d];unfold Sc.TJ;rw[hg]
  subst r;rw[hg]at HG;clear d hg f;go_enter func48,ntmps48;go_wp2_with fail;rw[show w.alloc (zn (OX e) 35)=w1 from B.symm,<-Z];clear B Z;refine HG.out.mono ?_;rintro z w2 ⟨rfl,x⟩;obtain rfl:=x.symm;go_wp2;go_ret2;exact⟨rfl,hm.out⟩
 | some n=>
  obtain⟨-,t,hn,hd,V⟩:=qO hg;rw[hg,show Yg L.tb (zo n)=ptr (L.tb n)from rfl]at HG;have hT:=f.1.tk n t hn hd;have N:=yw (Kd (-1) e.mask b w1 u s S L g.out f.1 he.1 he.2 (.inl rfl));rw[Xs]at N;have HN:=yw hn;cases hfr:S.free (-1) e.mask with
  | none=>
   have r:O=(S,0,9):=by rw[d];unfold Sc.TJ;simp only[hg,hfr]
   subst r;rw[hfr]at N;simp only[Ke,Cx,Option.getD_none,Option.isSome_none]at N;clear d hg f hn hd V hT hfr;go_enter func48,ntmps48;go_wp2_with fail;rw[show w.alloc (zn (OX e) 35)=w1 from B.symm,<-Z];clear B Z;refine HG.out.mono ?_;rintro z w2 ⟨rfl,x⟩;obtain rfl:=x.symm;go_wp2_with fail;refine N.out.mono ?_;rintro z U ⟨rfl,A⟩;have l:=yw (hm.out.below A);clear A e1 m;go_wp2;go_ret2;exact⟨rfl,l.out⟩
  | some p0=>
   have C:Ke (S.free (-1) e.mask)=p0:=by rw[hfr];rfl
   have y:Cx (S.free (-1) e.mask)=zq:=by rw[hfr];rfl
   rw[C,y]at N;have X:=LG he.1 he.2 t.p;have H9:=hT.TC;have H1:t.p<64:=by have:=f.1.ps.2;omega
   have H8:IntKind.u64.wrap (t.p:Int)=(t.p:Int):=by simp only[IntKind.wrap,yq,IntKind.bits];simp;omega
   obtain⟨R,I⟩:∃R,R=S.OY n { t with mask:=e.mask }:=⟨_,rfl⟩
   have f1:R.Fit b:=by rw[I];exact f.OY hn rfl rfl rfl rfl rfl fun _ k=>⟨k.OG,k.pool,k.hi,k.at_,k.TC,k.wt,he,k.e,k.nice,k.min⟩
   have J:R.ts[n]?=zo { t with mask:=e.mask }:=by rw[I];exact vj hn
   obtain⟨h4,H6,H7⟩:=Qe I f1 J;cases hon:t.on with
   | false=>
    have r:O=(R,0,0):=by rw[d,Mk hg V hfr (by rw[hon];simp),I]
    subst r;have c:=yw hon;clear d hg f hn hd V hT hfr C y X I f1 J hon;go_enter func48,ntmps48;go_wp2_with fail;rw[show w.alloc (zn (OX e) 35)=w1 from B.symm,<-Z];clear B Z;refine HG.out.mono ?_;rintro z w2 ⟨rfl,x⟩;obtain rfl:=x.symm;go_wp2_with fail;refine N.out.mono ?_;rintro z U ⟨rfl,A⟩;obtain⟨j,T,E⟩:=Qe (yC Y.out A Y.out.size) (g.out.behind A) (HE.out.behind A);clear A e1 m;obtain⟨-,-,-,-,-,m⟩:=E.out.c6;have M:=T.out.tk HN.out;obtain⟨-,-,-,t3,t4,-,-,-,t8,-⟩:=M.TY;rw[c.out]at t3;have h1:=M.OH
    have Q:RR (U.setCell ⟨L.tb n,8,zp⟩ (zd zk e.mask)) (L.tb n) L.gb { t with mask:=e.mask }:=yD M;have h0:D≠L.tb n:=by intro e;have H:=E.out;have P:=M;unfold RR at P;unfold RG at H;rw[e,P]at H;simp only[ya,yo]at H;exact absurd H.2.1 (by decide)
    have l:Hid (yG w F s R L (U.setCell ⟨L.tb n,8,zp⟩ (zd zk e.mask))):=yw (by rw[h4.out];exact yG.NZ j.out ((T.out.AU HN.out (OA.refl (fun k=>k=L.tb n) U).one Q).grow (G:=F) h7.out));clear M Q;go_wp2_with fail;go_quiet (fail);go_wp2;go_ret2;exact⟨rfl,l.out.below (yH (zU _ _) nq)⟩
   | true=>
    cases hbit:qN e.mask t.p with
    | true=>
     have r:O=(R,0,0):=by rw[d,Mk hg V hfr (by rw[hbit];simp),I]
     subst r;rw[hbit]at X;have ha:(bits BinOp.and zk (e.mask/2 ^ t.p) 1 == 0)=zt:=X;clear X hbit;have c:=yw hon;clear d hg f hn hd V hT hfr C y I f1 J hon;go_enter func48,ntmps48;go_wp2_with fail;rw[show w.alloc (zn (OX e) 35)=w1 from B.symm,<-Z];clear B Z;refine HG.out.mono ?_;rintro z w2 ⟨rfl,x⟩;obtain rfl:=x.symm;go_wp2_with fail;refine N.out.mono ?_;rintro z U ⟨rfl,A⟩;obtain⟨j,T,E⟩:=Qe (yC Y.out A Y.out.size) (g.out.behind A) (HE.out.behind A);clear A e1 m;obtain⟨-,-,-,-,-,m⟩:=E.out.c6;have M:=T.out.tk HN.out;obtain⟨-,-,-,t3,t4,-,-,-,t8,-⟩:=M.TY
     rw[c.out]at t3;have h1:=M.OH;have Q:RR (U.setCell ⟨L.tb n,8,zp⟩ (zd zk e.mask)) (L.tb n) L.gb { t with mask:=e.mask }:=yD M;have h0:D≠L.tb n:=by intro e;have H:=E.out;have P:=M;unfold RR at P;unfold RG at H;rw[e,P]at H;simp only[ya,yo]at H;exact absurd H.2.1 (by decide)
     have l:Hid (yG w F s R L (U.setCell ⟨L.tb n,8,zp⟩ (zd zk e.mask))):=yw (by rw[h4.out];exact yG.NZ j.out ((T.out.AU HN.out (OA.refl (fun k=>k=L.tb n) U).one Q).grow (G:=F) h7.out));clear M Q;go_wp2_with fail;go_quiet (fail);go_wp2;go_ret2;exact⟨rfl,l.out.below (yH (zU _ _) nq)⟩
    | false=>
     have hc:=FV hg V hfr ⟨hon,hbit⟩;rw[<-I]at hc;have hf:=J;have f2:=Ql f1 J hon;obtain⟨t2,h9,hp,hr,-⟩:=qR J;have v:=Hu f2.1 (-1) e.mask;obtain⟨q,hq⟩:=yB (Ke ((R.leave n).free (-1) e.mask))
     obtain⟨qb,ht⟩:=yB (Cx ((R.leave n).free (-1) e.mask))
     have H0:=yw (fun W F2 (H:yK W F2 s R L)=>Jx n _ b W F2 s R L H f1.1 J hon);have h8:=yw (fun W F2 (H:yK W F2 s (R.leave n) L)=>Kd (-1) e.mask b W F2 s (R.leave n) L H f2.1 he.1 he.2 (.inl rfl));rw[Xs,<-hq,<-ht]at h8;rw[<-hq]at hc v;obtain⟨S2,hu⟩:=yB (R.leave n)
     rw[<-hu]at hc f2 h9 v H0 h8;have H3:=yw (fun W F2 (H:yK W F2 s S2 L)=>Wu n q zt t2 b W F2 s S2 L H f2.1 h9 (hr.trans hd) hp v);have r:O=(S2.put n q zt,0,0):=by rw[d,hc]
     subst r;rw[hbit]at X;have ha:(bits BinOp.and zk (e.mask/2 ^ t.p) 1 == 0)=zq:=X;have c:=yw hon;have hh:q<1000:=by have:=f2.1.ps.2;omega
     clear d hg f hn hd V hT hfr C y X I f1 J hf hon hbit hc f2 h9 hp hr v hq ht hu;go_enter func48,ntmps48;go_wp2_with fail;rw[show w.alloc (zn (OX e) 35)=w1 from B.symm,<-Z];clear B Z;refine HG.out.mono ?_;rintro z w2 ⟨rfl,x⟩;obtain rfl:=x.symm;go_wp2_with fail;refine N.out.mono ?_;rintro z U ⟨rfl,A⟩;obtain⟨j,T,E⟩:=Qe (yC Y.out A Y.out.size) (g.out.behind A) (HE.out.behind A);clear A e1 m;obtain⟨-,-,-,-,-,m⟩:=E.out.c6;have M:=T.out.tk HN.out;obtain⟨-,-,-,t3,t4,-,-,-,t8,-⟩:=M.TY;rw[c.out]at t3;have h1:=M.OH
     have Q:RR (U.setCell ⟨L.tb n,8,zp⟩ (zd zk e.mask)) (L.tb n) L.gb { t with mask:=e.mask }:=yD M;have h0:D≠L.tb n:=by intro e;have H:=E.out;have P:=M;unfold RR at P;unfold RG at H;rw[e,P]at H;simp only[ya,yo]at H;exact absurd H.2.1 (by decide)
     have hl:Hid (yG U u s R L (U.setCell ⟨L.tb n,8,zp⟩ (zd zk e.mask))):=yw (by rw[h4.out];exact T.out.AU HN.out (OA.refl (fun k=>k=L.tb n) U).one Q);clear M Q;go_wp2_with fail;go_quiet (fail);go_wp2_with fail;obtain⟨w5,h6⟩:=yB ((U.setCell ⟨L.tb n,8,zp⟩ (zd zk e.mask)).drewN nq)
     have hv:Hid (yG U u s R L w5):=yw (by rw[h6];exact hl.out.below (yH (zU _ _) nq));rw[<-h6];clear h6 hl t3 t4 t8 h1 m h0;refine(H0.out _ _ hv.out.1).mono ?_;rintro z w6 ⟨⟨v6,rfl⟩,hx⟩;have h5:=yw (hv.out.then hx);clear hx;have H4:Hid (RG w6 D e):=yw ((h5.out.2.block D E.out.lt H2.out).trans E.out);obtain⟨-,-,-,-,-,m⟩:=H4.out.c6;go_wp2_with fail;refine(h8.out _ _ h5.out.1).mono ?_;rintro z w7 ⟨rfl,hz⟩;have hy:=yw (h5.out.below hz);clear hz m;go_wp2_with fail;refine(H3.out _ _ hy.out.1).mono ?_;rintro z w8 ⟨⟨v8,rfl⟩,hj⟩;have H5:=yw (yG.NZ j.out ((hy.out.then hj).grow (G:=F) h7.out));clear hj
     go_wp2;go_ret2;exact⟨rfl,H5.out⟩
def Yp(tg:Nat->Nat)(w:zu)(B c:Nat)(k:Nat):Nat:=if k=B then c else yV tg w c k
theorem uE{X:zu->(Nat->Prop)->Prop}(hk:∀{w w':zu} {G:Nat->Prop},X w G->xz G w w'->X w' G)(I:∀{w:zu} {G J:Nat->Prop},X w G->(∀k,k<w.heap.size->G k->J k)->X w J)
 {w':zu}   {d c:Nat} (h:X w (Own F tg d)) (D:∀k,k<w.heap.size->Own F tg d k->w'.heap[k]?=w.heap[k]?) (H:¬F B):X w' (Own (fun k=>Ext F w w' k∨k=B) (Yp tg w B c) d):=
 I (hk (I h (fun k E A=>(⟨A,E⟩:Own F tg d k/\k<w.heap.size))) (fun k E A=>D k A.2 A.1)) fun k E A=>⟨.inl (.inl A.1.1),by unfold Yp;rw[if_neg (by rintro rfl;exact H A.1.1)];unfold yV;rw[if_pos A.2];exact A.1.2⟩
theorem Am(tb:Nat->Nat)(l:List Tk)(t:Tk)(B:Nat):qK (OV tb l.length B) (l++ [t])=qK tb l++ [zo B]:=by
 unfold qK;rw[zE,List.length_singleton,List.range_succ,List.map_append]
 congr 1
 .refine List.map_congr_left fun n A=>?_;rw[yQ _ _ (by have:=List.mem_range.1 A;omega)]
 .simp[yR]
theorem yK.pushT{w':zu}{I:Nat}{v':zz}(h:yK w F s S L)(hB:B<w.heap.size)(D:¬F B)(hx:RR w B L.gb t)
 (f:OA (fun k=>k=s∨L.vt.ownBlock=zo k) w w') (O:w'.ownsRow 0 74 1 v' (S.ts.length+1) (xK (qK L.tb S.ts++ [zo B])))
 (U:∀g,v'.ownBlock=zo g->L.vt.ownBlock=zo g∨w.heap.size<=g) (hs:∃cs,w'.heap[s]?=zo (zn cs 66 (0,0)))
 (h7:w'.cell? ⟨s,7,zp⟩=zo v') (q:w'.cell? ⟨s,41+I,zp⟩=zo (zd zj S.ts.length)) (Z:∀j,j≠7->j≠41+I->w'.cell? ⟨s,j,zp⟩=w.cell? ⟨s,j,zp⟩) (hI:I<64):
 yK w' (fun k=>Ext F w w' k∨k=B) s { S with ts:=S.ts++ [t],at_:=OV S.at_ I S.ts.length } { L with tb:=OV L.tb S.ts.length B,vt:=v' }:=by
 obtain⟨tg,h⟩:=h;have M:Own F tg 0 s:=h.sx.own;have J:∀k,L.vt.ownBlock=zo k->Own F tg 1 k:=h.ts.row.own;have r:=h.sx.lt;have A:∀d,d≠0->d≠1->∀k,k<w.heap.size->Own F tg d k->w'.heap[k]?=w.heap[k]?:=fun d h0 H k hk T=>f.block k hk (by
  rintro(e|e)
  .subst e;exact h0 (T.2.symm.trans M.2)
  .exact H (T.2.symm.trans (J k e).2))
 have N:∀d k,k<w.heap.size->Own F tg d k->Own (fun k=>Ext F w w' k∨k=B) (Yp tg w B 1) d k:=fun d k hk T=>⟨.inl (.inl T.1),by unfold Yp;rw[if_neg (by rintro rfl;exact D T.1)];unfold yV;rw[if_pos hk];exact T.2⟩
 have v:Own (fun k=>Ext F w w' k∨k=B) (Yp tg w B 1) 1 B:=⟨.inr rfl,by unfold Yp;rw[if_pos rfl]⟩
 have V:∀k,w.heap.size<=k->k<w'.heap.size->Own (fun k=>Ext F w w' k∨k=B) (Yp tg w B 1) 1 k:=fun k H o=>⟨.inl (.inr ⟨H,o⟩),by
  unfold Yp;split
  .rfl
  .unfold yV;rw[if_neg (by omega)]⟩
 have z:s≠B:=by rintro rfl;exact D M.1
 refine⟨Yp tg w B 1,?_,?_,uE (X:=fun w G=>TU w G L.gb L.bb L.lb L.vg S.gs) TU.kept TU.mono h.gs (A 2 (by omega) (by omega)) D,uE (X:=fun w G=>TZ w G L.bb S.gs) TZ.kept TZ.mono h.bs (A 3 (by omega) (by omega)) D,
  uE (X:=fun w G=>AB w G L.lb S.gs) AB.kept AB.mono h.ls (A 4 (by omega) (by omega)) D,uE (X:=fun w G=>AC w G L.cb L.vc S.ps S.cs) AC.kept AC.mono h.cs (A 5 (by omega) (by omega)) D,
  uE (X:=fun w G=>xt w G L.t L.tp S.tree) xt.kept xt.mono h.tr (A 6 (by omega) (by omega)) D,uE (X:=fun w G=>xy w G L.pp S.pool) xy.kept xy.mono h.po (A 7 (by omega) (by omega)) D,
  uE (X:=fun w G=>xj w G L.bk S.book) xj.kept xj.mono h.bk (A 8 (by omega) (by omega)) D,?_,fun p hp=>uE (X:=fun w G=>yT w G (L.hb p) (S.hs p)) yT.kept yT.mono (h.hs p hp) (A (p+9) (by omega) (by omega)) D⟩
 .have e:=fun j (H:j≠7) (o:j≠41+I)=>Z j H o;refine⟨hs,N 0 s r M,(e _ (by omega) (by omega)).trans h.sx.c0,(e _ (by omega) (by omega)).trans h.sx.c1,(e _ (by omega) (by omega)).trans h.sx.c2,(e _ (by omega) (by omega)).trans h.sx.c3,(e _ (by omega) (by omega)).trans h.sx.c4,(e _ (by omega) (by omega)).trans h.sx.c5,(e _ (by omega) (by omega)).trans h.sx.c6,h7,(e _ (by omega) (by omega)).trans h.sx.c8,fun i K=>(e _ (by omega) (by omega)).trans (h.sx.pl i K),fun i K=>?_,(e _ (by omega) (by omega)).trans h.sx.vh,(e _ (by omega) (by omega)).trans h.sx.vc,(e _ (by omega) (by omega)).trans h.sx.bk⟩;show w'.cell? ⟨s,41+i,zp⟩=zo (zd zj ((OV S.at_ I S.ts.length i:Nat):Int))
  by_cases W:i=I
  .subst W;rw[yR];exact q
  .rw[yQ _ _ W,e _ (by omega) (by omega)];exact h.sx.at_ i K
 .refine⟨⟨?_,fun k hk=>?_⟩,fun m y R=>?_,fun a c ha Q=>?_⟩
  .rw[Am];rw[zE,uA];exact O
  .rcases U k hk with H|H
   .exact N 1 k (h.ts.row.row.lt k H).2 (J k H)
   .exact V k H (O.lt k hk).2
  .by_cases hm:m<S.ts.length
   .rw[zF hm]at R;obtain⟨x,l⟩:=h.ts.tk m y R;show Own _ _ 1 (OV L.tb S.ts.length B m)/\RR w' (OV L.tb S.ts.length B m) L.gb y;rw[yQ _ _ (by omega)];refine⟨N 1 _ l.lt x,l.of (f.block _ l.lt ?_)⟩;rintro(e|e)
    .rw[e]at x;have:=x.2;have:=M.2;omega
    .have:=yS h.ts.row.row (show w.heap[L.tb m]?=zo (zn _ _ _)from l) (by decide);exact this e
   .have hl:=(yy R).1;have n:m=S.ts.length:=by simp at hl;omega
    subst n;simp at R;subst R;show Own _ _ 1 (OV L.tb S.ts.length B S.ts.length)/\RR w' (OV L.tb S.ts.length B S.ts.length) L.gb t;rw[yR];refine⟨v,hx.of (f.block _ hB ?_)⟩;rintro(e|e)
    .exact z e.symm
    .exact D (J B e).1
  .intro he;have Y:∀k,k<S.ts.length->L.tb k≠B:=fun k hk e=>by
    obtain⟨y,R⟩:∃y,S.ts[k]?=zo y:=⟨_,zy hk⟩
    have:=(h.ts.tk k y R).1.1;rw[e]at this;exact D this
   have E:OV L.tb S.ts.length B a=OV L.tb S.ts.length B c:=he;have h3:a<S.ts.length+1:=by simpa using ha
   have h4:c<S.ts.length+1:=by simpa using Q
   unfold OV at E;split at E
   .rename_i e1;split at E
    .omega
    .exact absurd E.symm (Y c (by omega))
   .split at E
    .exact absurd E (Y a (by omega))
    .exact h.ts.inj a c (by omega) (by omega) E
 .refine⟨⟨h.vh.row.1,?_⟩,fun k hk=>N 0 k (h.vh.row.lt k hk).2 (h.vh.own k hk)⟩;rcases h.vh.row.2 with hn|⟨g,u,cur,hv,hb,b,hr⟩
  .exact .inl hn
  .refine .inr ⟨g,u,cur,hv,hb,?_,hr⟩;have P:=(yx b).1;have C:=h.vh.own g (by rw[hv];rfl);rw[f.block g P ?_];exact b;rintro(e|e)
   .obtain⟨cs,Q⟩:=h.sx.ty;rw[e,Q]at b;simp only[ya,yo]at b;exact absurd b.2.1 (by decide)
   .have:=(J g e).2;have:=C.2;omega
theorem yK.iS(h:yK w F s S L){k r A:Nat}(hk:k<S.ts.length)(D:L.vt=zf (zo ⟨r,0,zp⟩) n A):w.cell? ⟨s,7,zp⟩=zo (zf (zo ⟨r,0,zp⟩) n A)/\w.cell? ⟨r,k,zp⟩=zo (ptr (L.tb k))/\r<w.heap.size:=by obtain⟨-,H,G⟩:=h.RN;obtain⟨r',h0,B,E,I⟩:=G k hk;rw[D]at B;simp only[Value.slice.injEq,ya,Addr.mk.injEq,and_true]at B;obtain⟨e,_⟩:=B;subst e;exact⟨by rw[<-D];exact H,E,I⟩
theorem yK.dS(h:yK w F s S L):Pi.bE w 0 L.pp 64 S.pool/\w.cell? ⟨s,6,zp⟩=zo (ptr L.pp)/\∀x w',Pi.OB 0 L.pp w w'->Pi.bE w' 0 L.pp 64 x->yG w F s { S with pool:=x } L w':=by obtain⟨tg,h⟩:=h;exact⟨h.po.x,h.sx.c6,fun x w' B A=>h.bC B A⟩
theorem LH(h:S.ts[n]?=zo t):∃t1,(S.leave n).ts[n]?=zo t1/\t1.hi=t.hi/\t1.hg=t.hg/\(S.leave n).ts.length=S.ts.length/\(S.leave n).pool=S.pool:=by
 have A:=(yy h).1;refine⟨{ S.t n with min:=S.least n (S.t n).p,e:=(S.hs (S.t n).p).gone (S.g (S.t n).OG).hi (S.t n).hi,on:=zt },?_,?_,?_,?_,rfl⟩
 .show(S.ts.set n _)[n]?=_;rw[List.getElem?_set_self A]
 .rw[Sc.RV h]
 .rw[Sc.RV h]
 .show(S.ts.set n _).length=_;rw[List.length_set]
theorem XE(e:Ev)(b:Nat)(w:zu)(F:Nat->Prop)(s:Nat)(S:Sc)(L:Lay)(h:yK w F s S L)(m:S.Ok b):
 zw prog 50 #[ptr s,zg (OX e)] w (TM w F s L (S.exit e)):=by
 obtain⟨w1,G⟩:=yB (w.alloc (zn (OX e) 35))
 have j:Below w.heap.size w w1:=by rw[G];exact yE w _
 have d:Hid (yG w F s S L w1):=yw ((yG.refl h).below j);have c:=yw (Cz e b w1 _ s S L d.out.1 m);unfold TM;unfold TM at c;by_cases o:(S.OI e.a).2=0
 .obtain⟨p,n,t,ha,hp,M,h0,hn,ho,h7,h1⟩:=Cg h m o;obtain⟨R,V,h6,h3,E,g⟩:=LH hn;have N:S.block e=(S.leave n,(n:Int),0):=by unfold Sc.block;rw[M];simp
  have O:S.exit e=({ (S.leave n).OY n { R with dead:=zq }with pool:=(S.leave n).pool.bB R.hi R.hg },(n:Int),0):=by unfold Sc.exit;rw[M];simp only[if_true,zI];rw[Sc.RV V]
  rw[O];rw[N]at c;obtain⟨X,K⟩:=yB (S.leave n)
  rw[<-K]at c V E g ⊢;have P:n<X.ts.length:=by rw[E];exact(yy hn).1
  have h9:(n:Int) <(X.ts.length:Int):=by omega
  have J:=yw V;have x:=yw P;have h4:=yw (show X.pool.Ok 64 (b+2)by rw[g];exact m.dA);have hc:=m.RY;clear h m j o ha hp M h0 hn ho h7 h1 N O K V h6 h3 E g P;go_enter func50,ntmps50;go_wp2_with fail;rw[show w.alloc (zn (OX e) 35)=w1 from G.symm];clear G;refine c.out.mono ?_;rintro z w2 ⟨rfl,I⟩;have A:=yw (d.out.then I);clear I;obtain⟨-,-,Y⟩:=A.out.1.RN;obtain⟨r,h8,hv,-,-⟩:=Y n x.out;have HV:=yw hv;obtain⟨s7,W,U⟩:=A.out.1.iS x.out hv;obtain⟨-,-,t2,-⟩:=(A.out.1.tk J.out).TY;have h2:=(A.out.1.tk J.out).OH
  have u:RR (w2.setCell ⟨L.tb n,2,zp⟩ (zh zq)) (L.tb n) L.gb { R with dead:=zq }:=yD (A.out.1.tk J.out);have B:=yw (A.out.then (A.out.1.AU J.out (OA.refl _ _).one u));clear Y hv u;go_wp2_with fail;obtain⟨Z,v⟩:=yB (w2.setCell ⟨L.tb n,2,zp⟩ (zh zq))
  rw[<-v]at B ⊢;clear v s7 W U t2 h2;have l:=yw (vj (t':={ R with dead:=zq }) J.out);have H:n<(X.OY n { R with dead:=zq }).ts.length:=(yy l.out).1;have C:=yw H;obtain⟨s7,W,U⟩:=B.out.1.iS H HV.out;obtain⟨Q,T,-⟩:=(B.out.1.tk l.out).TY;have hD:=B.out.1.kept (w':=Z.drew) (fun k _ _=>rfl);obtain⟨hx,-,hU⟩:=hD.dS;have s6:=B.out.1.dS.2.1;have HU:=yw hU;have HP:=yw (Pi.cP R.hi R.hg (b+2) Z.drew 0 L.pp 64 X.pool hx h4.out (by omega) (Nat.zero_le _));clear hx hU hD H;simp only at Q T
  go_region_held3 (fun w'=>w'.cell? ⟨s,6,zp⟩=zo (ptr L.pp)/\w'.cell? ⟨s,7,zp⟩=zo (zf (zo ⟨r,0,zp⟩) X.ts.length h8)/\w'.cell? ⟨r,n,zp⟩=zo (ptr (L.tb n))/\w'.cell? ⟨L.tb n,0,zp⟩=zo (zd zj R.hi)/\w'.cell? ⟨L.tb n,1,zp⟩=zo (zd zj R.hg)) (go_keep)
   (first
    | (
     go_at_call 94;refine HP.out.mono ?_;rintro z w4 ⟨rfl,q,y⟩;have D:=B.out.then (yG.NZ (⟨rfl,rfl,rfl,yA _,fun _ _=>rfl⟩:Below Z.heap.size Z Z.drew) (HU.out _ _ y q));have h5:=yw D;clear q y s7 W U Q T s6;obtain⟨s7,W,U⟩:=D.1.iS C.out HV.out;obtain⟨Q,T,-⟩:=(D.1.tk l.out).TY;have s6:=D.1.dS.2.1;simp only at Q T;clear D))
  all_goals
   go_wp2;go_ret2;exact⟨rfl,h5.out⟩
 .have M:=Ch o;have N:S.block e=(S,0,(S.OI e.a).2):=by unfold Sc.block;rw[if_neg o]
  have O:S.exit e=(S,0,(S.OI e.a).2):=by unfold Sc.exit;rw[if_neg o]
  rw[O];rw[N]at c;obtain⟨f,hf⟩:=yB ((S.OI e.a).2)
  rw[<-hf]at c o ⊢;clear h m j M N hf O;go_enter func50,ntmps50;go_wp2_with fail;rw[show w.alloc (zn (OX e) 35)=w1 from G.symm];clear G;refine c.out.mono ?_;rintro z w2 ⟨rfl,I⟩;have A:=yw (d.out.then I);clear I;go_wp2;go_ret2;exact⟨rfl,A.out⟩
def Yq(w:zu)(F:Nat->Prop)(s:Nat)(o:Out)(z:Ending)(w':zu):Prop:=∃L',z=zm (.tuple #[zd zj o.2.1,zd zj o.2.2])/\yG w F s o.1 L' w'
theorem TM.any{o:Out}{z:Ending}{w':zu}(h:TM w F s L o z w'):Yq w F s o z w':=⟨L,h.1,h.2⟩
theorem VR:(prog.info? 74).map (fun i=>(i.zero,i.size,i.bytes))=zo (zo (ze zp),1,8):=by kernel_rfl
theorem yK.iT(h:yK w F s S L):w.ownsRow 0 74 1 L.vt S.ts.length (xK (qK L.tb S.ts)):=by obtain⟨tg,h⟩:=h;have:=h.ts.row.row;rw[uA]at this;exact this
theorem yK.tyS(h:yK w F s S L):∃cs,w.heap[s]?=zo (zn cs 66 (0,0)):=by obtain⟨tg,h⟩:=h;exact h.sx.ty
theorem yK.atC(h:yK w F s S L){i:Nat}(A:i<64):w.cell? ⟨s,41+i,zp⟩=zo (zd zj ((S.at_ i:Nat):Int)):=by obtain⟨tg,h⟩:=h;exact h.sx.at_ i A
theorem yK.gO(h:yK w F s S L):F s/\∀k,L.vt.ownBlock=zo k->F k:=by obtain⟨tg,h⟩:=h;exact⟨h.sx.own.1,fun k hk=>(h.ts.row.own k hk).1⟩
theorem Bu{w':zu}{base:Nat}{e:TypeId}{A:Nat}{v:zz}{E:List zz}(h:w.ownsRow base e A v n E)(hk:∀g,v.ownBlock=zo g->w'.heap[g]?=w.heap[g]?):w'.ownsRow base e A v n E:=by
 refine⟨h.1,?_⟩;rcases h.2 with I|⟨g,B,cur,D,hb,G,H⟩
 .exact .inl I
 .exact .inr ⟨g,B,cur,D,hb,(hk g (by rw[D];rfl)).trans G,H⟩
theorem yK.iU{D:zu}{I g2 cap2 vc:Nat}{R:Option Addr}(h:yK w F s S L)(v:B<w.heap.size)(b:¬F B)(q:RR w B L.gb t)(a:L.vt=zf R n vc)(f:n=S.ts.length)
 (c:OA (fun k=>(zf R n vc).ownBlock=zo k) w D) (g:D.ownsRow 0 74 1 (zf (zo ⟨g2,0,zp⟩) (n+1) cap2) (n+1) (xK (qK L.tb S.ts)++ [ptr B])) (M:(zf R n vc).ownBlock=zo g2∨g2=w.heap.size+1) (d:I<64):
 yG w (fun k=>F k∨k=B) s { S with ts:=S.ts++ [t],at_:=OV S.at_ I S.ts.length } { L with tb:=OV L.tb S.ts.length B,vt:=zf (zo ⟨g2,0,zp⟩) (n+1) cap2 } ((D.setCell ⟨s,7,zp⟩ (zf (zo ⟨g2,0,zp⟩) (n+1) cap2)).setCell ⟨s,41+I,zp⟩ (zd zj n)):=by
 have V:=h.RZ.2;have H:=h.iT;obtain⟨cs,T⟩:=h.tyS;have J:∀k,(zf R n vc).ownBlock=zo k->k≠s:=fun k hk X=>by subst X;rw[<-a]at hk;exact yS H T (by decide) hk
 have E:D.heap[s]?=w.heap[s]?:=c.block s V fun X=>J s X rfl;have Y:g2≠s:=by
  rcases M with A|A
  .exact J g2 A
  .omega
 have N:OA (fun k=>k=s) D ((D.setCell ⟨s,7,zp⟩ (zf (zo ⟨g2,0,zp⟩) (n+1) cap2)).setCell ⟨s,41+I,zp⟩ (zd zj n)):=(OA.refl (fun k=>k=s) D).one.one;have O:OA (fun k=>k=s∨L.vt.ownBlock=zo k) w ((D.setCell ⟨s,7,zp⟩ (zf (zo ⟨g2,0,zp⟩) (n+1) cap2)).setCell ⟨s,41+I,zp⟩ (zd zj n)):=by rw[a];exact(c.mono (G:=fun k=>k=s∨(zf R n vc).ownBlock=zo k) fun k hk=>.inr hk).trans N fun k hk=>.inl (.inl hk)
 have p:g2<D.heap.size:=(g.lt g2 rfl).2;have U:((D.setCell ⟨s,7,zp⟩ (zf (zo ⟨g2,0,zp⟩) (n+1) cap2)).setCell ⟨s,41+I,zp⟩ (zd zj n)).ownsRow 0 74 1 (zf (zo ⟨g2,0,zp⟩) (n+1) cap2) (S.ts.length+1) (xK (qK L.tb S.ts++ [zo B])):=by rw[show xK (qK L.tb S.ts++ [zo B])=xK (qK L.tb S.ts)++ [ptr B]by simp[xK],<-f];refine Bu g fun k hk=>?_;obtain rfl:g2=k:=zx hk;exact N.block g2 p Y
 have r:=h.pushT (B:=B) (I:=I) (t:=t) (v':=zf (zo ⟨g2,0,zp⟩) (n+1) cap2) v b q O U (fun k hk=>by
  obtain rfl:g2=k:=zx hk;rw[a];rcases M with A|A
  .exact .inl A
  .exact .inr (by omega)) ⟨_,yD (yD (E.trans T))⟩ (by
  have m:D.cell? ⟨s,7,zp⟩=zo L.vt:=by have:=h.RN.2.1;rw[<-this];simp[zN,E]
  rw[zB _ _ _ _ (by intro e;injection e with e1 e2;omega)];exact World.cell?_setCell_same _ _ _ m) (by
  have Z:D.cell? ⟨s,41+I,zp⟩=zo (zd zj ((S.at_ I:Nat):Int)):=by rw[<-h.atC d];simp[zN,E]
  rw[<-f];exact World.cell?_setCell_same _ _ _ (u:=zd zj ((S.at_ I:Nat):Int)) (by rw[zB _ _ _ _ (by intro e;injection e with e1 e2;omega)];exact Z)) (fun j A l=>by
  have h3:7≠j:=fun e=>A e.symm;have h4:41+I≠j:=fun e=>l e.symm;have:D.cell? ⟨s,j,zp⟩=w.cell? ⟨s,j,zp⟩:=by simp[zN,E]
  rw[zB _ _ _ _ (by intro e;injection e with e1 e2;omega),zB _ _ _ _ (by intro e;injection e with e1 e2;omega),this]) d
 refine⟨r.mono fun k hk o=>?_,O.mono fun k hk=>.inl ?_⟩
 .rcases o with(A|A)|A
  .exact .inl (.inl A)
  .exact .inr A
  .exact .inl (.inr A)
 .rcases hk with A|A
  .subst A;exact h.gO.1
  .exact h.gO.2 k A
theorem Bv{ps:Nat}{tick gran credit lat:Int}{g:Gp}(h:(Sc.new ps tick gran credit lat).gs[n]?=zo g):n=0/\g=root:=by
 have A:=(yy h).1;have B:n=0:=by simp[Sc.new]at A;exact A
 subst B;exact⟨rfl,(zx h).symm⟩
theorem JR(ps:Nat)(tick gran credit lat:Int)(R:1<=ps/\ps<=64)(M:1<=tick/\tick<=1000000000)(U:0<=credit/\credit<=1000000000)(J:1<=lat/\lat<=1000000000):(Sc.new ps tick gran credit lat).Fit 0:=by
 have H:∀(n:Nat) (t:Tk),(Sc.new ps tick gran credit lat).ts[n]?=zo t->False:=fun n t h=>by simp[Sc.new]at h
 have I:∀k z,(Hm.new credit gran).gs k=zo z->k=0:=fun k z E=>by
  simp only[Hm.new]at E;split at E
  .assumption
  .cases E
 refine⟨⟨by omega,R,M,U,J,MX,MY.more,(Pi.Ps.Ok.start 64 (by omega)).more.more,by simp[Sc.new],by simp[Sc.new],⟨root,rfl,rfl,rfl,rfl,rfl⟩,?_,?_,?_,?_,fun n t h=>(H n t h).elim,fun n t h=>(H n t h).elim,?_,?_,fun _ _=>rfl,fun _ _=>FD credit gran,?_,?_,?_⟩,fun _ _=>(QO credit gran).1⟩
 .intro n g D _;obtain⟨rfl,rfl⟩:=Bv D;exact⟨⟨_,rfl,rfl,rfl⟩,rfl⟩
 .intro i n V;have A:(if i=0 then zo 0 else zp)=zo n:=V;split at A
  .rename_i e;obtain rfl:=zx A;exact⟨root,rfl,rfl,e.symm⟩
  .cases A
 .intro i q O hu;have T:i=0:=by have:=(yy O).1;simp[Sc.new,eY]at this;exact this
  subst T;exact⟨0,rfl⟩
 .intro n g D _ B;exact absurd (Bv D).1 B
 .intro p G i;show((Hm.new credit gran).gs i).isSome=(if i=0 then zo 0 else zp:Option Nat).isSome;unfold Hm.new;by_cases e:i=0
  .simp[e]
  .simp[e]
 .intro p G i x X B;exact absurd (I i x X) B
 .intro p G i k;constructor
  .intro h;exact absurd h ((QO credit gran).2 i k)
  .rintro⟨n,t,g,N,_⟩;exact(H n t N).elim
 .intro p G;exact⟨⟨by show(1:Int)<=lat/\lat<=1000000000;exact J,by show(-1:Int)<= -1/\(-1:Int)<=1000000;omega,by show(0:Int)<=0/\(0:Int)<=_;omega,by show(0:Int)<=0/\(0:Int)<=_;omega,by show(0:Int)<=0/\(0:Int)<=_;omega⟩,rfl⟩
 .exact⟨fun _=>⟨Int.le_refl _,Int.le_refl _⟩,fun _=>⟨Int.le_refl _,Int.le_refl _⟩,by show(0:Int)<=0/\(0:Int)<=_;omega,by show 0<=13*0;omega⟩
structure SB(w:zu)(F:Nat->Prop)(s:Nat)(S:Sc)(L:Lay)(tg:Nat->Nat)(n m:Nat):Prop where
 sx:Sx w (Own F tg 0) s S L
 ts:AM w (Own F tg 1) L.tb L.gb L.vt S.ts
 gs:TU w (Own F tg 2) L.gb L.bb L.lb L.vg S.gs
 bs:TZ w (Own F tg 3) L.bb S.gs
 ls:AB w (Own F tg 4) L.lb S.gs
 cs:AC w (Own F tg 5) L.cb L.vc m S.cs
 tr:xt w (Own F tg 6) L.t L.tp S.tree
 po:xy w (Own F tg 7) L.pp S.pool
 bk:xj w (Own F tg 8) L.bk S.book
 vh:qW w (Own F tg 0) 99 L.vh (xP L.hb n)
 hs:∀p,p<n->yT w (Own F tg (p+9)) (L.hb p) (S.hs p)
theorem SB.done(h:SB w F s S L tg S.ps S.ps):yK w F s S L:=⟨tg,h.sx,h.ts,h.gs,h.bs,h.ls,h.cs,h.tr,h.po,h.bk,h.vh,h.hs⟩
theorem xv{X:zu->(Nat->Prop)->Prop}(hk:∀{w w':zu} {G:Nat->Prop},X w G->xz G w w'->X w' G)(E:∀{w:zu} {G H:Nat->Prop},X w G->(∀k,k<w.heap.size->G k->H k)->X w H)
 {w':zu}   {d c:Nat} (h:X w (Own F tg d)) (B:∀k,k<w.heap.size->Own F tg d k->w'.heap[k]?=w.heap[k]?):X w' (Own F (yV tg w c) d):=
 E (hk (E h (fun k D A=>(⟨A,D⟩:Own F tg d k/\k<w.heap.size))) (fun k D A=>B k A.2 A.1)) fun k D A=>⟨A.1.1,by unfold yV;rw[if_pos A.2];exact A.1.2⟩
theorem SB.same{w':zu}(h:SB w F s S L tg n m)(hb:Below w.heap.size w w')(c:Nat):SB w' F s S L (yV tg w c) n m:=by
 have e:∀d k,k<w.heap.size->Own F tg d k->w'.heap[k]?=w.heap[k]?:=fun d k hk _=>hb.block k hk;exact⟨xv (X:=fun w G=>Sx w G s S L) Sx.kept Sx.mono h.sx (e 0),xv (X:=fun w G=>AM w G L.tb L.gb L.vt S.ts) AM.kept AM.mono h.ts (e 1),xv (X:=fun w G=>TU w G L.gb L.bb L.lb L.vg S.gs) TU.kept TU.mono h.gs (e 2),xv (X:=fun w G=>TZ w G L.bb S.gs) TZ.kept TZ.mono h.bs (e 3),
  xv (X:=fun w G=>AB w G L.lb S.gs) AB.kept AB.mono h.ls (e 4),xv (X:=fun w G=>AC w G L.cb L.vc m S.cs) AC.kept AC.mono h.cs (e 5),xv (X:=fun w G=>xt w G L.t L.tp S.tree) xt.kept xt.mono h.tr (e 6),xv (X:=fun w G=>xy w G L.pp S.pool) xy.kept xy.mono h.po (e 7),
  xv (X:=fun w G=>xj w G L.bk S.book) xj.kept xj.mono h.bk (e 8),xv (X:=fun w G=>qW w G 99 L.vh (xP L.hb n)) qW.kept qW.mono h.vh (e 0),fun p A=>xv (X:=fun w G=>yT w G (L.hb p) (S.hs p)) yT.kept yT.mono (h.hs p A) (e (p+9))⟩
theorem Ia(f:Nat->Nat)(n B:Nat):xP (OV f n B) (n+1)=xP f n++ [zo B]:=by
 unfold xP;rw[List.range_succ,List.map_append]
 congr 1
 .refine List.map_congr_left fun k hk=>?_;rw[yQ _ _ (by have:=List.mem_range.1 hk;omega)]
 .simp[yR]
theorem SB.addH{w':zu}{v':zz}(h:SB w F s S L tg n m)(V:∀k,w.heap.size<=k->F k)(Z:yT w (Own F tg (n+9)) B (S.hs n))
 (U:OA (fun k=>k=s∨L.vh.ownBlock=zo k) w w') (M:w'.ownsRow 0 99 1 v' (n+1) (xK (xP L.hb n++ [zo B])))
 (D:∀g,v'.ownBlock=zo g->L.vh.ownBlock=zo g∨w.heap.size<=g) (hs:∃cs,w'.heap[s]?=zo (zn cs 66 (0,0)))
 (Y:w'.cell? ⟨s,105,zp⟩=zo v') (A:∀j,j≠105->w'.cell? ⟨s,j,zp⟩=w.cell? ⟨s,j,zp⟩):
 SB w' F s S { L with hb:=OV L.hb n B,vh:=v' } (yV tg w 0) (n+1) m:=by
 have N:Own F tg 0 s:=h.sx.own;have H:∀k,L.vh.ownBlock=zo k->Own F tg 0 k:=h.vh.own;have e:∀d,d≠0->∀k,k<w.heap.size->Own F tg d k->w'.heap[k]?=w.heap[k]?:=fun d T k hk I=>U.block k hk (by
  rintro(e|e)
  .subst e;exact T (I.2.symm.trans N.2)
  .exact T (I.2.symm.trans (H k e).2))
 have J:∀d k,k<w.heap.size->Own F tg d k->Own F (yV tg w 0) d k:=fun d k hk I=>⟨I.1,by unfold yV;rw[if_pos hk];exact I.2⟩
 refine⟨?_,xv (X:=fun w G=>AM w G L.tb L.gb L.vt S.ts) AM.kept AM.mono h.ts (e 1 (by omega)),xv (X:=fun w G=>TU w G L.gb L.bb L.lb L.vg S.gs) TU.kept TU.mono h.gs (e 2 (by omega)),xv (X:=fun w G=>TZ w G L.bb S.gs) TZ.kept TZ.mono h.bs (e 3 (by omega)),
  xv (X:=fun w G=>AB w G L.lb S.gs) AB.kept AB.mono h.ls (e 4 (by omega)),xv (X:=fun w G=>AC w G L.cb L.vc m S.cs) AC.kept AC.mono h.cs (e 5 (by omega)),xv (X:=fun w G=>xt w G L.t L.tp S.tree) xt.kept xt.mono h.tr (e 6 (by omega)),xv (X:=fun w G=>xy w G L.pp S.pool) xy.kept xy.mono h.po (e 7 (by omega)),
  xv (X:=fun w G=>xj w G L.bk S.book) xj.kept xj.mono h.bk (e 8 (by omega)),?_,fun p hp=>?_⟩
 .exact⟨hs,J 0 s h.sx.lt N,(A _ (by omega)).trans h.sx.c0,(A _ (by omega)).trans h.sx.c1,(A _ (by omega)).trans h.sx.c2,(A _ (by omega)).trans h.sx.c3,(A _ (by omega)).trans h.sx.c4,(A _ (by omega)).trans h.sx.c5,(A _ (by omega)).trans h.sx.c6,(A _ (by omega)).trans h.sx.c7,(A _ (by omega)).trans h.sx.c8,fun i R=>(A _ (by omega)).trans (h.sx.pl i R),fun i R=>(A _ (by omega)).trans (h.sx.at_ i R),Y,(A _ (by omega)).trans h.sx.vc,(A _ (by omega)).trans h.sx.bk⟩
 .show qW w' _ _ v' (xP (OV L.hb n B) (n+1));rw[Ia];refine⟨by rw[show(xP L.hb n++ [zo B]).length=n+1 by simp[xP]];exact M,fun k hk=>?_⟩;rcases D k hk with O|O
  .exact J 0 k (h.vh.row.lt k O).2 (H k O)
  .exact⟨V k O,by unfold yV;rw[if_neg (by omega)]⟩
 .show yT w' (Own F (yV tg w 0) (p+9)) (OV L.hb n B p) (S.hs p);by_cases E:p=n
  .subst E;rw[yR];exact xv (X:=fun w G=>yT w G B (S.hs p)) yT.kept yT.mono Z (e (p+9) (by omega))
  .rw[yQ _ _ E];exact xv (X:=fun w G=>yT w G (L.hb p) (S.hs p)) yT.kept yT.mono (h.hs p (by omega)) (e (p+9) (by omega))
theorem SB.addC{w':zu}{v':zz}(h:SB w F s S L tg n m)(K:∀k,w.heap.size<=k->F k)(u:xO w B (S.cs m))(M:Own F tg 5 B)(T:∀p,p<m->L.cb p≠B)
 (f:OA (fun k=>k=s∨L.vc.ownBlock=zo k) w w') (U:w'.ownsRow 0 107 1 v' (m+1) (xK (xP L.cb m++ [zo B])))
 (J:∀g,v'.ownBlock=zo g->L.vc.ownBlock=zo g∨w.heap.size<=g) (hs:∃cs,w'.heap[s]?=zo (zn cs 66 (0,0)))
 (b:w'.cell? ⟨s,106,zp⟩=zo v') (A:∀j,j≠106->w'.cell? ⟨s,j,zp⟩=w.cell? ⟨s,j,zp⟩):
 SB w' F s S { L with cb:=OV L.cb m B,vc:=v' } (yV tg w 5) n (m+1):=by
 have I:Own F tg 0 s:=h.sx.own;have H:∀k,L.vc.ownBlock=zo k->Own F tg 5 k:=h.cs.row.own;have e:∀d,d≠0->d≠5->∀k,k<w.heap.size->Own F tg d k->w'.heap[k]?=w.heap[k]?:=fun d z C k hk O=>f.block k hk (by
  rintro(e|e)
  .subst e;exact z (O.2.symm.trans I.2)
  .exact C (O.2.symm.trans (H k e).2))
 have E:∀d k,k<w.heap.size->Own F tg d k->Own F (yV tg w 5) d k:=fun d k hk O=>⟨O.1,by unfold yV;rw[if_pos hk];exact O.2⟩
 have V:∀{p:Nat} {c:Ck},xO w p c->Own F tg 5 p->w'.heap[p]?=w.heap[p]?:=fun{p c} Y y=>f.block p Y.lt (by
  rintro(e|e)
  .rw[e]at y;have:=y.2;have:=I.2;omega
  .exact yS h.cs.row.row (show w.heap[p]?=zo (zn _ _ _)from Y) (by decide) e)
 refine⟨?_,xv (X:=fun w G=>AM w G L.tb L.gb L.vt S.ts) AM.kept AM.mono h.ts (e 1 (by omega) (by omega)),xv (X:=fun w G=>TU w G L.gb L.bb L.lb L.vg S.gs) TU.kept TU.mono h.gs (e 2 (by omega) (by omega)),xv (X:=fun w G=>TZ w G L.bb S.gs) TZ.kept TZ.mono h.bs (e 3 (by omega) (by omega)),
  xv (X:=fun w G=>AB w G L.lb S.gs) AB.kept AB.mono h.ls (e 4 (by omega) (by omega)),?_,xv (X:=fun w G=>xt w G L.t L.tp S.tree) xt.kept xt.mono h.tr (e 6 (by omega) (by omega)),xv (X:=fun w G=>xy w G L.pp S.pool) xy.kept xy.mono h.po (e 7 (by omega) (by omega)),
  xv (X:=fun w G=>xj w G L.bk S.book) xj.kept xj.mono h.bk (e 8 (by omega) (by omega)),?_,fun p x=>xv (X:=fun w G=>yT w G (L.hb p) (S.hs p)) yT.kept yT.mono (h.hs p x) (e (p+9) (by omega) (by omega))⟩
 .exact⟨hs,E 0 s h.sx.lt I,(A _ (by omega)).trans h.sx.c0,(A _ (by omega)).trans h.sx.c1,(A _ (by omega)).trans h.sx.c2,(A _ (by omega)).trans h.sx.c3,(A _ (by omega)).trans h.sx.c4,(A _ (by omega)).trans h.sx.c5,(A _ (by omega)).trans h.sx.c6,(A _ (by omega)).trans h.sx.c7,(A _ (by omega)).trans h.sx.c8,fun i r=>(A _ (by omega)).trans (h.sx.pl i r),fun i r=>(A _ (by omega)).trans (h.sx.at_ i r),(A _ (by omega)).trans h.sx.vh,b,(A _ (by omega)).trans h.sx.bk⟩
 .refine⟨?_,fun p x=>?_,fun a c ha Y W=>?_⟩
  .show qW w' _ _ v' (xP (OV L.cb m B) (m+1));rw[Ia];refine⟨by rw[show(xP L.cb m++ [zo B]).length=m+1 by simp[xP]];exact U,fun k hk=>?_⟩;rcases J k hk with Z|Z
   .exact E 5 k (h.cs.row.row.lt k Z).2 (H k Z)
   .exact⟨K k Z,by unfold yV;rw[if_neg (by omega)]⟩
  .show Own F (yV tg w 5) 5 (OV L.cb m B p)/\xO w' (OV L.cb m B p) (S.cs p);by_cases N:p=m
   .subst N;rw[yR];exact⟨E 5 B u.lt M,u.of (V u M)⟩
   .rw[yQ _ _ N];obtain⟨o,k⟩:=h.cs.ck p (by omega);exact⟨E 5 _ k.lt o,k.of (V k o)⟩
  .have D:OV L.cb m B a=OV L.cb m B c:=W;unfold OV at D;split at D
   .split at D
    .omega
    .exact absurd D.symm (T c (by omega))
   .split at D
    .exact absurd D (T a (by omega))
    .exact h.cs.inj a c (by omega) (by omega) D
 .refine⟨⟨h.vh.row.1,?_⟩,fun k hk=>E 0 k (h.vh.row.lt k hk).2 (h.vh.own k hk)⟩;rcases h.vh.row.2 with Q|⟨g,l,cur,b,hb,R,P⟩
  .exact .inl Q
  .refine .inr ⟨g,l,cur,b,hb,?_,P⟩;have v:=(yx R).1;have q:=h.vh.own g (by rw[b];rfl);rw[f.block g v ?_];exact R;rintro(e|e)
   .obtain⟨cs,Y⟩:=h.sx.ty;rw[e,Y]at R;simp only[ya,yo]at R;exact absurd R.2.1 (by decide)
   .have:=(H g e).2;have:=q.2;omega
theorem VS{base t B:Nat}{x:Ps}(h:PQ w base t B x):xt w (fun k=>base<=k/\k<w.heap.size) t B x:=by obtain⟨v,A⟩:=h.has;exact⟨⟨h.tb,⟨v,A.RO,vV A.own (Nat.zero_le _),A.ne,Nat.zero_le _⟩,Nat.zero_le _⟩,⟨h.lo,h.lt⟩,⟨A.lo,A.lt⟩,fun z D=>A.own.lt z (A.rowIs D)⟩
def vy(n:Nat)(tick gran credit lat:Int)(t p:Option Nat)(A:Nat):Array zz:=
 (([zd zj n,zd zj tick,zd zj gran,zd zj credit,zd zk lat,ze (t.map fun b=>⟨b,0,zp⟩),ze (p.map fun b=>⟨b,0,zp⟩),zf zp 0 0,zf zp 0 0]:List zz)++(ye 32 (ze zp)++(ye 64 (zd zj 0)++([zf zp 0 0,zf zp 0 0,ptr A]:List zz)))).toArray
theorem VT(n:Nat)(tick gran credit lat:Int)(t p:Option Nat)(A i:Nat)(hi:i<32):(vy n tick gran credit lat t p A)[9+i]?=zo (ze zp):=by unfold vy;rw[List.getElem?_toArray,zV (by simp),zF (by simp;omega),List.getElem?_replicate,if_pos (by simp;omega)]
theorem VU(n:Nat)(tick gran credit lat:Int)(t p:Option Nat)(A i:Nat)(hi:i<64):(vy n tick gran credit lat t p A)[41+i]?=zo (zd zj 0):=by unfold vy;rw[List.getElem?_toArray,zV (by simp;omega),zV (by simp;omega),zF (by simp;omega),List.getElem?_replicate,if_pos (by simp;omega)]
theorem XF(w:zu)(g b:Nat)(e:TypeId)(h:w.heap[g]?=zo (zn #[ptr b] e (0,0))):w.ownsRow 0 e 1 (zf (zo ⟨g,0,zp⟩) 1 1) 1 [ptr b]:=
 ⟨rfl,.inr ⟨g,1,#[ptr b],rfl,Nat.zero_le _,h,by omega,by unfold maxLen;omega,rfl,rfl⟩⟩
theorem FW{w1 M B:zu}{tick gran credit lat:Int}{t Z X E:Nat}(h1:w.heap.size<=w1.heap.size)(J:w1.heap.size<=E/\E<=s)(x:xt M (fun k=>w1.heap.size<=k/\k<E) t Z eY)(hB:xj M (fun k=>E<=k/\k<s) X Bk.new)(h0:M.heap.size=s+1)
 (Q:M.heap[s]?=zo (zn (vy n tick gran credit lat (zo t) zp X) 66 (0,0))) (l:OA (fun k=>k=s) M B)
 (T:B.heap[s+1]?=zo (zn #[zd zj 64,zd zj 0,zf zp 0 0,zd zj (-1)] 147 (0,0))) (P:B.heap[s+2]?=zo (zn #[zd zj 0,zd zj 0,zd zj 0,zd zk 0,zd zj 0,ze zp,ze zp] 86 (0,0))) (u:B.heap[s+3]?=zo (zn #[ptr (s+2)] 59 (0,0)))
 (hs:∃cs,B.heap[s]?=zo (zn cs 66 (0,0))) (S:B.cell? ⟨s,6,zp⟩=zo (ptr (s+1))) (K:B.cell? ⟨s,8,zp⟩=zo (zf (zo ⟨s+3,0,zp⟩) 1 1)) (h9:B.cell? ⟨s,9,zp⟩=zo (ptr (s+2))) (A:∀j,j≠6->j≠8->j≠9->B.cell? ⟨s,j,zp⟩=M.cell? ⟨s,j,zp⟩):
 ∃L tg,SB B (fun k=>w.heap.size<=k) s (Sc.new n tick gran credit lat) L tg 0 0/\L.t=t:=by
 have D:∀j v,(vy n tick gran credit lat (zo t) zp X)[j]?=zo v->M.cell? ⟨s,j,zp⟩=zo v:=fun j v Y=>by simp[zN,Q,Y]
 obtain⟨tg,H⟩:∃tg:Nat->Nat,tg=fun k=>if k<E then 6 else if k<s then 8 else if k=s then 0 else if k=s+1 then 7 else 2:=⟨_,rfl⟩
 have W:Own (fun k=>w.heap.size<=k) tg 0 s:=⟨by show w.heap.size<=s;omega,by rw[H];show(if s<E then 6 else if s<s then 8 else if s=s then 0 else _)=0;rw[if_neg (by omega),if_neg (by omega),if_pos rfl]⟩
 have o:∀k,s+2<=k->Own (fun k=>w.heap.size<=k) tg 2 k:=fun k hk=>⟨by show w.heap.size<=k;omega,by rw[H];show(if k<E then 6 else if k<s then 8 else if k=s then 0 else if k=s+1 then 7 else 2)=2;rw[if_neg (by omega),if_neg (by omega),if_neg (by omega),if_neg (by omega)]⟩
 have C:Own (fun k=>w.heap.size<=k) tg 7 (s+1):=⟨by show w.heap.size<=s+1;omega,by rw[H];show(if s+1<E then 6 else if s+1<s then 8 else if s+1=s then 0 else if s+1=s+1 then 7 else 2)=7;rw[if_neg (by omega),if_neg (by omega),if_neg (by omega),if_pos rfl]⟩
 have r:∀k,w1.heap.size<=k/\k<E->Own (fun k=>w.heap.size<=k) tg 6 k:=fun k hk=>⟨by show w.heap.size<=k;omega,by rw[H];show(if k<E then 6 else _)=6;rw[if_pos hk.2]⟩
 have F:∀k,E<=k/\k<s->Own (fun k=>w.heap.size<=k) tg 8 k:=fun k hk=>⟨by show w.heap.size<=k;omega,by rw[H];show(if k<E then 6 else if k<s then 8 else _)=8;rw[if_neg (by omega),if_pos hk.2]⟩
 have f:xt B (Own (fun k=>w.heap.size<=k) tg 6) t Z eY:=(x.kept fun k hk U=>l.block k hk (by omega)).mono fun k _ U=>r k U;have h:xj B (Own (fun k=>w.heap.size<=k) tg 8) X Bk.new:=(hB.kept fun k hk U=>l.block k hk (by omega)).mono fun k _ U=>F k U;have I:∀(c:Nat) (e:TypeId),qW B (Own (fun k=>w.heap.size<=k) tg c) e (zf zp 0 0) []:=fun c e=>⟨ym _ _ _ _,fun k hk=>by simp[zX]at hk⟩
 have R:∀m,m<(Sc.new n tick gran credit lat).gs.length->m=0:=fun m q=>by simp[Sc.new]at q;exact q
 refine⟨⟨fun _=>0,fun _=>s+2,fun _=>0,fun _=>0,fun _=>0,fun _=>0,t,Z,s+1,X,zf zp 0 0,zf (zo ⟨s+3,0,zp⟩) 1 1,zf zp 0 0,zf zp 0 0⟩,tg,⟨?_,?_,?_,?_,?_,?_,f,?_,h,I 0 _,fun p T=>absurd T (by omega)⟩,rfl⟩
 .refine⟨hs,W,(A 0 (by omega) (by omega) (by omega)).trans (D 0 _ rfl),(A 1 (by omega) (by omega) (by omega)).trans (D 1 _ rfl),(A 2 (by omega) (by omega) (by omega)).trans (D 2 _ rfl),(A 3 (by omega) (by omega) (by omega)).trans (D 3 _ rfl),(A 4 (by omega) (by omega) (by omega)).trans (D 4 _ rfl),(A 5 (by omega) (by omega) (by omega)).trans (D 5 _ rfl),S,(A 7 (by omega) (by omega) (by omega)).trans (D 7 _ rfl),K,fun i d=>?_,fun i d=>?_,(A 105 (by omega) (by omega) (by omega)).trans (D 105 _ rfl),(A 106 (by omega) (by omega) (by omega)).trans (D 106 _ rfl),(A 107 (by omega) (by omega) (by omega)).trans (D 107 _ rfl)⟩
  .show _=zo (ze ((if i=0 then zo 0 else zp).map fun n=>⟨s+2,0,zp⟩));by_cases e:i=0
   .subst e;exact h9
   .rw[if_neg e];exact(A (9+i) (by omega) (by omega) (by omega)).trans (D _ _ (VT _ _ _ _ _ _ _ _ i d))
  .exact(A (41+i) (by omega) (by omega) (by omega)).trans (D _ _ (VU _ _ _ _ _ _ _ _ i d))
 .exact⟨I 1 _,fun m y O=>by simp[Sc.new]at O,fun a c J=>absurd J (by simp[Sc.new])⟩
 .refine⟨⟨XF B (s+3) (s+2) _ u,fun k hk=>?_⟩,fun m y O=>?_,fun a c J G _=>by rw[R a J,R c G]⟩
  .obtain rfl:s+3=k:=zx hk;exact o _ (by omega)
  .obtain⟨rfl,rfl⟩:=Bv O;exact⟨o _ (yA _),P⟩
 .exact⟨(fun m y b O N=>by obtain⟨_,rfl⟩:=Bv O;cases N),fun a c J G _=>by rw[R a J,R c G]⟩
 .exact⟨(fun m y O N=>by obtain⟨_,rfl⟩:=Bv O;cases N),fun a c J G _=>by rw[R a J,R c G]⟩
 .exact⟨I 5 _,fun p T=>absurd T (by omega),fun a c J=>absurd J (by omega)⟩
 .refine⟨⟨zf zp 0 0,T,ym _ _ _ _,by simp[zX],Nat.zero_le _⟩,C,fun z g=>?_⟩;obtain⟨v,Y,V⟩:=g;have:B.cell? ⟨s+1,2,zp⟩=zo (zf zp 0 0):=by simp[zN,T]
  rw[this]at Y;obtain rfl:=zx Y;simp[zX]at V
def Vd(A:zu)(s:Nat):zu:=((((A.setCell ⟨s,6,zp⟩ (ptr (s+1))).setCell ⟨s,8,zp⟩ (zf (zo ⟨s+2+1,0,zp⟩) 1 1)).setCell ⟨s,9,zp⟩ (ptr (s+2))).alloc (zn #[zd zj 0,zd zj 0,zd zj 0,zd zk 0,zd zj 0,ze zp,ze zp] 86)).alloc (zn #[ptr (s+2)] 59)
theorem VV{w1 R G A:zu}{tick gran credit lat:Int}{t Q l:Nat}(z:w.heap.size<=w1.heap.size)(a:Below w1.heap.size w1 R)(X:Below R.heap.size R G)(P:xt R (fun k=>w1.heap.size<=k/\k<R.heap.size) t Q eY)(W:xj G (fun k=>R.heap.size<=k/\k<G.heap.size) l Bk.new)(hs:s=G.heap.size)
 (I:(G.alloc (zn (vy n tick gran credit lat (zo t) zp l) 66)).alloc (zn #[zd zj 64,zd zj 0,zf zp 0 0,zd zj (-1)] 147)=A):
 (∃L tg,SB (Vd A s) (fun k=>w.heap.size<=k) s (Sc.new n tick gran credit lat) L tg 0 0/\L.t=t)/\Below w1.heap.size w1 (Vd A s):=by
 obtain⟨B,J⟩:=yB (G.alloc (zn (vy n tick gran credit lat (zo t) zp l) 66))
 rw[<-J]at I;have g:Below G.heap.size G B:=by rw[J];exact yE G _
 have Z:B.heap.size=s+1:=by rw[J,hs];simp
 have T:B.heap[s]?=zo (zn (vy n tick gran credit lat (zo t) zp l) 66 (0,0)):=by rw[J,hs];exact heap_alloc_new G _
 have q:A.heap.size=s+2:=by rw[<-I];simp[Z]
 have f:Below B.heap.size B A:=by rw[<-I];exact yE B _
 have o:=(f.block s (by omega)).trans T;have v:A.heap[s+1]?=zo (zn #[zd zj 64,zd zj 0,zf zp 0 0,zd zj (-1)] 147 (0,0)):=by rw[<-I,<-Z];exact heap_alloc_new B _
 have Y:OA (fun k=>k=s) A (((A.setCell ⟨s,6,zp⟩ (ptr (s+1))).setCell ⟨s,8,zp⟩ (zf (zo ⟨s+2+1,0,zp⟩) 1 1)).setCell ⟨s,9,zp⟩ (ptr (s+2))):=(((OA.refl (fun k=>k=s) A).setCell (p:=⟨s,6,zp⟩) (.inl rfl) _).setCell (p:=⟨s,8,zp⟩) (.inl rfl) _).setCell (p:=⟨s,9,zp⟩) (.inl rfl) _;obtain⟨D,M⟩:=yB (((A.setCell ⟨s,6,zp⟩ (ptr (s+1))).setCell ⟨s,8,zp⟩ (zf (zo ⟨s+2+1,0,zp⟩) 1 1)).setCell ⟨s,9,zp⟩ (ptr (s+2)))
 rw[<-M]at Y;have b:D.heap.size=s+2:=by rw[M];simp[q]
 have c:=yD (i:=9) (u:=ptr (s+2)) (yD (i:=8) (u:=zf (zo ⟨s+2+1,0,zp⟩) 1 1) (yD (i:=6) (u:=ptr (s+1)) o));rw[<-M]at c;have F:Vd A s=(D.alloc (zn #[zd zj 0,zd zj 0,zd zj 0,zd zk 0,zd zj 0,ze zp,ze zp] 86)).alloc (zn #[ptr (s+2)] 59):=by rw[M];rfl
 rw[F];obtain⟨U,H⟩:=yB ((D.alloc (zn #[zd zj 0,zd zj 0,zd zj 0,zd zk 0,zd zj 0,ze zp,ze zp] 86)).alloc (zn #[ptr (s+2)] 59))
 have V:Below D.heap.size D U:=by rw[H];exact(yE D _).alloc (by simp) _
 have m:U.heap[s+2]?=zo (zn #[zd zj 0,zd zj 0,zd zj 0,zd zk 0,zd zj 0,ze zp,ze zp] 86 (0,0)):=by rw[H,<-b];exact(Below.heap_alloc _ _ _ (by simp)).trans (heap_alloc_new D _)
 have r:U.heap[s+3]?=zo (zn #[ptr (s+2)] 59 (0,0)):=by have h:=heap_alloc_new (D.alloc (zn #[zd zj 0,zd zj 0,zd zj 0,zd zk 0,zd zj 0,ze zp,ze zp] 86)) (zn #[ptr (s+2)] 59);rw[show(D.alloc (zn #[zd zj 0,zd zj 0,zd zj 0,zd zk 0,zd zj 0,ze zp,ze zp] 86)).heap.size=s+3 by simp[b]]at h;rw[H];exact h
 rw[<-H];have N:Below R.heap.size R B:=yC X g X.size;have d:=a.size;have h0:=X.size;have E:=(V.block s (by omega)).trans c;have O:OA (fun k=>k=s) B U:=((OA.NZ f:OA (fun k=>k=s) B A).trans Y fun x y=>.inl y).trans (OA.NZ V:OA (fun k=>k=s) D U) fun x y=>.inl y;refine⟨FW z ⟨d,by omega⟩ (P.kept (.NZ N)) ((W.kept (.NZ g)).mono fun k _ hk=>⟨hk.1,by omega⟩) Z T O ((V.block (s+1) (by omega)).trans ((Y.block (s+1) (by omega) (by omega)).trans v)) m r ⟨_,E⟩ ?_ ?_ ?_ ?_,?_⟩
 .simp[zN,E,vy]
 .simp[zN,E,vy]
 .simp[zN,E,vy]
 .intro j K C S;simp only[zN,E,T];rw[Array.getElem?_setIfInBounds_ne (Ne.symm S),Array.getElem?_setIfInBounds_ne (Ne.symm C),Array.getElem?_setIfInBounds_ne (Ne.symm K)]
 .exact(yC a N d).trans (O.below (by omega) fun k hk=>by rw[hk];omega)
theorem SB.stepH{A:zu}{g2 cap2:Nat}(h:SB w F s S L tg n m)(Y:∀k,w.heap.size<=k->F k)(c:yT w (Own F tg (n+9)) B (S.hs n))
 (U:OA (fun k=>L.vh.ownBlock=zo k) w A) (X:A.ownsRow 0 99 1 (zf (zo ⟨g2,0,zp⟩) (n+1) cap2) (n+1) (xK (xP L.hb n)++ [ptr B])) (H:L.vh.ownBlock=zo g2∨w.heap.size<=g2):
 SB (A.setCell ⟨s,105,zp⟩ (zf (zo ⟨g2,0,zp⟩) (n+1) cap2)) F s S { L with hb:=OV L.hb n B,vh:=zf (zo ⟨g2,0,zp⟩) (n+1) cap2 } (yV tg w 0) (n+1) m/\OA (fun k=>k=s∨L.vh.ownBlock=zo k) w (A.setCell ⟨s,105,zp⟩ (zf (zo ⟨g2,0,zp⟩) (n+1) cap2)):=by
 obtain⟨cs,M⟩:=h.sx.ty;have O:=h.sx.lt;have E:∀k,L.vh.ownBlock=zo k->k≠s:=fun k hk R=>by subst R;exact yS h.vh.row M (by decide) hk
 have D:A.heap[s]?=w.heap[s]?:=U.block s O fun R=>E s R rfl;have T:g2≠s:=by
  rcases H with V|V
  .exact E g2 V
  .omega
 have a:=yD (i:=105) (u:=zf (zo ⟨g2,0,zp⟩) (n+1) cap2) (D.trans M);have Z:g2<A.heap.size:=(X.lt g2 rfl).2;have I:OA (fun k=>k=s) A (A.setCell ⟨s,105,zp⟩ (zf (zo ⟨g2,0,zp⟩) (n+1) cap2)):=(OA.refl (fun k=>k=s) A).setCell (p:=⟨s,105,zp⟩) (.inl rfl) _;have J:OA (fun k=>k=s∨L.vh.ownBlock=zo k) w (A.setCell ⟨s,105,zp⟩ (zf (zo ⟨g2,0,zp⟩) (n+1) cap2)):=
  (U.mono (G:=fun k=>k=s∨L.vh.ownBlock=zo k) fun k hk=>.inr hk).trans I fun k hk=>.inl (.inl hk)
 have N:(A.setCell ⟨s,105,zp⟩ (zf (zo ⟨g2,0,zp⟩) (n+1) cap2)).ownsRow 0 99 1 (zf (zo ⟨g2,0,zp⟩) (n+1) cap2) (n+1) (xK ((xP L.hb n)++ [zo B])):=by rw[show xK ((xP L.hb n)++ [zo B])=xK (xP L.hb n)++ [ptr B]by simp[xK]];refine Bu X fun k hk=>?_;obtain rfl:g2=k:=zx hk;exact I.block g2 Z T
 refine⟨h.addH Y c J N (fun k hk=>?_) ⟨_,a⟩ ?_ (fun j b=>?_),J⟩
 .obtain rfl:g2=k:=zx hk;exact H
 .have:=h.sx.vh;refine World.cell?_setCell_same _ _ _ (u:=L.vh) ?_;rw[<-this];simp[zN,D]
 .rw[zB _ _ _ _ (by intro e;injection e with e1 e2;exact b e2.symm)];simp[zN,D]
theorem SB.stepC{A:zu}{g2 cap2:Nat}(h:SB w F s S L tg n m)(a:∀k,w.heap.size<=k->F k)(f:xO w B (S.cs m))(O:Own F tg 5 B)(V:∀p,p<m->L.cb p≠B)
 (X:OA (fun k=>L.vc.ownBlock=zo k) w A) (Z:A.ownsRow 0 107 1 (zf (zo ⟨g2,0,zp⟩) (m+1) cap2) (m+1) (xK (xP L.cb m)++ [ptr B])) (H:L.vc.ownBlock=zo g2∨w.heap.size<=g2):
 SB (A.setCell ⟨s,106,zp⟩ (zf (zo ⟨g2,0,zp⟩) (m+1) cap2)) F s S { L with cb:=OV L.cb m B,vc:=zf (zo ⟨g2,0,zp⟩) (m+1) cap2 } (yV tg w 5) n (m+1)/\OA (fun k=>k=s∨L.vc.ownBlock=zo k) w (A.setCell ⟨s,106,zp⟩ (zf (zo ⟨g2,0,zp⟩) (m+1) cap2)):=by
 obtain⟨cs,M⟩:=h.sx.ty;have R:=h.sx.lt;have E:∀k,L.vc.ownBlock=zo k->k≠s:=fun k hk T=>by subst T;exact yS h.cs.row.row M (by decide) hk
 have D:A.heap[s]?=w.heap[s]?:=X.block s R fun T=>E s T rfl;have U:g2≠s:=by
  rcases H with Y|Y
  .exact E g2 Y
  .omega
 have c:=yD (i:=106) (u:=zf (zo ⟨g2,0,zp⟩) (m+1) cap2) (D.trans M);have b:g2<A.heap.size:=(Z.lt g2 rfl).2;have I:OA (fun k=>k=s) A (A.setCell ⟨s,106,zp⟩ (zf (zo ⟨g2,0,zp⟩) (m+1) cap2)):=(OA.refl (fun k=>k=s) A).setCell (p:=⟨s,106,zp⟩) (.inl rfl) _;have J:OA (fun k=>k=s∨L.vc.ownBlock=zo k) w (A.setCell ⟨s,106,zp⟩ (zf (zo ⟨g2,0,zp⟩) (m+1) cap2)):=
  (X.mono (G:=fun k=>k=s∨L.vc.ownBlock=zo k) fun k hk=>.inr hk).trans I fun k hk=>.inl (.inl hk)
 have N:(A.setCell ⟨s,106,zp⟩ (zf (zo ⟨g2,0,zp⟩) (m+1) cap2)).ownsRow 0 107 1 (zf (zo ⟨g2,0,zp⟩) (m+1) cap2) (m+1) (xK ((xP L.cb m)++ [zo B])):=by rw[show xK ((xP L.cb m)++ [zo B])=xK (xP L.cb m)++ [ptr B]by simp[xK]];refine Bu Z fun k hk=>?_;obtain rfl:g2=k:=zx hk;exact I.block g2 b U
 refine⟨h.addC a f O V J N (fun k hk=>?_) ⟨_,c⟩ ?_ (fun j d=>?_),J⟩
 .obtain rfl:g2=k:=zx hk;exact H
 .have:=h.sx.vc;refine World.cell?_setCell_same _ _ _ (u:=L.vc) ?_;rw[<-this];simp[zN,D]
 .rw[zB _ _ _ _ (by intro e;injection e with e1 e2;exact d e2.symm)];simp[zN,D]
theorem LI(w:zu)(base:Nat)(e:TypeId)(x:zz)(hb:base<=w.heap.size):(w.alloc (zn #[x] e)).ownsRow base e 1 (zf (zo ⟨w.heap.size,0,zp⟩) 1 1) 1 [x]:=
 ⟨rfl,.inr ⟨_,1,#[x],rfl,hb,heap_alloc_new w _,yA _,by unfold maxLen;omega,rfl,rfl⟩⟩
theorem yK.bV(h:yK w F s S L):w.cell? ⟨s,107,zp⟩=zo (ptr L.bk)/\∃G,xj w G L.bk S.book/\∀x w',xj w' G L.bk x->OA G w w'->yG w F s { S with book:=x } L w':=by obtain⟨tg,h⟩:=h;exact⟨h.sx.bk,_,h.bk,fun x w' B A=>h.updK (B.mono fun k _ hk=>.inl hk) A⟩
theorem yK.eO(h:yK w F s S L):w.cell? ⟨s,1,zp⟩=zo (zd zj S.tick):=by obtain⟨tg,h⟩:=h;exact h.sx.c1
theorem VY(l:List Nat)(k q:Nat)(h:l[k]?=zo q):jv ((0::l.take (k+1)).map Int.ofNat)=jv ((0::l.take k).map Int.ofNat)++ [zd zj (q:Nat)]:=by rw[List.take_add_one,h];simp[jv]
theorem XI(h:S.Fit b)(hb:b<900)(D:p<S.ps){OG:Nat}{g:Gp}(B:S.gs[OG]?=zo g)(A:g.there=zq){ns:Int}(H:0<=ns)(G:ns<=1000000000):
 ((({ S with book:=S.book.credit (0::S.SP OG) n ns }:Sc).OM p ((S.hs p).OK ns)):Sc).Fit (b+1)/\(S.limited (S.SP OG)).Nodup/\((({ S with book:=S.book.credit (0::S.SP OG) n ns }:Sc).OM p ((S.hs p).OK ns)):Sc).cJ b (S.limited (S.SP OG)):=by
 obtain⟨w1,w2,w3⟩:=h.1.dB B A;have E:(({ S with book:=S.book.credit (0::S.SP OG) n ns }:Sc)).Fit (b+1):=⟨(h.1.more hb).fK (h.1.bk.credit H G (by rw[List.length_cons];omega)),h.2⟩
 exact⟨Hp E D ns,Uc w1,FO h.1 B A⟩
theorem XJ{q:Nat}{r:List Nat}{x':Gp}(h:S.cJ b (q::r))(E:(q::r).Nodup):(S.OF q x').cJ b r:=fun g' B=>by
 obtain⟨y,c,G,A⟩:=h g' (List.mem_cons_of_mem _ B);have D:q≠g':=by rintro rfl;exact(List.nodup_cons.1 E).1 B
 exact⟨y,c,by show(S.gs.set q x')[g']?=_;rw[List.getElem?_set_ne D];exact G,A⟩
theorem Mm:∀{l:List Nat},l.Nodup->∀(i j x:Nat),l[i]?=zo x->l[j]?=zo x->i=j
 | [],_,i,j,x,hi,_=>by simp at hi
 | a::l,h,i,j,x,hi,hj=>by
  obtain⟨A,B⟩:=List.nodup_cons.1 h;cases i with
  | zero=>
   cases j with
   | zero=>rfl
   | succ j=>
    simp at hi hj;exact absurd (hi▸zW hj) A
  | succ i=>
   cases j with
   | zero=>
    simp at hi hj;exact absurd (hj▸zW hi) A
   | succ j=>rw[Mm B i j x (by simpa using hi) (by simpa using hj)]
theorem FX(e:Ev)(b:Nat)(w:zu)(F:Nat->Prop)(s:Nat)(S:Sc)(L:Lay)(h:yK w F s S L)(X:S.Fit b)(h0:b<900)(R:¬S.TN e.a):
 zw prog 52 #[ptr s,zg (OX e)] w (TM w F s L (S.PP e)):=by
 have U:S.PP e=(S,0,1):=by unfold Sc.PP;rw[if_pos (by simpa using R)]
 rw[U];unfold TM;obtain⟨w1,B⟩:=yB (w.alloc (zn (OX e) 35))
 have J:Below w.heap.size w w1:=by rw[B];exact yE w _
 have O:RG w1 w.heap.size e:=by rw[B];exact RG.new w e
 obtain⟨H,A⟩:∃H:Nat->Prop,H=fun k=>F k/\k<w.heap.size:=⟨_,rfl⟩
 have N:Hid (∀k,H k->F k):=yw (by rw[A];exact fun k hk=>hk.1);have I:Hid (yK w1 H s S L):=yw (by rw[A];exact h.PA.behind J);have T:=yw J;have E:=yw (uu e.a w1 H s S L I.out);obtain⟨D,M⟩:=yB w.heap.size
 have h2:Hid (¬H D):=yw (by rw[A,M];intro hk;omega);have h1:Hid (∀k,H k->k<w.heap.size):=yw (by rw[A];exact fun k hk=>hk.2);rw[<-M]at O;obtain⟨-,e1,-,e3,-,-⟩:=O.c6;have s1:=I.out.eO;clear h J O A;rw[decide_eq_false R]at E;clear R X U;go_enter func52,ntmps52;go_wp2_with fail;rw[show w.alloc (zn (OX e) 35)=w1 from B.symm,<-M];clear B M;refine E.out.mono ?_;rintro z w2 ⟨rfl,V⟩;obtain rfl:=V.symm;go_wp2;go_ret2;exact⟨rfl,yG.NZ T.out ((yG.refl I.out).grow (G:=F) N.out)⟩
theorem FY(e:Ev)(b:Nat)(w:zu)(F:Nat->Prop)(s:Nat)(S:Sc)(L:Lay)(h:yK w F s S L)(c:S.Fit b)(h0:b<900)(U:S.TN e.a)(Z:e.n<0∨S.tick<e.n):
 zw prog 52 #[ptr s,zg (OX e)] w (TM w F s L (S.PP e)):=by
 have Y:S.PP e=(S,0,8):=by unfold Sc.PP;rw[if_neg (by simpa using U),if_pos Z]
 rw[Y];unfold TM;obtain⟨w1,A⟩:=yB (w.alloc (zn (OX e) 35))
 have M:Below w.heap.size w w1:=by rw[A];exact yE w _
 have X:RG w1 w.heap.size e:=by rw[A];exact RG.new w e
 obtain⟨I,B⟩:∃I:Nat->Prop,I=fun k=>F k/\k<w.heap.size:=⟨_,rfl⟩
 have O:Hid (∀k,I k->F k):=yw (by rw[B];exact fun k hk=>hk.1);have H:Hid (yK w1 I s S L):=yw (by rw[B];exact h.PA.behind M);have T:=yw M;have E:=yw (uu e.a w1 I s S L H.out);obtain⟨D,N⟩:=yB w.heap.size
 have h3:Hid (¬I D):=yw (by rw[B,N];intro hk;omega);have h2:Hid (∀k,I k->k<w.heap.size):=yw (by rw[B];exact fun k hk=>hk.2);rw[<-N]at X;obtain⟨-,e1,-,e3,-,-⟩:=X.c6;have s1:=H.out.eO;clear h M X B;rw[decide_eq_true U]at E;by_cases R:e.n<0
 .clear U c Y Z;go_enter func52,ntmps52;go_wp2_with fail;rw[show w.alloc (zn (OX e) 35)=w1 from A.symm,<-N];clear A N;refine E.out.mono ?_;rintro z d ⟨rfl,V⟩;obtain rfl:=V.symm;go_wp2_with fail;go_quiet (fail);have J:Hid (yG w F s S L (w1.drewN nq)):=yw (yG.NZ T.out (yG.NZ (yH (zU _ w1) nq) ((yG.refl (H.out.kept (w':=w1.drewN nq) fun _ _ _=>rfl)).grow (G:=F) O.out)));go_wp2;go_ret2;exact⟨rfl,J.out⟩
 .have h1:S.tick<e.n:=by omega
  have h4:0<=e.n:=by omega
  clear U c Y Z R;go_enter func52,ntmps52;go_wp2_with fail;rw[show w.alloc (zn (OX e) 35)=w1 from A.symm,<-N];clear A N;refine E.out.mono ?_;rintro z d ⟨rfl,V⟩;obtain rfl:=V.symm;go_wp2_with fail;go_quiet (fail);have J:Hid (yG w F s S L (w1.drewN nq)):=yw (yG.NZ T.out (yG.NZ (yH (zU _ w1) nq) ((yG.refl (H.out.kept (w':=w1.drewN nq) fun _ _ _=>rfl)).grow (G:=F) O.out)));go_wp2;go_ret2;exact⟨rfl,J.out⟩
theorem VZ(e:Ev)(b:Nat)(w:zu)(F:Nat->Prop)(s:Nat)(S:Sc)(L:Lay)(h:yK w F s S L)(W:S.Fit b)(h0:b<900)(x:S.TN e.a)(O:¬(e.n<0∨S.tick<e.n))(p:Nat)(M:e.a=p)(hr:S.running p= -1):
 zw prog 52 #[ptr s,zg (OX e)] w (TM w F s L (S.PP e)):=by
 have Y:e.a.toNat=p:=by omega
 have ho:S.PP e=(S.PZ p ((S.cs p).tick e.n),-1,0):=by rw[Vb x O (by rw[Y];exact hr),Y]
 rw[ho];unfold TM;obtain⟨w1,E⟩:=yB (w.alloc (zn (OX e) 35))
 have g:Below w.heap.size w w1:=by rw[E];exact yE w _
 have r:RG w1 w.heap.size e:=by rw[E];exact RG.new w e
 obtain⟨R,A⟩:∃R:Nat->Prop,R=fun k=>F k/\k<w.heap.size:=⟨_,rfl⟩
 have h6:Hid (∀k,R k->F k):=yw (by rw[A];exact fun k hk=>hk.1);have H:Hid (yK w1 R s S L):=yw (by rw[A];exact h.PA.behind g);have Z:=yw g;have T:=yw (uu e.a w1 R s S L H.out);obtain⟨D,Q⟩:=yB w.heap.size
 have ha:Hid (¬R D):=yw (by rw[A,Q];intro hk;omega);have hc:Hid (∀k,R k->k<w.heap.size):=yw (by rw[A];exact fun k hk=>hk.2);rw[<-Q]at r;have HE:=yw r;obtain⟨-,N,-,K,-,-⟩:=r.c6;have B:=r.lt;have s1:=H.out.eO;have X:=H.out.RZ.2;clear h g r A;rw[decide_eq_true x]at T;have c:p<S.ps:=by have:=x.2;omega
 have hh:=W.1.tick;have h4:0<=e.n:=by omega
 have h1:e.n<=1000000000:=by omega
 have hf:e.n<=S.tick:=by omega
 have he:IntKind.u64.wrap e.n=e.n:=by simp only[IntKind.wrap,yq,IntKind.bits];simp;omega
 have h9:p<64:=by have:=W.1.ps.2;omega
 have hg:(p:Int) <(S.ps:Int):=by omega
 have C:=yw M;rw[M]at N;have l:=(W.1.ck p c).1.small (by omega);have v:(if S.TN (p:Int)then S.running (p:Int).toNat else -1)= -1:=by rw[if_pos (by rw[<-M];exact x),zI,hr]
 have h2:=yw v;have h7:=yw c;clear x W ho hr O M Y v;go_enter func52,ntmps52;go_wp2_with fail;rw[show w.alloc (zn (OX e) 35)=w1 from E.symm,<-Q];clear E Q;refine T.out.mono ?_;rintro z P ⟨rfl,hw⟩;obtain rfl:=hw.symm;go_wp2_with fail;go_quiet (fail);obtain⟨P,V⟩:=yB (w1.drewN nq)
 have I:Hid (Below w1.heap.size w1 P):=yw (by rw[V];exact yH (zU _ w1) nq);rw[<-V];clear V N K B s1 X;have q:=yw (H.out.behind I.out);have f:=yw (HE.out.behind I.out);obtain⟨-,N,-,K,-,-⟩:=f.out.c6;rw[C.out]at N;have B:=f.out.lt;have U:=yw (xT p P R s S L q.out);rw[h2.out]at U;go_wp2_with fail;refine U.out.mono ?_;rintro z o ⟨rfl,J⟩;have h5:=yw (yC (yC Z.out I.out Z.out.size) J (by have:=Z.out.size;have:=I.out.size;omega));have d:=yw (q.out.behind J);have t:=yw (f.out.behind J);clear J N K B;obtain⟨-,N,-,K,-,-⟩:=t.out.c6
 rw[C.out]at N;have B:=t.out.lt;obtain⟨hC,rc,cc,m,h3,u⟩:=d.out.clock c;have X:=d.out.RZ.2;have HT:=yw (Ly e.n 0 0 o.drew (L.cb p) (S.cs p) hC l h4 h1 ⟨by omega,by omega⟩ ⟨by omega,by omega⟩);clear hC l;go_wp2_with fail;go_region_with
  (
   go_at_call 96;refine HT.out.mono ?_;rintro z w4 ⟨rfl,j,y⟩;have h8:=yw (yG.NZ h5.out (yG.NZ (⟨rfl,rfl,rfl,yA _,fun _ _=>rfl⟩:Below o.heap.size o o.drew) (((d.out.kept (w':=o.drew) fun _ _ _=>rfl).eC h7.out y j).grow (G:=F) h6.out)));clear j y N K B m h3 u X)
 all_goals
  go_wp2;go_ret2;exact⟨rfl,h8.out⟩
abbrev vq(st p g A B mk ns:Int):Array zz:=#[zd zj st,zd zj p,zd zj g,zd zj A,zd zk B,zd zk mk,zd zj ns]
def An(w:zu)(S:Sc)(n:Nat)(z:Ending)(w':zu):Prop:=∃st p g ni wt mk:Int,z=zm (zg (vq st p g ni wt mk (S.book.bt n)))/\(∀t,S.ts[n]?=zo t->t.dead=zt->p=t.p/\mk=t.mask)/\Below w.heap.size w w'
theorem xY{X:Nat}{st p g A B mk ns:Int}(h:w.heap[X]?=zo (zn (vq st p g A B mk ns) 37 (0,0))):w.cell? ⟨X,0,zp⟩=zo (zd zj st)/\w.cell? ⟨X,1,zp⟩=zo (zd zj p)/\w.cell? ⟨X,2,zp⟩=zo (zd zj g)/\w.cell? ⟨X,3,zp⟩=zo (zd zj A)/\w.cell? ⟨X,4,zp⟩=zo (zd zk B)/\w.cell? ⟨X,5,zp⟩=zo (zd zk mk)/\w.cell? ⟨X,6,zp⟩=zo (zd zj ns)/\X<w.heap.size/\∀j,w.frozen? ⟨X,j,zp⟩=zt:=by
 refine⟨?_,?_,?_,?_,?_,?_,?_,(yx h).1,?_⟩
 all_goals first|(simp[zN,h];done)|(intro j;simp[zY,h])
theorem Wv{w1:zu}{D:Nat}{M N O E H G J:Int}(I:w1.heap[D]?=zo (zn (vq M N O E H G J) 37 (0,0)))(st p g A B mk ns:Int):
 ((((((((w1.setCell ⟨D,0,zp⟩ (zd zj st)).setCell ⟨D,1,zp⟩ (zd zj p)).setCell ⟨D,2,zp⟩ (zd zj g)).setCell ⟨D,3,zp⟩ (zd zj A)).setCell ⟨D,4,zp⟩ (zd zk B)).setCell ⟨D,5,zp⟩ (zd zk mk)).setCell ⟨D,6,zp⟩ (zd zj ns))).heap[D]?=zo (zn (vq st p g A B mk ns) 37 (0,0))/\OA (fun k=>k=D) w1 (((((((w1.setCell ⟨D,0,zp⟩ (zd zj st)).setCell ⟨D,1,zp⟩ (zd zj p)).setCell ⟨D,2,zp⟩ (zd zj g)).setCell ⟨D,3,zp⟩ (zd zj A)).setCell ⟨D,4,zp⟩ (zd zk B)).setCell ⟨D,5,zp⟩ (zd zk mk)).setCell ⟨D,6,zp⟩ (zd zj ns)):=by
 refine⟨by have h:=(yD (i:=6) (u:=zd zj ns) (yD (i:=5) (u:=zd zk mk) (yD (i:=4) (u:=zd zk B) (yD (i:=3) (u:=zd zj A) (yD (i:=2) (u:=zd zj g) (yD (i:=1) (u:=zd zj p) (yD (i:=0) (u:=zd zj st) I)))))));simpa using h,(((((((OA.refl (fun k=>k=D) w1).setCell (p:=⟨D,0,zp⟩) (.inl rfl) _).setCell (p:=⟨D,1,zp⟩) (.inl rfl) _).setCell (p:=⟨D,2,zp⟩) (.inl rfl) _).setCell (p:=⟨D,3,zp⟩) (.inl rfl) _).setCell (p:=⟨D,4,zp⟩) (.inl rfl) _).setCell (p:=⟨D,5,zp⟩) (.inl rfl) _).setCell (p:=⟨D,6,zp⟩) (.inl rfl) _⟩
theorem BA(n:Nat)(b:Nat)(w:zu)(F:Nat->Prop)(s:Nat)(S:Sc)(L:Lay)(h:yK w F s S L)(Z:S.Ok b)(g:n<S.ts.length)(hd:S.tsk? n=zp):
 zw prog 8 #[ptr s,zd zj n] w (An w S n):=by
 have h0:=Z.RY;have h3:=Z.tl;obtain⟨w1,B⟩:=yB (w.alloc (zn (vq 0 0 0 0 0 0 0) 37))
 have I:Below w.heap.size w w1:=by rw[B];exact yE w _
 have A:w1.heap[w.heap.size]?=zo (zn (vq 0 0 0 0 0 0 0) 37 (0,0)):=by rw[B];exact heap_alloc_new w _
 have X:=h.behind I;have Y:=yw (Kc n w1 F s S L X (by omega));rw[hd,show Yg L.tb zp=ze zp from rfl]at Y;obtain⟨h2,G,J,-⟩:=X.bV;have O:=yw (Ma w1 G L.bk n S.book J (by omega));have V:Hid (∀t,S.ts[n]?=zo t->t.dead=zt->False):=yw (fun t R E=>by unfold Sc.tsk? at hd;rw[if_pos ⟨by omega,by omega,by rw[zI,Sc.RV R];exact E⟩]at hd;cases hd);obtain⟨D,M⟩:=yB w.heap.size
 rw[<-M]at A;have N:=yw (zQ I (zQ A M));obtain⟨d0,d1,d2,d3,d4,d5,d6,dl,df⟩:=xY A;clear h X J I A hd g;go_enter func8,ntmps8;go_wp2_with fail;rw[show w.alloc (zn #[zd zj 0,zd zj 0,zd zj 0,zd zj 0,zd zk 0,zd zk 0,zd zj 0] 37)=w1 from B.symm,<-M];clear B M;refine Y.out.mono ?_;rintro z l ⟨rfl,H⟩;obtain rfl:=H.symm;go_wp2_with fail;refine O.out.mono ?_;rintro z l ⟨rfl,H⟩;obtain rfl:=H.symm;go_wp2;obtain⟨T,U⟩:=Wv N.out.2.1 4 0 0 0 0 0 (S.book.bt n);obtain⟨c,f,g2,m,d,j,a,-,-⟩:=xY T
 refine bodyPost_ret (v:=zg (vq 4 0 0 0 0 0 (S.book.bt n))) ?_ rfl ⟨4,0,0,0,0,0,rfl,fun t R E=>(V.out t R E).elim,N.out.1.trans (U.below N.out.1.size fun k hk=>by rw[hk,N.out.2.2];exact yA _)⟩;simp[results,results8,go_sem,c,f,g2,m,d,j,a]
theorem BB(n:Nat)(t:Tk)(b:Nat)(w:zu)(F:Nat->Prop)(s:Nat)(S:Sc)(L:Lay)(h:yK w F s S L)(ok:S.Ok b)(o:S.ts[n]?=zo t)(hd:t.dead=zt):
 zw prog 8 #[ptr s,zd zj n] w (An w S n):=by
 have hg:=ok.RY;have hj:=ok.tl;have hl:=(yy o).1;obtain⟨⟨y,hy,h8⟩,_,_,_,hi,_⟩:=ok.tk n t o hd;obtain⟨w1,a⟩:=yB (w.alloc (zn (vq 0 0 0 0 0 0 0) 37))
 have u:Below w.heap.size w w1:=by rw[a];exact yE w _
 have m:w1.heap[w.heap.size]?=zo (zn (vq 0 0 0 0 0 0 0) 37 (0,0)):=by rw[a];exact heap_alloc_new w _
 have U:=h.behind u;have h4:S.tsk? n=zo n:=by unfold Sc.tsk?;rw[if_pos ⟨by omega,by omega,by rw[zI,Sc.RV o];exact hd⟩,zI]
 have HT:=yw (Kc n w1 F s S L U (by omega));rw[h4,show Yg L.tb (zo n)=ptr (L.tb n)from rfl]at HT;obtain⟨h0,-,-,-⟩:=U.bV;have hc:Hid (∀W,Below w1.heap.size w1 W->zw prog 21 #[ptr L.bk,zd zj n] W fun z w'=>z=zm (zd zj (S.book.bt n))/\w'=W):=yw fun W hb=>by obtain⟨_,G,hf,-⟩:=(U.behind hb).bV;exact Ma W G L.bk n S.book hf (by omega)
 have h7:Hid (∀W,Below w1.heap.size w1 W->zw prog 22 #[ptr s,zd zj t.p] W fun z w'=>z=zm (zd zj (S.running t.p))/\Below W.heap.size W w'):=yw fun W hb=>by have h2:=xT t.p W F s S L (U.behind hb);rw[if_pos (show S.TN (t.p:Int)from⟨by omega,by omega⟩),zI]at h2;exact h2
 have h3:=U.RZ.2;obtain⟨-,-,-,t3,t4,t5,t6,t7,t8,-⟩:=(U.tk o).TY;have I:=(U.tk o).lt;obtain⟨g0,-⟩:=(U.gp hy).c7;have P:=(U.gp hy).lt;have r:=yw o;obtain⟨B,hB⟩:=yB (L.tb n)
 obtain⟨Y,hY⟩:=yB (L.gb t.OG)
 rw[<-hB]at t3 t4 t5 t6 t7 t8 I HT;rw[<-hY]at t5 g0 P;obtain⟨D,hD⟩:=yB w.heap.size
 rw[<-hD]at m;have T:=yw (zQ u (zQ m hD));have H2:=yw (zQ t3 (zQ I (zQ h3 (zQ t4 True.intro))));clear h U u m hd o hy h8 hB hY h4;go_enter func8,ntmps8;go_wp2_with fail;rw[show w.alloc (zn #[zd zj 0,zd zj 0,zd zj 0,zd zj 0,zd zk 0,zd zk 0,zd zj 0] 37)=w1 from a.symm,<-hD];clear a hD;refine HT.out.mono ?_;rintro z w2 ⟨rfl,h6⟩;obtain rfl:=h6.symm;go_upto_region 6 with(fail)
 go_cut [6]from 22 to 51 (fun v6 wx=>∃X,v6=ptr X/\w1.heap.size<=X/\wx.heap[X]?=zo (zn (vq 1 t.p t.OG t.nice t.w t.mask (S.book.bt n)) 37 (0,0))/\Below w1.heap.size w1 wx)
 case first=>
  go_region_held3 (fun w'=>w'.cell? ⟨B,4,zp⟩=zo (zd zj t.p)/\w'.cell? ⟨B,5,zp⟩=zo (ze (zo ⟨Y,0,zp⟩))/\w'.cell? ⟨B,6,zp⟩=zo (zd zj t.nice)/\w'.cell? ⟨B,7,zp⟩=zo (zd zk t.w)/\w'.cell? ⟨B,8,zp⟩=zo (zd zk t.mask)/\w'.cell? ⟨Y,0,zp⟩=zo (zd zj t.OG)/\w'.cell? ⟨s,107,zp⟩=zo (ptr L.bk)) (go_keep)
   (first
    | (
     go_at_call 21;refine(hc.out _ (by first|exact zU _ _|exact yI (zU _ _)|exact yI (yE _ _)|exact yE _ _|exact yH (zU _ _) _)).mono ?_;rintro z w5 ⟨rfl,ha⟩;obtain rfl:=ha.symm))
  all_goals
   go_wp2_with fail;go_meet
   case rel=>
    first
     | exact⟨_,rfl,yA _,heap_alloc_new w1 _,yE w1 _⟩
     | exact⟨_,rfl,yA _,heap_alloc_new w1 _,yI (yE w1 _)⟩
 case rest=>
  obtain⟨X,rfl,hX,g,E⟩:=hcut
  rename zu=>w5
  have x:=yw (zQ hX (zQ g E));obtain⟨y0,y1,y2,y3,y4,y5,y6,yl,yf⟩:=xY g;have u3:=(E.cell (p:=⟨B,3,zp⟩) I).trans H2.out.1;have u4:=(E.cell (p:=⟨B,4,zp⟩) I).trans H2.out.2.2.2.1;have f:=yz I E.size;have V:=(E.block D (yx T.out.2.1).1).trans T.out.2.1;have j:=yw V;have he:=yw (h7.out w5 E);clear hX g E t3 t4 t5 t6 t7 t8 g0 h0 h3 I P;have c:=yw (yC T.out.1 x.out.2.2 T.out.1.size);have h9:X≠D:=by have:=x.out.1;have:=(yx T.out.2.1).1;omega
  cases hon:t.on with
  | false=>
   rw[hon]at u3;obtain⟨d0,d1,d2,d3,d4,d5,d6,dl,df⟩:=xY V;clear V;go_wp2;obtain⟨N,M⟩:=Wv j.out 1 t.p t.OG t.nice t.w t.mask (S.book.bt n);obtain⟨q0,q1,q2,C,q4,q5,q6,-,-⟩:=xY N;refine bodyPost_ret (v:=zg (vq 1 t.p t.OG t.nice t.w t.mask (S.book.bt n))) ?_ rfl ⟨1,t.p,t.OG,t.nice,t.w,t.mask,rfl,fun t' A _=>by rw[r.out]at A;obtain rfl:=zx A;exact⟨rfl,rfl⟩,c.out.trans (M.below c.out.size fun k hk=>by rw[hk,T.out.2.2];exact yA _)⟩;simp[results,results8,go_sem,q0,q1,q2,C,q4,q5,q6]
  | true=>
   rw[hon]at u3;obtain⟨q,hq⟩:∃q,(S.running t.p == (n:Int))=q:=⟨_,rfl⟩
   clear y0 y1 y2 y3 y4 y5 y6 yl yf V;go_wp2_with fail;refine he.out.mono ?_;rintro z w6 ⟨rfl,O⟩;have d:=(O.block X (yx x.out.2.1).1).trans x.out.2.1;have J:=(O.block D (yx j.out).1).trans j.out;have Q:=yw (yC c.out O c.out.size);have hh:=(O.cell (p:=⟨B,3,zp⟩) f).trans u3;clear u3 u4 f O;obtain⟨y0,y1,y2,y3,y4,y5,y6,yl,yf⟩:=xY d;obtain⟨d0,d1,d2,d3,d4,d5,d6,dl,df⟩:=xY J;have h5:D≠X:=fun e=>h9 e.symm;have K:=yw J;clear d J;cases q
   .go_wp2;obtain⟨Z,H⟩:=yB (w6.setCell ⟨X,0,zp⟩ (zd zj 2))
    have l:Z.heap[D]?=zo (zn (vq 0 0 0 0 0 0 0) 37 (0,0)):=by rw[H];exact(Below.heap_setCell _ _ _ _ (by exact h5)).trans K.out
    have R:Below w.heap.size w Z:=by rw[H];exact Q.out.setCell (p:=⟨X,0,zp⟩) (by have:=x.out.1;have:=T.out.1.size;show _<=X;omega) _
    obtain⟨N,M⟩:=Wv l 2 t.p t.OG t.nice t.w t.mask (S.book.bt n);obtain⟨q0,q1,q2,C,q4,q5,q6,-,-⟩:=xY N;rw[<-H];refine bodyPost_ret (v:=zg (vq 2 t.p t.OG t.nice t.w t.mask (S.book.bt n))) ?_ rfl ⟨2,t.p,t.OG,t.nice,t.w,t.mask,rfl,fun t' A _=>by rw[r.out]at A;obtain rfl:=zx A;exact⟨rfl,rfl⟩,R.trans (M.below R.size fun k hk=>by rw[hk,T.out.2.2];exact yA _)⟩;simp[results,results8,go_sem,q0,q1,q2,C,q4,q5,q6]
   .go_wp2;obtain⟨Z,H⟩:=yB (w6.setCell ⟨X,0,zp⟩ (zd zj 3))
    have l:Z.heap[D]?=zo (zn (vq 0 0 0 0 0 0 0) 37 (0,0)):=by rw[H];exact(Below.heap_setCell _ _ _ _ (by exact h5)).trans K.out
    have R:Below w.heap.size w Z:=by rw[H];exact Q.out.setCell (p:=⟨X,0,zp⟩) (by have:=x.out.1;have:=T.out.1.size;show _<=X;omega) _
    obtain⟨N,M⟩:=Wv l 3 t.p t.OG t.nice t.w t.mask (S.book.bt n);obtain⟨q0,q1,q2,C,q4,q5,q6,-,-⟩:=xY N;rw[<-H];refine bodyPost_ret (v:=zg (vq 3 t.p t.OG t.nice t.w t.mask (S.book.bt n))) ?_ rfl ⟨3,t.p,t.OG,t.nice,t.w,t.mask,rfl,fun t' A _=>by rw[r.out]at A;obtain rfl:=zx A;exact⟨rfl,rfl⟩,R.trans (M.below R.size fun k hk=>by rw[hk,T.out.2.2];exact yA _)⟩;simp[results,results8,go_sem,q0,q1,q2,C,q4,q5,q6]
theorem Ib(n:Nat)(b:Nat)(w:zu)(F:Nat->Prop)(s:Nat)(S:Sc)(L:Lay)(h:yK w F s S L)(A:S.Ok b)(E:n<S.ts.length):
 zw prog 8 #[ptr s,zd zj n] w (An w S n):=by
 obtain⟨t,B⟩:∃t,S.ts[n]?=zo t:=⟨_,zy E⟩
 cases hd:t.dead with
 | false=>exact BB n t b w F s S L h A B hd
 | true=>
  refine BA n b w F s S L h A E ?_;unfold Sc.tsk?;rw[if_neg];rintro⟨_,_,D⟩;rw[zI,Sc.RV B,hd]at D;cases D
theorem LJ(A:S.Ok b)(c:S.gs[n]?=zo x)(Y:x.there=zq)(w:zu)(t J:Nat)(h:PQ w 0 t J S.tree):
 zw prog 30 #[ptr t,zg #[zd zj x.hi,zd zj x.hg]] w fun z w'=>∃(i g e:Int),z=zm (.tuple #[zg #[zd zj i,zd zj g],zd zj e])/\(e≠0∨(e=0/\∃(j m:Nat) (y:Gp),i=j/\j<32/\S.pl j=zo m/\S.gs[m]?=zo y))/\Below w.heap.size w w':=by
 obtain⟨q,H,U,B⟩:=(A.gk n x c Y).1;have h3:=A.RY;obtain⟨Z,V,D⟩:=uS H U;rw[B]at Z V D;by_cases G:x.hi=0
 .have O:=Om A.tr H G;rw[B]at O;rw[G,O]at D ⊢;exact(Sm (b+2) w 0 t J S.tree h A.tok (by omega) D).mono fun z w' ⟨I,E⟩=>⟨0,0,12,I,.inl (by omega),E⟩
 .obtain⟨j,p,R,N,a,-⟩:=A.tr.fW x.hi q H U G;have T:=QV x.hi x.hg (b+2) w 0 t J S.tree h A.tok (by omega) D (by omega);rw[V,a]at T;obtain⟨m,X⟩:=A.gu j p R N;obtain⟨y,M,_⟩:=A.pl j m X;have h4:=(yy R).1;have hr:=A.tok.room;exact T.mono fun z w' ⟨I,E⟩=>⟨j,p.gen,0,I,.inr ⟨rfl,j,m,y,rfl,by omega,X,M⟩,E⟩
theorem Ix(w:zu)(p:Nat):zw prog 31 #[ze (zo ⟨p,0,zp⟩),zd zj 0] w fun z w'=>z=zm (zh zt)/\w'=w:=by have B:=yw (Nu w p);go_enter func31,ntmps31;go_wp2_with fail;refine B.out.mono ?_;rintro z w2 ⟨rfl,A⟩;obtain rfl:=A.symm;go_wp2;go_ret;exact⟨rfl,rfl⟩
theorem Ao(h:yK w F s S L)(E:S.Ok b)(N:S.gs[n]?=zo x)(M:x.there=zq)(D:p<S.ps):
 zw prog 31 #[ptr (L.hb p),zd zj x.hi] w fun z w'=>∃v,z=zm (zh v)/\w'=w:=by
 obtain⟨_,_,_,_,_,G,J⟩:=h.gX D;have A:=E.hk p D x.hi;rw[(E.gk n x N M).2]at A;obtain⟨y,I⟩:=Option.isSome_iff_exists.1 A;by_cases H:x.hi=0
 .rw[H];exact(Ix w (L.hb p)).mono fun z w' ⟨A,B⟩=>⟨_,A,B⟩
 .exact(Nv w G (L.hb p) x.hi (S.hs p) y J I H).mono fun z w' ⟨A,B⟩=>⟨_,A,B⟩
abbrev qB(E:Bool)(G sh ns A B D st:Int):Array zz:=#[zh E,zd zj G,zd zk sh,zd zj ns,zd zj A,zd zj B,zd zj D,zd zk st]
theorem vS{X:Nat}{E:Bool}{G sh ns A B D st:Int}(h:w.heap[X]?=zo (zn (qB E G sh ns A B D st) 49 (0,0))):w.cell? ⟨X,0,zp⟩=zo (zh E)/\w.cell? ⟨X,1,zp⟩=zo (zd zj G)/\w.cell? ⟨X,2,zp⟩=zo (zd zk sh)/\w.cell? ⟨X,3,zp⟩=zo (zd zj ns)/\w.cell? ⟨X,4,zp⟩=zo (zd zj A)/\w.cell? ⟨X,5,zp⟩=zo (zd zj B)/\w.cell? ⟨X,6,zp⟩=zo (zd zj D)/\w.cell? ⟨X,7,zp⟩=zo (zd zk st)/\X<w.heap.size/\∀j,w.frozen? ⟨X,j,zp⟩=zt:=by
 refine⟨?_,?_,?_,?_,?_,?_,?_,?_,(yx h).1,?_⟩
 all_goals first|(simp[zN,h];done)|(intro j;simp[zY,h])
def FZ(w:zu)(S:Sc)(n:Nat)(z:Ending)(w':zu):Prop:=∃pa sh qu po sp st:Int,z=zm (zg (qB zq pa sh (S.book.bg n) qu po sp st))/\(∀x d,S.gs[n]?=zo x->x.band=zo d->sp=d.spent)/\Below w.heap.size w w'
theorem BC(h:yK w F s S L)(D:S.gs[n]?=zo x):
 zw prog 28 #[ze (if x.band.isSome=zq then zo ⟨L.bb n,0,zp⟩else zp)] w fun z w'=>∃v,z=zm (zd zj v)/\w'=w:=by
 cases hb:x.band with
 | none=>exact(Qt.fC w).mono fun z w' ⟨B,A⟩=>⟨_,B,A.symm⟩
 | some d=>exact(Qt.dH w (L.bb n) d (h.band D hb)).mono fun z w' ⟨B,A⟩=>⟨_,B,A.symm⟩
theorem XK(h:yK w F s S L)(D:S.gs[n]?=zo x):
 zw prog 29 #[ze (if x.band.isSome=zq then zo ⟨L.bb n,0,zp⟩else zp)] w fun z w'=>∃v,z=zm (zd zj v)/\(∀d,x.band=zo d->v=d.spent)/\w'=w:=by
 cases hb:x.band with
 | none=>exact(Qt.eR w).mono fun z w' ⟨B,A⟩=>⟨_,B,(fun d hd=>by cases hd),A.symm⟩
 | some d=>exact(Qt.eS w (L.bb n) d (h.band D hb)).mono fun z w' ⟨B,A⟩=>⟨_,B,(fun d' hd=>by cases hd;rfl),A.symm⟩
