/- Parts of the proof of the law TopKeeps: contracts of the functions that it reaches, and plain laws of what they compute. Conditions: those in each statement. -/
import Derived.Test.YtmgekibncmnmiaaGreatDoorM36
set_option linter.unusedVariables false
set_option maxRecDepth 100000
set_option maxHeartbeats 4000000
open Go.Proofs.Tryz
namespace Go.Proofs.YtmgekibncmnmiaaGreatDoor
open Go Go.RowKit Go.ChangeShapes Go.WideShapes
section
attribute [local go_sem ↓] Go.wp_at_zero Go.wp_at_succ
theorem zn6{mask:Int}(h:0<=mask)(B:mask<=18446744073709551615)(p:Nat):(bits BinOp.and IntKind.u64 (mask/2 ^ p) 1 == 0)=!qH mask p:=by
 have e:=zfC h B p;have A:bits BinOp.and IntKind.u64 (mask/2 ^ p) 1=0∨bits BinOp.and IntKind.u64 (mask/2 ^ p) 1=1:=by have hd:0<=mask/2 ^ p:=Int.ediv_nonneg h (Int.le_of_lt (Int.pow_pos (by omega)));have D:mask/2 ^ p<=18446744073709551615:=Int.le_trans (Int.ediv_le_self _ h) B;rw[zjI _ hd D];omega
 rcases A with A | A <;> rw[A]at e ⊢ <;> (cases hb:qH mask p <;> rw[hb]at e <;> simp at e ⊢)
theorem zeP{S:Sc}{e:Ev}{n:Nat}{t:Tk}{B:Nat}(h:S.tsk? e.a=some n)(D:S.t n=t)(A:S.free (-1) e.mask=some B)(E:¬(t.on=true/\qH e.mask t.p=false)):S.zqE e=(S.zps n { t with mask:=e.mask },0,0):=by unfold Sc.zqE;simp only[h,A,D];rw[if_neg E]
theorem zm9{S:Sc}{e:Ev}{n:Nat}{t:Tk}{B:Nat}(h:S.tsk? e.a=some n)(D:S.t n=t)(A:S.free (-1) e.mask=some B)(E:t.on=true/\qH e.mask t.p=false):
 S.zqE e=((((S.zps n { t with mask:=e.mask }).leave n).put n (vz (((S.zps n { t with mask:=e.mask }).leave n).free (-1) e.mask)) false),0,0):=by
 unfold Sc.zqE;simp only[h,A,D];rw[if_pos E];unfold vz;cases((S.zps n { t with mask:=e.mask }).leave n).free (-1) e.mask <;> rfl
theorem ziR(e:Ev)(b:Nat)(w:World)(F:Nat->Prop)(s:Nat)(S:Sc)(L:Lay)(h:zq w F s S L)(ok:S.Fit b)(he:0<=e.mask/\e.mask<=18446744073709551615):
 Calls prog 48 #[ptr s,.agg (zpu e)] w (zq1 w F s L (S.zqE e)):=by
 obtain⟨w1,E⟩:=zh (w.alloc (.cells (zpu e) 35))
 have C:Below w.heap.size w w1:=by rw[E];exact zk w _
 have hE:zp1 w1 w.heap.size e:=by rw[E];exact zp1.new w e
 obtain⟨u,o⟩:∃u:Nat->Prop,u=fun k=>F k/\k<w.heap.size:=⟨_,rfl⟩
 have h7:Hid (∀k,u k->F k):=zc (by rw[o];exact fun k hk=>hk.1);have g:Hid (zq w1 u s S L):=zc (by rw[o];exact h.zpy.behind C);have ht:Hid (zn w F s S L w1):=zc ((zn.refl h).below C);have Z:=zc C;have HG:=zc (vw e.a w1 u s S L g.out (by have:=ok.1.tl;have:=ok.1.zqg;omega));obtain⟨D,c⟩:=zh w.heap.size
 have H8:Hid (¬u D):=zc (by rw[o,c];intro hk;omega);rw[<-c]at hE;have HE:=zc hE;obtain⟨-,e1,-,-,-,m⟩:=hE.c6;have H:=hE.lt;clear h C hE o;obtain⟨O,f⟩:=zh (S.zqE e)
 rw[<-f];unfold zq1;cases hg:S.tsk? e.a with
 | none=>
  have r:O=(S,0,2):=by rw[f];unfold Sc.zqE;rw[hg]
  subst r;rw[hg]at HG;clear f hg ok;go_enter func48,ntmps48;go_wp2_with fail;rw[show w.alloc (.cells (zpu e) 35)=w1 from E.symm,<-c];clear E c;refine HG.out.mono ?_;rintro z w2 ⟨rfl,hw⟩;obtain rfl:=hw.symm;go_wp2;go_ret2;exact⟨rfl,ht.out⟩
 | some n=>
  obtain⟨-,t,hn,hd,X⟩:=qB hg;rw[hg,show zaV L.tb (some n)=ptr (L.tb n)from rfl]at HG;have hT:=ok.1.tk n t hn hd;have R:=zc (vy (-1) e.mask b w1 u s S L g.out ok.1 he.1 he.2 (.inl rfl));rw[uw]at R;have HN:=zc hn;cases hfr:S.free (-1) e.mask with
  | none=>
   have r:O=(S,0,9):=by rw[f];unfold Sc.zqE;simp only[hg,hfr]
   subst r;rw[hfr]at R;simp only[vz,zcy,Option.getD_none,Option.isSome_none]at R;clear f hg ok hn hd X hT hfr;go_enter func48,ntmps48;go_wp2_with fail;rw[show w.alloc (.cells (zpu e) 35)=w1 from E.symm,<-c];clear E c;refine HG.out.mono ?_;rintro z w2 ⟨rfl,hw⟩;obtain rfl:=hw.symm;go_wp2_with fail;refine R.out.mono ?_;rintro z V ⟨rfl,A⟩;have l:=zc (ht.out.below A);clear A e1 m H;go_wp2;go_ret2;exact⟨rfl,l.out⟩
  | some p0=>
   have y:vz (S.free (-1) e.mask)=p0:=by rw[hfr];rfl
   have x:zcy (S.free (-1) e.mask)=true:=by rw[hfr];rfl
   rw[y,x]at R;have Y:=zn6 he.1 he.2 t.p;have Hf:=hT.zqN;have H7:t.p<64:=by have:=ok.1.ps.2;omega
   have Hb:(t.p:Int) <64:=by omega
   have He:IntKind.u64.wrap (t.p:Int)=(t.p:Int):=by simp only[IntKind.wrap,IntKind.signed,IntKind.bits];simp;omega
   obtain⟨T,M⟩:∃T,T=S.zps n { t with mask:=e.mask }:=⟨_,rfl⟩
   have f1:T.Fit b:=by rw[M];exact ok.zps hn rfl rfl rfl rfl rfl fun _ k=>⟨k.zpc,k.pool,k.hi,k.at_,k.zqN,k.wt,he,k.e,k.nice,k.min⟩
   have N:T.ts[n]?=some { t with mask:=e.mask }:=by rw[M];exact xu hn
   have h4:=zc M;have Hc:=zc f1;have Hd:=zc N;cases hon:t.on with
   | false=>
    have r:O=(T,0,0):=by rw[f,zeP hg X hfr (by rw[hon];simp),M]
    subst r;have d:=zc hon;clear f hg ok hn hd X hT hfr y x Y M f1 N hon;go_enter func48,ntmps48;go_wp2_with fail;rw[show w.alloc (.cells (zpu e) 35)=w1 from E.symm,<-c];clear E c;refine HG.out.mono ?_;rintro z w2 ⟨rfl,hw⟩;obtain rfl:=hw.symm;go_wp2_with fail;refine R.out.mono ?_;rintro z V ⟨rfl,A⟩;have j:=zc (zj Z.out A Z.out.size);have U:=zc (g.out.behind A);have B:=zc (HE.out.behind A);clear A e1 m H;obtain⟨-,-,-,-,-,m⟩:=B.out.c6;have H:=B.out.lt;have I:=U.out.tk HN.out;obtain⟨-,-,-,t3,t4,-,-,-,t8,-⟩:=I.zq7;rw[d.out]at t3;have h8:=I.lt;have h1:=I.zpe
    have P:zp7 (V.setCell ⟨L.tb n,8,none⟩ (.int .u64 e.mask)) (L.tb n) L.gb { t with mask:=e.mask }:=zi I;have h0:D≠L.tb n:=by intro e;have J:=B.out;have K:=I;unfold zp7 at K;unfold zp1 at J;rw[e,K]at J;simp only[Option.some.injEq,Obj.cells.injEq]at J;exact absurd J.2.1 (by decide)
    have l:Hid (zn w F s T L (V.setCell ⟨L.tb n,8,none⟩ (.int .u64 e.mask))):=zc (by rw[h4.out];exact zn.zo7 j.out ((U.out.zri HN.out (zo8.refl (fun k=>k=L.tb n) V).one P).grow (G:=F) h7.out));clear I P;go_wp2_with fail;go_quiet (fail);go_wp2;go_ret2;exact⟨rfl,l.out.below (zp (Below.refl _ _) nq)⟩
   | true=>
    cases hbit:qH e.mask t.p with
    | true=>
     have r:O=(T,0,0):=by rw[f,zeP hg X hfr (by rw[hbit];simp),M]
     subst r;rw[hbit]at Y;have hf:(bits BinOp.and IntKind.u64 (e.mask/2 ^ t.p) 1 == 0)=false:=Y;clear Y hbit;have d:=zc hon;clear f hg ok hn hd X hT hfr y x M f1 N hon;go_enter func48,ntmps48;go_wp2_with fail;rw[show w.alloc (.cells (zpu e) 35)=w1 from E.symm,<-c];clear E c;refine HG.out.mono ?_;rintro z w2 ⟨rfl,hw⟩;obtain rfl:=hw.symm;go_wp2_with fail;refine R.out.mono ?_;rintro z V ⟨rfl,A⟩;have j:=zc (zj Z.out A Z.out.size);have U:=zc (g.out.behind A);have B:=zc (HE.out.behind A);clear A e1 m H;obtain⟨-,-,-,-,-,m⟩:=B.out.c6;have H:=B.out.lt;have I:=U.out.tk HN.out
     obtain⟨-,-,-,t3,t4,-,-,-,t8,-⟩:=I.zq7;rw[d.out]at t3;have h8:=I.lt;have h1:=I.zpe;have P:zp7 (V.setCell ⟨L.tb n,8,none⟩ (.int .u64 e.mask)) (L.tb n) L.gb { t with mask:=e.mask }:=zi I;have h0:D≠L.tb n:=by intro e;have J:=B.out;have K:=I;unfold zp7 at K;unfold zp1 at J;rw[e,K]at J;simp only[Option.some.injEq,Obj.cells.injEq]at J;exact absurd J.2.1 (by decide)
     have l:Hid (zn w F s T L (V.setCell ⟨L.tb n,8,none⟩ (.int .u64 e.mask))):=zc (by rw[h4.out];exact zn.zo7 j.out ((U.out.zri HN.out (zo8.refl (fun k=>k=L.tb n) V).one P).grow (G:=F) h7.out));clear I P;go_wp2_with fail;go_quiet (fail);go_wp2;go_ret2;exact⟨rfl,l.out.below (zp (Below.refl _ _) nq)⟩
    | false=>
     have hc:=zm9 hg X hfr ⟨hon,hbit⟩;rw[<-M]at hc;have hh:=N;have f2:=qY f1 N hon;obtain⟨t2,ha,hv,hx,-⟩:=qn N;have v:=zdZ f2.1 (-1) e.mask;obtain⟨q,hq⟩:=zh (vz ((T.leave n).free (-1) e.mask))
     obtain⟨qb,hy⟩:=zh (zcy ((T.leave n).free (-1) e.mask))
     have H6:=zc (fun W Q (J:zq W Q s T L)=>zaw n _ b W Q s T L J f1.1 N hon);have h9:=zc (fun W Q (J:zq W Q s (T.leave n) L)=>vy (-1) e.mask b W Q s (T.leave n) L J f2.1 he.1 he.2 (.inl rfl));rw[uw,<-hq,<-hy]at h9;rw[<-hq]at hc v;obtain⟨S2,hz⟩:=zh (T.leave n)
     rw[<-hz]at hc f2 ha v H6 h9;have H9:=zc (fun W Q (J:zq W Q s S2 L)=>zaR n q false t2 b W Q s S2 L J f2.1 ha (hx.trans hd) hv v);have r:O=(S2.put n q false,0,0):=by rw[f,hc]
     subst r;rw[hbit]at Y;have hf:(bits BinOp.and IntKind.u64 (e.mask/2 ^ t.p) 1 == 0)=true:=Y;have d:=zc hon;have hj:q<1000:=by have:=f2.1.ps.2;omega
     clear f hg ok hn hd X hT hfr y x Y M f1 N hh hon hbit hc f2 ha hv hx v hq hy hz;go_enter func48,ntmps48;go_wp2_with fail;rw[show w.alloc (.cells (zpu e) 35)=w1 from E.symm,<-c];clear E c;refine HG.out.mono ?_;rintro z w2 ⟨rfl,hw⟩;obtain rfl:=hw.symm;go_wp2_with fail;refine R.out.mono ?_;rintro z V ⟨rfl,A⟩;have j:=zc (zj Z.out A Z.out.size);have U:=zc (g.out.behind A);have B:=zc (HE.out.behind A);clear A e1 m H;obtain⟨-,-,-,-,-,m⟩:=B.out.c6;have H:=B.out.lt;have I:=U.out.tk HN.out;obtain⟨-,-,-,t3,t4,-,-,-,t8,-⟩:=I.zq7;rw[d.out]at t3;have h8:=I.lt;have h1:=I.zpe
     have P:zp7 (V.setCell ⟨L.tb n,8,none⟩ (.int .u64 e.mask)) (L.tb n) L.gb { t with mask:=e.mask }:=zi I;have h0:D≠L.tb n:=by intro e;have J:=B.out;have K:=I;unfold zp7 at K;unfold zp1 at J;rw[e,K]at J;simp only[Option.some.injEq,Obj.cells.injEq]at J;exact absurd J.2.1 (by decide)
     have hr:Hid (zn V u s T L (V.setCell ⟨L.tb n,8,none⟩ (.int .u64 e.mask))):=zc (by rw[h4.out];exact U.out.zri HN.out (zo8.refl (fun k=>k=L.tb n) V).one P);clear I P;go_wp2_with fail;go_quiet (fail);go_wp2_with fail;obtain⟨w5,h6⟩:=zh ((V.setCell ⟨L.tb n,8,none⟩ (.int .u64 e.mask)).drewN nq)
     have H0:Hid (zn V u s T L w5):=zc (by rw[h6];exact hr.out.below (zp (Below.refl _ _) nq));rw[<-h6];clear h6 hr t3 t4 t8 h8 h1 m H h0;refine(H6.out _ _ H0.out.1).mono ?_;rintro z w6 ⟨⟨v6,rfl⟩,H3⟩;have h5:=zc (H0.out.then H3);clear H3;have H2:Hid (zp1 w6 D e):=zc ((h5.out.2.block D B.out.lt H8.out).trans B.out);obtain⟨-,-,-,-,-,m⟩:=H2.out.c6;have H:=H2.out.lt;go_wp2_with fail;refine(h9.out _ _ h5.out.1).mono ?_;rintro z w7 ⟨rfl,H5⟩;have H4:=zc (h5.out.below H5);clear H5 m H;go_wp2_with fail;refine(H9.out _ _ H4.out.1).mono ?_;rintro z w8 ⟨⟨v8,rfl⟩,hl⟩
     have Ha:=zc (zn.zo7 j.out ((H4.out.then hl).grow (G:=F) h7.out));clear hl;go_wp2;go_ret2;exact⟨rfl,Ha.out⟩
end
def uS(A:Nat->Nat)(w:World)(B c:Nat)(k:Nat):Nat:=if k=B then c else zD A w c k
theorem qC{X:World->(Nat->Prop)->Prop}(M:∀{w w':World} {G:Nat->Prop},X w G->zY G w w'->X w' G)(hm:∀{w:World} {G J:Nat->Prop},X w G->(∀k,k<w.heap.size->G k->J k)->X w J)
 {w w':World} {F:Nat->Prop} {E:Nat->Nat} {d c B:Nat} (h:X w (Own F E d)) (D:∀k,k<w.heap.size->Own F E d k->w'.heap[k]?=w.heap[k]?) (I:¬F B):X w' (Own (fun k=>Ext F w w' k∨k=B) (uS E w B c) d):=
 hm (M (hm h (fun k H A=>(⟨A,H⟩:Own F E d k/\k<w.heap.size))) (fun k H A=>D k A.2 A.1)) fun k H A=>⟨.inl (.inl A.1.1),by unfold uS;rw[if_neg (by rintro rfl;exact I A.1.1)];unfold zD;rw[if_pos A.2];exact A.1.2⟩
theorem zhs(tb:Nat->Nat)(l:List Tk)(t:Tk)(B:Nat):yT (zpt tb l.length B) (l++ [t])=yT tb l++ [some B]:=by
 unfold yT;rw[List.length_append,List.length_singleton,List.range_succ,List.map_append]
 congr 1
 ·refine List.map_congr_left fun n A=>?_;rw[zA _ _ (by have:=List.mem_range.1 A;omega)]
 ·simp[zy]
theorem zq.zs0{w w':World}{F:Nat->Prop}{s:Nat}{S:Sc}{L:Lay}{B I:Nat}{t:Tk}{v':Value}(h:zq w F s S L)(hB:B<w.heap.size)(D:¬F B)(hx:zp7 w B L.gb t)
 (n:zo8 (fun k=>k=s∨L.vt.ownBlock=some k) w w') (T:w'.ownsRow 0 74 1 v' (S.ts.length+1) (yq (yT L.tb S.ts++ [some B])))
 (l:∀g,v'.ownBlock=some g->L.vt.ownBlock=some g∨w.heap.size<=g) (hs:∃cs,w'.heap[s]?=some (.cells cs 66 (0,0)))
 (h7:w'.cell? ⟨s,7,none⟩=some v') (P:w'.cell? ⟨s,41+I,none⟩=some (.int .i64 S.ts.length)) (b:∀j,j≠7->j≠41+I->w'.cell? ⟨s,j,none⟩=w.cell? ⟨s,j,none⟩) (hI:I<64):
 zq w' (fun k=>Ext F w w' k∨k=B) s { S with ts:=S.ts++ [t],at_:=zpt S.at_ I S.ts.length } { L with tb:=zpt L.tb S.ts.length B,vt:=v' }:=by
 obtain⟨R,h⟩:=h;have O:Own F R 0 s:=h.sx.own;have N:∀k,L.vt.ownBlock=some k->Own F R 1 k:=h.ts.row.own;have v:=h.sx.lt;have A:∀d,d≠0->d≠1->∀k,k<w.heap.size->Own F R d k->w'.heap[k]?=w.heap[k]?:=fun d h0 J k H V=>n.block k H (by
  rintro(e | e)
  ·subst e;exact h0 (V.2.symm.trans O.2)
  ·exact J (V.2.symm.trans (N k e).2))
 have M:∀d k,k<w.heap.size->Own F R d k->Own (fun k=>Ext F w w' k∨k=B) (uS R w B 1) d k:=fun d k H V=>⟨.inl (.inl V.1),by unfold uS;rw[if_neg (by rintro rfl;exact D V.1)];unfold zD;rw[if_pos H];exact V.2⟩
 have Q:Own (fun k=>Ext F w w' k∨k=B) (uS R w B 1) 1 B:=⟨.inr rfl,by unfold uS;rw[if_pos rfl]⟩
 have Z:∀k,w.heap.size<=k->k<w'.heap.size->Own (fun k=>Ext F w w' k∨k=B) (uS R w B 1) 1 k:=fun k J C=>⟨.inl (.inr ⟨J,C⟩),by
  unfold uS;split
  ·rfl
  ·unfold zD;rw[if_neg (by omega)]⟩
 have z:s≠B:=by rintro rfl;exact D O.1
 refine⟨uS R w B 1,?_,?_,qC (X:=fun w G=>zqX w G L.gb L.bb L.lb L.vg S.gs) zqX.kept zqX.mono h.gs (A 2 (by omega) (by omega)) D,qC (X:=fun w G=>zqY w G L.bb S.gs) zqY.kept zqY.mono h.bs (A 3 (by omega) (by omega)) D,
  qC (X:=fun w G=>zqZ w G L.lb S.gs) zqZ.kept zqZ.mono h.ls (A 4 (by omega) (by omega)) D,qC (X:=fun w G=>zq0 w G L.cb L.vc S.ps S.cs) zq0.kept zq0.mono h.cs (A 5 (by omega) (by omega)) D,
  qC (X:=fun w G=>zS w G L.t L.tp S.tree) zS.kept zS.mono h.tr (A 6 (by omega) (by omega)) D,qC (X:=fun w G=>zX w G L.pp S.pool) zX.kept zX.mono h.po (A 7 (by omega) (by omega)) D,
  qC (X:=fun w G=>zM w G L.bk S.book) zM.kept zM.mono h.bk (A 8 (by omega) (by omega)) D,?_,fun p hp=>qC (X:=fun w G=>zB w G (L.hb p) (S.hs p)) zB.kept zB.mono (h.hs p hp) (A (p+9) (by omega) (by omega)) D⟩
 ·have e:=fun j (J:j≠7) (C:j≠41+I)=>b j J C;refine⟨hs,M 0 s v O,(e _ (by omega) (by omega)).trans h.sx.c0,(e _ (by omega) (by omega)).trans h.sx.c1,(e _ (by omega) (by omega)).trans h.sx.c2,(e _ (by omega) (by omega)).trans h.sx.c3,(e _ (by omega) (by omega)).trans h.sx.c4,(e _ (by omega) (by omega)).trans h.sx.c5,(e _ (by omega) (by omega)).trans h.sx.c6,h7,(e _ (by omega) (by omega)).trans h.sx.c8,fun i K=>(e _ (by omega) (by omega)).trans (h.sx.pl i K),fun i K=>?_,(e _ (by omega) (by omega)).trans h.sx.vh,(e _ (by omega) (by omega)).trans h.sx.vc,(e _ (by omega) (by omega)).trans h.sx.bk⟩;show w'.cell? ⟨s,41+i,none⟩=some (.int .i64 ((zpt S.at_ I S.ts.length i:Nat):Int))
  by_cases ei:i=I
  ·subst ei;rw[zy];exact P
  ·rw[zA _ _ ei,e _ (by omega) (by omega)];exact h.sx.at_ i K
 ·refine⟨⟨?_,fun k H=>?_⟩,fun m y U=>?_,fun a c ha r=>?_⟩
  ·rw[zhs];rw[List.length_append,qv];exact T
  ·rcases l k H with J | J
   ·exact M 1 k (h.ts.row.row.lt k J).2 (N k J)
   ·exact Z k J (T.lt k H).2
  ·by_cases hm:m<S.ts.length
   ·rw[List.getElem?_append_left hm]at U;obtain⟨x,o⟩:=h.ts.tk m y U;show Own _ _ 1 (zpt L.tb S.ts.length B m)/\zp7 w' (zpt L.tb S.ts.length B m) L.gb y;rw[zA _ _ (by omega)];refine⟨M 1 _ o.lt x,o.of (n.block _ o.lt ?_)⟩;rintro(e | e)
    ·rw[e]at x;have:=x.2;have:=O.2;omega
    ·have:=zz h.ts.row.row (show w.heap[L.tb m]?=some (.cells _ _ _)from o) (by decide);exact this e
   ·have hl:=(ze U).1;have u:m=S.ts.length:=by simp at hl;omega
    subst u;simp at U;subst U;show Own _ _ 1 (zpt L.tb S.ts.length B S.ts.length)/\zp7 w' (zpt L.tb S.ts.length B S.ts.length) L.gb t;rw[zy];refine⟨Q,hx.of (n.block _ hB ?_)⟩;rintro(e | e)
    ·exact z e.symm
    ·exact D (N B e).1
  ·intro he;have Y:∀k,k<S.ts.length->L.tb k≠B:=fun k H e=>by
    obtain⟨y,U⟩:∃y,S.ts[k]?=some y:=⟨_,List.getElem?_eq_getElem H⟩
    have:=(h.ts.tk k y U).1.1;rw[e]at this;exact D this
   have E:zpt L.tb S.ts.length B a=zpt L.tb S.ts.length B c:=he;have h4:a<S.ts.length+1:=by simpa using ha
   have h3:c<S.ts.length+1:=by simpa using r
   unfold zpt at E;split at E
   ·rename_i e1;split at E
    ·omega
    ·exact absurd E.symm (Y c (by omega))
   ·split at E
    ·exact absurd E (Y a (by omega))
    ·exact h.ts.inj a c (by omega) (by omega) E
 ·refine⟨⟨h.vh.row.1,?_⟩,fun k H=>M 0 k (h.vh.row.lt k H).2 (h.vh.own k H)⟩;rcases h.vh.row.2 with hn | ⟨g,cap,cur,hv,hb,f,hr⟩
  ·exact .inl hn
  ·refine .inr ⟨g,cap,cur,hv,hb,?_,hr⟩;have q:=(zd f).1;have W:=h.vh.own g (by rw[hv];rfl);rw[n.block g q ?_];exact f;rintro(e | e)
   ·obtain⟨cs,r⟩:=h.sx.ty;rw[e,r]at f;simp only[Option.some.injEq,Obj.cells.injEq]at f;exact absurd f.2.1 (by decide)
   ·have:=(N g e).2;have:=W.2;omega
section
attribute [local go_sem ↓] Go.wp_at_zero Go.wp_at_succ
theorem zq.zs1{w:World}{F:Nat->Prop}{s:Nat}{S:Sc}{L:Lay}(h:zq w F s S L){k r n cap:Nat}(E:k<S.ts.length)(B:L.vt=.slice (some ⟨r,0,none⟩) n cap):w.cell? ⟨s,7,none⟩=some (.slice (some ⟨r,0,none⟩) n cap)/\w.cell? ⟨r,k,none⟩=some (ptr (L.tb k))/\r<w.heap.size:=by obtain⟨-,G,H⟩:=h.zqi;obtain⟨r',h0,A,D,I⟩:=H k E;rw[B]at A;simp only[Value.slice.injEq,Option.some.injEq,Addr.mk.injEq,and_true]at A;obtain⟨e,_⟩:=A;subst e;exact⟨by rw[<-B];exact G,D,I⟩
theorem zq.zsg{w:World}{F:Nat->Prop}{s:Nat}{S:Sc}{L:Lay}(h:zq w F s S L):Pi.zrJ w 0 L.pp 64 S.pool/\w.cell? ⟨s,6,none⟩=some (ptr L.pp)/\∀x w',Pi.zpa 0 L.pp w w'->Pi.zrJ w' 0 L.pp 64 x->zn w F s { S with pool:=x } L w':=by obtain⟨tg,h⟩:=h;exact⟨h.po.x,h.sx.c6,fun x w' B A=>h.zrp B A⟩
theorem zn7{S:Sc}{n:Nat}{t:Tk}(h:S.ts[n]?=some t):∃t1,(S.leave n).ts[n]?=some t1/\t1.hi=t.hi/\t1.hg=t.hg/\(S.leave n).ts.length=S.ts.length/\(S.leave n).pool=S.pool:=by
 have A:=(ze h).1;refine⟨{ S.t n with min:=S.least n (S.t n).p,e:=(S.hs (S.t n).p).gone (S.g (S.t n).zpc).hi (S.t n).hi,on:=false },?_,?_,?_,?_,rfl⟩
 ·show(S.ts.set n _)[n]?=_;rw[List.getElem?_set_self A]
 ·rw[Sc.zp0 h]
 ·rw[Sc.zp0 h]
 ·show(S.ts.set n _).length=_;rw[List.length_set]
theorem ziS(e:Ev)(b:Nat)(w:World)(F:Nat->Prop)(s:Nat)(S:Sc)(L:Lay)(h:zq w F s S L)(ok:S.Ok b):
 Calls prog 50 #[ptr s,.agg (zpu e)] w (zq1 w F s L (S.exit e)):=by
 obtain⟨w1,G⟩:=zh (w.alloc (.cells (zpu e) 35))
 have X:Below w.heap.size w w1:=by rw[G];exact zk w _
 have h1:=h.behind X;have g:Hid (zn w F s S L w1):=zc ((zn.refl h).below X);have d:=zc (zcA e b w1 _ s S L g.out.1 ok);unfold zq1;unfold zq1 at d;by_cases l:(S.zph e.a).2=0
 ·obtain⟨p,n,t,ha,hp,J,Q,hn,ho,h6,W⟩:=zcj h ok l;obtain⟨t1,U,h5,h2,hlen,j⟩:=zn7 hn;have M:S.block e=(S.leave n,(n:Int),0):=by unfold Sc.block;rw[J];simp
  have hex:S.exit e=({ (S.leave n).zps n { t1 with dead:=true }with pool:=(S.leave n).pool.zsC t1.hi t1.hg },(n:Int),0):=by unfold Sc.exit;rw[J];simp only[if_true,Int.toNat_natCast];rw[Sc.zp0 U]
  rw[hex];rw[M]at d;obtain⟨Y,y⟩:=zh (S.leave n)
  rw[<-y]at d U hlen j ⊢;have C:n<Y.ts.length:=by rw[hlen];exact(ze hn).1
  have h7:(n:Int) <(Y.ts.length:Int):=by omega
  have E:=zc U;have u:=zc C;have h3:=zc (show Y.pool.Ok 64 (b+2)by rw[j];exact ok.zsf);have h8:=ok.zqg;clear h ok h1 X l ha hp J Q hn ho h6 W M hex y U h5 h2 hlen j C;go_enter func50,ntmps50;go_wp2_with fail;rw[show w.alloc (.cells (zpu e) 35)=w1 from G.symm];clear G;refine d.out.mono ?_;rintro z w2 ⟨rfl,I⟩;have A:=zc (g.out.then I);clear I;obtain⟨-,-,Z⟩:=A.out.1.zqi;obtain⟨r,cap,hv,-,-⟩:=Z n u.out;have HV:=zc hv;obtain⟨P,K,T⟩:=A.out.1.zs1 u.out hv;have R:=A.out.1.zqq.2;obtain⟨-,-,t2,-⟩:=(A.out.1.tk E.out).zq7;have V:=(A.out.1.tk E.out).lt
  have h0:=(A.out.1.tk E.out).zpe;have o:zp7 (w2.setCell ⟨L.tb n,2,none⟩ (.bool true)) (L.tb n) L.gb { t1 with dead:=true }:=zi (A.out.1.tk E.out);have B:=zc (A.out.then (A.out.1.zri E.out (zo8.refl _ _).one o));clear Z hv o;go_wp2_with fail;obtain⟨c,q⟩:=zh (w2.setCell ⟨L.tb n,2,none⟩ (.bool true))
  rw[<-q]at B ⊢;clear q P K T R t2 V h0;have N:=zc (xu (t':={ t1 with dead:=true }) E.out);have H:n<(Y.zps n { t1 with dead:=true }).ts.length:=(ze N.out).1;have x:=zc H;obtain⟨P,K,T⟩:=B.out.1.zs1 H HV.out;have R:=B.out.1.zqq.2;obtain⟨t0,O,-⟩:=(B.out.1.tk N.out).zq7;have V:=(B.out.1.tk N.out).lt;have hD:=B.out.1.kept (w':=c.drew) (fun k _ _=>rfl);obtain⟨hx,-,hU⟩:=hD.zsg;have s6:=B.out.1.zsg.2.1;have HU:=zc hU;have HP:=zc (Pi.zs7 t1.hi t1.hg (b+2) c.drew 0 L.pp 64 Y.pool hx h3.out (by omega) (Nat.zero_le _));clear hx hU hD H;simp only at t0 O
  go_region_held3 (fun w'=>w'.cell? ⟨s,6,none⟩=some (ptr L.pp)/\w'.cell? ⟨s,7,none⟩=some (.slice (some ⟨r,0,none⟩) Y.ts.length cap)/\w'.cell? ⟨r,n,none⟩=some (ptr (L.tb n))/\w'.cell? ⟨L.tb n,0,none⟩=some (.int .i64 t1.hi)/\w'.cell? ⟨L.tb n,1,none⟩=some (.int .i64 t1.hg)) (go_keep)
   (first
    | (
     go_at_call 94;refine HP.out.mono ?_;rintro z w4 ⟨rfl,m,v⟩;have D:=B.out.then (zn.zo7 (⟨rfl,rfl,rfl,zg _,fun _ _=>rfl⟩:Below c.heap.size c c.drew) (HU.out _ _ v m));have h4:=zc D;clear m v P K T R t0 O V s6;obtain⟨P,K,T⟩:=D.1.zs1 x.out HV.out;have R:=D.1.zqq.2;obtain⟨t0,O,-⟩:=(D.1.tk N.out).zq7;have V:=(D.1.tk N.out).lt;have s6:=D.1.zsg.2.1;simp only at t0 O;clear D))
  all_goals
   go_wp2;go_ret2;exact⟨rfl,h4.out⟩
 ·have J:=zck l;have M:S.block e=(S,0,(S.zph e.a).2):=by unfold Sc.block;rw[if_neg l]
  have hex:S.exit e=(S,0,(S.zph e.a).2):=by unfold Sc.exit;rw[if_neg l]
  rw[hex];rw[M]at d;obtain⟨f,hf⟩:=zh ((S.zph e.a).2)
  rw[<-hf]at d l ⊢;clear h ok h1 X J M hf hex;go_enter func50,ntmps50;go_wp2_with fail;rw[show w.alloc (.cells (zpu e) 35)=w1 from G.symm];clear G;refine d.out.mono ?_;rintro z w2 ⟨rfl,I⟩;have A:=zc (g.out.then I);clear I;go_wp2;go_ret2;exact⟨rfl,A.out⟩
def uT(w:World)(F:Nat->Prop)(s:Nat)(o:Out)(z:Ending)(w':World):Prop:=∃L',z=.returned (.tuple #[.int .i64 o.2.1,.int .i64 o.2.2])/\zn w F s o.1 L' w'
theorem zq1.any{w:World}{F:Nat->Prop}{s:Nat}{L:Lay}{o:Out}{z:Ending}{w':World}(h:zq1 w F s L o z w'):uT w F s o z w':=⟨L,h.1,h.2⟩
theorem zk6:(prog.info? 74).map (fun i=>(i.zero,i.size,i.bytes))=some (some (.pointer none),1,8):=by kernel_rfl
theorem zq.ztH{w:World}{F:Nat->Prop}{s:Nat}{S:Sc}{L:Lay}(h:zq w F s S L):w.ownsRow 0 74 1 L.vt S.ts.length (yq (yT L.tb S.ts)):=by obtain⟨tg,h⟩:=h;have:=h.ts.row.row;rw[qv]at this;exact this
theorem zq.tyS{w:World}{F:Nat->Prop}{s:Nat}{S:Sc}{L:Lay}(h:zq w F s S L):∃cs,w.heap[s]?=some (.cells cs 66 (0,0)):=by obtain⟨tg,h⟩:=h;exact h.sx.ty
theorem zq.atC{w:World}{F:Nat->Prop}{s:Nat}{S:Sc}{L:Lay}(h:zq w F s S L){i:Nat}(A:i<64):w.cell? ⟨s,41+i,none⟩=some (.int .i64 ((S.at_ i:Nat):Int)):=by obtain⟨tg,h⟩:=h;exact h.sx.at_ i A
theorem zq.ztf{w:World}{F:Nat->Prop}{s:Nat}{S:Sc}{L:Lay}(h:zq w F s S L):F s/\∀k,L.vt.ownBlock=some k->F k:=by obtain⟨tg,h⟩:=h;exact⟨h.sx.own.1,fun k A=>(h.ts.row.own k A).1⟩
theorem xW{w w':World}{base:Nat}{e:TypeId}{size n:Nat}{v:Value}{xs:List Value}(h:w.ownsRow base e size v n xs)(B:∀g,v.ownBlock=some g->w'.heap[g]?=w.heap[g]?):w'.ownsRow base e size v n xs:=by
 refine⟨h.1,?_⟩;rcases h.2 with G | ⟨g,cap,cur,A,hb,D,E⟩
 ·exact .inl G
 ·exact .inr ⟨g,cap,cur,A,hb,(B g (by rw[A];rfl)).trans D,E⟩
theorem zq.ztI{w E:World}{F:Nat->Prop}{s:Nat}{S:Sc}{L:Lay}{B I g2 cap2 n vc:Nat}{T:Option Addr}{t:Tk}(h:zq w F s S L)(x:B<w.heap.size)(c:¬F B)(r:zp7 w B L.gb t)(b:L.vt=.slice T n vc)(g:n=S.ts.length)
 (d:zo8 (fun k=>(Value.slice T n vc).ownBlock=some k) w E) (l:E.ownsRow 0 74 1 (.slice (some ⟨g2,0,none⟩) (n+1) cap2) (n+1) (yq (yT L.tb S.ts)++ [ptr B])) (N:(Value.slice T n vc).ownBlock=some g2∨g2=w.heap.size+1) (f:I<64):
 zn w (fun k=>F k∨k=B) s { S with ts:=S.ts++ [t],at_:=zpt S.at_ I S.ts.length } { L with tb:=zpt L.tb S.ts.length B,vt:=.slice (some ⟨g2,0,none⟩) (n+1) cap2 } ((E.setCell ⟨s,7,none⟩ (.slice (some ⟨g2,0,none⟩) (n+1) cap2)).setCell ⟨s,41+I,none⟩ (.int .i64 n)):=by
 have X:=h.zqq.2;have J:=h.ztH;obtain⟨cs,U⟩:=h.tyS;have M:∀k,(Value.slice T n vc).ownBlock=some k->k≠s:=fun k D Y=>by subst Y;rw[<-b]at D;exact zz J U (by decide) D
 have H:E.heap[s]?=w.heap[s]?:=d.block s X fun Y=>M s Y rfl;have Z:g2≠s:=by
  rcases N with A | A
  ·exact M g2 A
  ·omega
 have O:zo8 (fun k=>k=s) E ((E.setCell ⟨s,7,none⟩ (.slice (some ⟨g2,0,none⟩) (n+1) cap2)).setCell ⟨s,41+I,none⟩ (.int .i64 n)):=(zo8.refl (fun k=>k=s) E).one.one;have R:zo8 (fun k=>k=s∨L.vt.ownBlock=some k) w ((E.setCell ⟨s,7,none⟩ (.slice (some ⟨g2,0,none⟩) (n+1) cap2)).setCell ⟨s,41+I,none⟩ (.int .i64 n)):=by rw[b];exact(d.mono (G:=fun k=>k=s∨(Value.slice T n vc).ownBlock=some k) fun k D=>.inr D).trans O fun k D=>.inl (.inl D)
 have q:g2<E.heap.size:=(l.lt g2 rfl).2;have V:((E.setCell ⟨s,7,none⟩ (.slice (some ⟨g2,0,none⟩) (n+1) cap2)).setCell ⟨s,41+I,none⟩ (.int .i64 n)).ownsRow 0 74 1 (.slice (some ⟨g2,0,none⟩) (n+1) cap2) (S.ts.length+1) (yq (yT L.tb S.ts++ [some B])):=by rw[show yq (yT L.tb S.ts++ [some B])=yq (yT L.tb S.ts)++ [ptr B]by simp[yq],<-g];refine xW l fun k D=>?_;obtain rfl:g2=k:=Option.some.inj D;exact O.block g2 q Z
 have v:=h.zs0 (B:=B) (I:=I) (t:=t) (v':=.slice (some ⟨g2,0,none⟩) (n+1) cap2) x c r R V (fun k D=>by
  obtain rfl:g2=k:=Option.some.inj D;rw[b];rcases N with A | A
  ·exact .inl A
  ·exact .inr (by omega)) ⟨_,zi (zi (H.trans U))⟩ (by
  have o:E.cell? ⟨s,7,none⟩=some L.vt:=by have:=h.zqi.2.1;rw[<-this];simp[World.cell?,H]
  have h0:(7:Nat)≠41+I:=by omega
  rw[World.cell?_setCell_other _ _ _ _ (by intro e;injection e with e1 e2;omega)];exact World.cell?_setCell_same _ _ _ o) (by
  have a:E.cell? ⟨s,41+I,none⟩=some (.int .i64 ((S.at_ I:Nat):Int)):=by rw[<-h.atC f];simp[World.cell?,H]
  rw[<-g];exact World.cell?_setCell_same _ _ _ (u:=.int .i64 ((S.at_ I:Nat):Int)) (by rw[World.cell?_setCell_other _ _ _ _ (by intro e;injection e with e1 e2;omega)];exact a)) (fun j A m=>by
  have h3:7≠j:=fun e=>A e.symm;have h4:41+I≠j:=fun e=>m e.symm;have:E.cell? ⟨s,j,none⟩=w.cell? ⟨s,j,none⟩:=by simp[World.cell?,H]
  rw[World.cell?_setCell_other _ _ _ _ (by intro e;injection e with e1 e2;omega),World.cell?_setCell_other _ _ _ _ (by intro e;injection e with e1 e2;omega),this]) f
 refine⟨v.mono fun k D p=>?_,R.mono fun k D=>.inl ?_⟩
 ·rcases p with(A | A) | A
  ·exact .inl (.inl A)
  ·exact .inr A
  ·exact .inl (.inr A)
 ·rcases D with A | A
  ·subst A;exact h.ztf.1
  ·exact h.ztf.2 k A
end
theorem uU{ps:Nat}{tick gran credit lat:Int}{n:Nat}{g:Gp}(h:(Sc.new ps tick gran credit lat).gs[n]?=some g):n=0/\g=root:=by
 have A:=(ze h).1;have B:n=0:=by simp[Sc.new]at A;exact A
 subst B;exact⟨rfl,(Option.some.inj h).symm⟩
theorem zjP(ps:Nat)(tick gran credit lat:Int)(O:1<=ps/\ps<=64)(J:1<=tick/\tick<=1000000000)(T:0<=credit/\credit<=1000000000)(I:1<=lat/\lat<=1000000000):(Sc.new ps tick gran credit lat).Fit 0:=by
 have G:∀(n:Nat) (t:Tk),(Sc.new ps tick gran credit lat).ts[n]?=some t->False:=fun n t h=>by simp[Sc.new]at h
 have H:∀k z,(Hm.new credit gran).gs k=some z->k=0:=fun k z E=>by
  simp only[Hm.new]at E;split at E
  ·assumption
  ·cases E
 refine⟨⟨by omega,O,J,T,I,zoG,zoH.more,(Pi.Ps.Ok.start 64 (by omega)).more.more,by simp[Sc.new],by simp[Sc.new],⟨root,rfl,rfl,rfl,rfl,rfl⟩,?_,?_,?_,?_,fun n t h=>(G n t h).elim,fun n t h=>(G n t h).elim,?_,?_,fun _ _=>rfl,fun _ _=>zmQ credit gran,?_,?_,?_⟩,fun _ _=>(zib credit gran).1⟩
 ·intro n g D _;obtain⟨rfl,rfl⟩:=uU D;exact⟨⟨_,rfl,rfl,rfl⟩,rfl⟩
 ·intro i n U;have A:(if i=0 then some 0 else none)=some n:=U;split at A
  ·rename_i e;obtain rfl:=Option.some.inj A;exact⟨root,rfl,rfl,e.symm⟩
  ·cases A
 ·intro i q N hu;have R:i=0:=by have:=(ze N).1;simp[Sc.new,zsJ]at this;exact this
  subst R;exact⟨0,rfl⟩
 ·intro n g D _ B;exact absurd (uU D).1 B
 ·intro p hp i;show((Hm.new credit gran).gs i).isSome=(if i=0 then some 0 else none:Option Nat).isSome;unfold Hm.new;by_cases e:i=0
  ·simp[e]
  ·simp[e]
 ·intro p hp i x V B;exact absurd (H i x V) B
 ·intro p hp i k;constructor
  ·intro h;exact absurd h ((zib credit gran).2 i k)
  ·rintro⟨n,t,g,M,_⟩;exact(G n t M).elim
 ·intro p hp;exact⟨⟨by show(1:Int)<=lat/\lat<=1000000000;exact I,by show(-1:Int)<= -1/\(-1:Int)<=1000000;omega,by show(0:Int)<=0/\(0:Int)<=_;omega,by show(0:Int)<=0/\(0:Int)<=_;omega,by show(0:Int)<=0/\(0:Int)<=_;omega⟩,rfl⟩
 ·exact⟨fun _=>⟨Int.le_refl _,Int.le_refl _⟩,fun _=>⟨Int.le_refl _,Int.le_refl _⟩,by show(0:Int)<=0/\(0:Int)<=_;omega,by show 0<=13*0;omega⟩
theorem zna(ps:Nat)(tick gran credit lat:Int):(Sc.new ps tick gran credit lat).Kp [-1]:=by refine⟨fun n g A=>by obtain⟨_,rfl⟩:=uU A;rfl,rfl,rfl,fun n g B A=>absurd (uU A).1 B,fun n t h=>by simp[Sc.new]at h,fun _ _=>rfl,fun _ _=>rfl,fun g A=>rfl⟩
structure SB(w:World)(F:Nat->Prop)(s:Nat)(S:Sc)(L:Lay)(tg:Nat->Nat)(n m:Nat):Prop where
 sx:Sx w (Own F tg 0) s S L
 ts:zrc w (Own F tg 1) L.tb L.gb L.vt S.ts
 gs:zqX w (Own F tg 2) L.gb L.bb L.lb L.vg S.gs
 bs:zqY w (Own F tg 3) L.bb S.gs
 ls:zqZ w (Own F tg 4) L.lb S.gs
 cs:zq0 w (Own F tg 5) L.cb L.vc m S.cs
 tr:zS w (Own F tg 6) L.t L.tp S.tree
 po:zX w (Own F tg 7) L.pp S.pool
 bk:zM w (Own F tg 8) L.bk S.book
 vh:xJ w (Own F tg 0) 99 L.vh (yo L.hb n)
 hs:∀p,p<n->zB w (Own F tg (p+9)) (L.hb p) (S.hs p)
theorem SB.done{w:World}{F:Nat->Prop}{s:Nat}{S:Sc}{L:Lay}{A:Nat->Nat}(h:SB w F s S L A S.ps S.ps):zq w F s S L:=⟨A,h.sx,h.ts,h.gs,h.bs,h.ls,h.cs,h.tr,h.po,h.bk,h.vh,h.hs⟩
theorem zU{X:World->(Nat->Prop)->Prop}(I:∀{w w':World} {G:Nat->Prop},X w G->zY G w w'->X w' G)(hm:∀{w:World} {G H:Nat->Prop},X w G->(∀k,k<w.heap.size->G k->H k)->X w H)
 {w w':World} {F:Nat->Prop} {D:Nat->Nat} {d c:Nat} (h:X w (Own F D d)) (B:∀k,k<w.heap.size->Own F D d k->w'.heap[k]?=w.heap[k]?):X w' (Own F (zD D w c) d):=
 hm (I (hm h (fun k E A=>(⟨A,E⟩:Own F D d k/\k<w.heap.size))) (fun k E A=>B k A.2 A.1)) fun k E A=>⟨A.1.1,by unfold zD;rw[if_pos A.2];exact A.1.2⟩
theorem SB.same{w w':World}{F:Nat->Prop}{s:Nat}{S:Sc}{L:Lay}{A:Nat->Nat}{n m:Nat}(h:SB w F s S L A n m)(hb:Below w.heap.size w w')(c:Nat):SB w' F s S L (zD A w c) n m:=by
 have e:∀d k,k<w.heap.size->Own F A d k->w'.heap[k]?=w.heap[k]?:=fun d k B _=>hb.block k B;exact⟨zU (X:=fun w G=>Sx w G s S L) Sx.kept Sx.mono h.sx (e 0),zU (X:=fun w G=>zrc w G L.tb L.gb L.vt S.ts) zrc.kept zrc.mono h.ts (e 1),zU (X:=fun w G=>zqX w G L.gb L.bb L.lb L.vg S.gs) zqX.kept zqX.mono h.gs (e 2),zU (X:=fun w G=>zqY w G L.bb S.gs) zqY.kept zqY.mono h.bs (e 3),
  zU (X:=fun w G=>zqZ w G L.lb S.gs) zqZ.kept zqZ.mono h.ls (e 4),zU (X:=fun w G=>zq0 w G L.cb L.vc m S.cs) zq0.kept zq0.mono h.cs (e 5),zU (X:=fun w G=>zS w G L.t L.tp S.tree) zS.kept zS.mono h.tr (e 6),zU (X:=fun w G=>zX w G L.pp S.pool) zX.kept zX.mono h.po (e 7),
  zU (X:=fun w G=>zM w G L.bk S.book) zM.kept zM.mono h.bk (e 8),zU (X:=fun w G=>xJ w G 99 L.vh (yo L.hb n)) xJ.kept xJ.mono h.vh (e 0),fun p hp=>zU (X:=fun w G=>zB w G (L.hb p) (S.hs p)) zB.kept zB.mono (h.hs p hp) (e (p+9))⟩
theorem zd5(f:Nat->Nat)(n B:Nat):yo (zpt f n B) (n+1)=yo f n++ [some B]:=by
 unfold yo;rw[List.range_succ,List.map_append]
 congr 1
 ·refine List.map_congr_left fun k A=>?_;rw[zA _ _ (by have:=List.mem_range.1 A;omega)]
 ·simp[zy]
theorem SB.addH{w w':World}{F:Nat->Prop}{s:Nat}{S:Sc}{L:Lay}{D:Nat->Nat}{n m B:Nat}{v':Value}(h:SB w F s S L D n m)(Z:∀k,w.heap.size<=k->F k)(b:zB w (Own F D (n+9)) B (S.hs n))
 (Y:zo8 (fun k=>k=s∨L.vh.ownBlock=some k) w w') (O:w'.ownsRow 0 99 1 v' (n+1) (yq (yo L.hb n++ [some B])))
 (E:∀g,v'.ownBlock=some g->L.vh.ownBlock=some g∨w.heap.size<=g) (hs:∃cs,w'.heap[s]?=some (.cells cs 66 (0,0)))
 (a:w'.cell? ⟨s,105,none⟩=some v') (A:∀j,j≠105->w'.cell? ⟨s,j,none⟩=w.cell? ⟨s,j,none⟩):
 SB w' F s S { L with hb:=zpt L.hb n B,vh:=v' } (zD D w 0) (n+1) m:=by
 have R:Own F D 0 s:=h.sx.own;have J:∀k,L.vh.ownBlock=some k->Own F D 0 k:=h.vh.own;have e:∀d,d≠0->∀k,k<w.heap.size->Own F D d k->w'.heap[k]?=w.heap[k]?:=fun d V k H M=>Y.block k H (by
  rintro(e | e)
  ·subst e;exact V (M.2.symm.trans R.2)
  ·exact V (M.2.symm.trans (J k e).2))
 have N:∀d k,k<w.heap.size->Own F D d k->Own F (zD D w 0) d k:=fun d k H M=>⟨M.1,by unfold zD;rw[if_pos H];exact M.2⟩
 refine⟨?_,zU (X:=fun w G=>zrc w G L.tb L.gb L.vt S.ts) zrc.kept zrc.mono h.ts (e 1 (by omega)),zU (X:=fun w G=>zqX w G L.gb L.bb L.lb L.vg S.gs) zqX.kept zqX.mono h.gs (e 2 (by omega)),zU (X:=fun w G=>zqY w G L.bb S.gs) zqY.kept zqY.mono h.bs (e 3 (by omega)),
  zU (X:=fun w G=>zqZ w G L.lb S.gs) zqZ.kept zqZ.mono h.ls (e 4 (by omega)),zU (X:=fun w G=>zq0 w G L.cb L.vc m S.cs) zq0.kept zq0.mono h.cs (e 5 (by omega)),zU (X:=fun w G=>zS w G L.t L.tp S.tree) zS.kept zS.mono h.tr (e 6 (by omega)),zU (X:=fun w G=>zX w G L.pp S.pool) zX.kept zX.mono h.po (e 7 (by omega)),
  zU (X:=fun w G=>zM w G L.bk S.book) zM.kept zM.mono h.bk (e 8 (by omega)),?_,fun p hp=>?_⟩
 ·exact⟨hs,N 0 s h.sx.lt R,(A _ (by omega)).trans h.sx.c0,(A _ (by omega)).trans h.sx.c1,(A _ (by omega)).trans h.sx.c2,(A _ (by omega)).trans h.sx.c3,(A _ (by omega)).trans h.sx.c4,(A _ (by omega)).trans h.sx.c5,(A _ (by omega)).trans h.sx.c6,(A _ (by omega)).trans h.sx.c7,(A _ (by omega)).trans h.sx.c8,fun i U=>(A _ (by omega)).trans (h.sx.pl i U),fun i U=>(A _ (by omega)).trans (h.sx.at_ i U),a,(A _ (by omega)).trans h.sx.vc,(A _ (by omega)).trans h.sx.bk⟩
 ·show xJ w' _ _ v' (yo (zpt L.hb n B) (n+1));rw[zd5];refine⟨by rw[show(yo L.hb n++ [some B]).length=n+1 by simp[yo]];exact O,fun k H=>?_⟩;rcases E k H with T | T
  ·exact N 0 k (h.vh.row.lt k T).2 (J k T)
  ·exact⟨Z k T,by unfold zD;rw[if_neg (by omega)]⟩
 ·show zB w' (Own F (zD D w 0) (p+9)) (zpt L.hb n B p) (S.hs p);by_cases I:p=n
  ·subst I;rw[zy];exact zU (X:=fun w G=>zB w G B (S.hs p)) zB.kept zB.mono b (e (p+9) (by omega))
  ·rw[zA _ _ I];exact zU (X:=fun w G=>zB w G (L.hb p) (S.hs p)) zB.kept zB.mono (h.hs p (by omega)) (e (p+9) (by omega))
theorem SB.addC{w w':World}{F:Nat->Prop}{s:Nat}{S:Sc}{L:Lay}{H:Nat->Nat}{n m B:Nat}{v':Value}(h:SB w F s S L H n m)(K:∀k,w.heap.size<=k->F k)(v:yj w B (S.cs m))(O:Own F H 5 B)(V:∀p,p<m->L.cb p≠B)
 (q:zo8 (fun k=>k=s∨L.vc.ownBlock=some k) w w') (Y:w'.ownsRow 0 107 1 v' (m+1) (yq (yo L.cb m++ [some B])))
 (N:∀g,v'.ownBlock=some g->L.vc.ownBlock=some g∨w.heap.size<=g) (hs:∃cs,w'.heap[s]?=some (.cells cs 66 (0,0)))
 (l:w'.cell? ⟨s,106,none⟩=some v') (A:∀j,j≠106->w'.cell? ⟨s,j,none⟩=w.cell? ⟨s,j,none⟩):
 SB w' F s S { L with cb:=zpt L.cb m B,vc:=v' } (zD H w 5) n (m+1):=by
 have M:Own F H 0 s:=h.sx.own;have J:∀k,L.vc.ownBlock=some k->Own F H 5 k:=h.cs.row.own;have e:∀d,d≠0->d≠5->∀k,k<w.heap.size->Own F H d k->w'.heap[k]?=w.heap[k]?:=fun d z C k I T=>q.block k I (by
  rintro(e | e)
  ·subst e;exact z (T.2.symm.trans M.2)
  ·exact C (T.2.symm.trans (J k e).2))
 have E:∀d k,k<w.heap.size->Own F H d k->Own F (zD H w 5) d k:=fun d k I T=>⟨T.1,by unfold zD;rw[if_pos I];exact T.2⟩
 have Z:∀{p:Nat} {c:Ck},yj w p c->Own F H 5 p->w'.heap[p]?=w.heap[p]?:=fun{p c} b y=>q.block p b.lt (by
  rintro(e | e)
  ·rw[e]at y;have:=y.2;have:=M.2;omega
  ·exact zz h.cs.row.row (show w.heap[p]?=some (.cells _ _ _)from b) (by decide) e)
 refine⟨?_,zU (X:=fun w G=>zrc w G L.tb L.gb L.vt S.ts) zrc.kept zrc.mono h.ts (e 1 (by omega) (by omega)),zU (X:=fun w G=>zqX w G L.gb L.bb L.lb L.vg S.gs) zqX.kept zqX.mono h.gs (e 2 (by omega) (by omega)),zU (X:=fun w G=>zqY w G L.bb S.gs) zqY.kept zqY.mono h.bs (e 3 (by omega) (by omega)),
  zU (X:=fun w G=>zqZ w G L.lb S.gs) zqZ.kept zqZ.mono h.ls (e 4 (by omega) (by omega)),?_,zU (X:=fun w G=>zS w G L.t L.tp S.tree) zS.kept zS.mono h.tr (e 6 (by omega) (by omega)),zU (X:=fun w G=>zX w G L.pp S.pool) zX.kept zX.mono h.po (e 7 (by omega) (by omega)),
  zU (X:=fun w G=>zM w G L.bk S.book) zM.kept zM.mono h.bk (e 8 (by omega) (by omega)),?_,fun p hp=>zU (X:=fun w G=>zB w G (L.hb p) (S.hs p)) zB.kept zB.mono (h.hs p hp) (e (p+9) (by omega) (by omega))⟩
 ·exact⟨hs,E 0 s h.sx.lt M,(A _ (by omega)).trans h.sx.c0,(A _ (by omega)).trans h.sx.c1,(A _ (by omega)).trans h.sx.c2,(A _ (by omega)).trans h.sx.c3,(A _ (by omega)).trans h.sx.c4,(A _ (by omega)).trans h.sx.c5,(A _ (by omega)).trans h.sx.c6,(A _ (by omega)).trans h.sx.c7,(A _ (by omega)).trans h.sx.c8,fun i u=>(A _ (by omega)).trans (h.sx.pl i u),fun i u=>(A _ (by omega)).trans (h.sx.at_ i u),(A _ (by omega)).trans h.sx.vh,l,(A _ (by omega)).trans h.sx.bk⟩
 ·refine⟨?_,fun p hp=>?_,fun a c ha b he=>?_⟩
  ·show xJ w' _ _ v' (yo (zpt L.cb m B) (m+1));rw[zd5];refine⟨by rw[show(yo L.cb m++ [some B]).length=m+1 by simp[yo]];exact Y,fun k I=>?_⟩;rcases N k I with f | f
   ·exact E 5 k (h.cs.row.row.lt k f).2 (J k f)
   ·exact⟨K k f,by unfold zD;rw[if_neg (by omega)]⟩
  ·show Own F (zD H w 5) 5 (zpt L.cb m B p)/\yj w' (zpt L.cb m B p) (S.cs p);by_cases R:p=m
   ·subst R;rw[zy];exact⟨E 5 B v.lt O,v.of (Z v O)⟩
   ·rw[zA _ _ R];obtain⟨o,k⟩:=h.cs.ck p (by omega);exact⟨E 5 _ k.lt o,k.of (Z k o)⟩
  ·have D:zpt L.cb m B a=zpt L.cb m B c:=he;unfold zpt at D;split at D
   ·split at D
    ·omega
    ·exact absurd D.symm (V c (by omega))
   ·split at D
    ·exact absurd D (V a (by omega))
    ·exact h.cs.inj a c (by omega) (by omega) D
 ·refine⟨⟨h.vh.row.1,?_⟩,fun k I=>E 0 k (h.vh.row.lt k I).2 (h.vh.own k I)⟩;rcases h.vh.row.2 with Q | ⟨g,cap,cur,l,hb,U,P⟩
  ·exact .inl Q
  ·refine .inr ⟨g,cap,cur,l,hb,?_,P⟩;have x:=(zd U).1;have r:=h.vh.own g (by rw[l];rfl);rw[q.block g x ?_];exact U;rintro(e | e)
   ·obtain⟨cs,b⟩:=h.sx.ty;rw[e,b]at U;simp only[Option.some.injEq,Obj.cells.injEq]at U;exact absurd U.2.1 (by decide)
   ·have:=(J g e).2;have:=r.2;omega
theorem zk7{w:World}{base t A:Nat}{x:Ps}(h:zqn w base t A x):zS w (fun k=>base<=k/\k<w.heap.size) t A x:=by obtain⟨v,hp⟩:=h.has;exact⟨⟨h.tb,⟨v,hp.zp5,zaf hp.own (Nat.zero_le _),hp.ne,Nat.zero_le _⟩,Nat.zero_le _⟩,⟨h.lo,h.lt⟩,⟨hp.lo,hp.lt⟩,fun z B=>hp.own.lt z (hp.rowIs B)⟩
def xo(n:Nat)(tick gran credit lat:Int)(t p:Option Nat)(A:Nat):Array Value:=
 (([.int .i64 n,.int .i64 tick,.int .i64 gran,.int .i64 credit,.int .u64 lat,.pointer (t.map fun b=>⟨b,0,none⟩),.pointer (p.map fun b=>⟨b,0,none⟩),.slice none 0 0,.slice none 0 0]:List Value)++(List.replicate 32 (Value.pointer none)++(List.replicate 64 (Value.int .i64 0)++([.slice none 0 0,.slice none 0 0,ptr A]:List Value)))).toArray
theorem zk8(n:Nat)(tick gran credit lat:Int)(t p:Option Nat)(A i:Nat)(hi:i<32):(xo n tick gran credit lat t p A)[9+i]?=some (.pointer none):=by unfold xo;rw[List.getElem?_toArray,List.getElem?_append_right (by simp),List.getElem?_append_left (by simp;omega),List.getElem?_replicate,if_pos (by simp;omega)]
theorem zk9(n:Nat)(tick gran credit lat:Int)(t p:Option Nat)(A i:Nat)(hi:i<64):(xo n tick gran credit lat t p A)[41+i]?=some (.int .i64 0):=by unfold xo;rw[List.getElem?_toArray,List.getElem?_append_right (by simp;omega),List.getElem?_append_right (by simp;omega),List.getElem?_append_left (by simp;omega),List.getElem?_replicate,if_pos (by simp;omega)]
theorem ziT(w:World)(g b:Nat)(e:TypeId)(h:w.heap[g]?=some (.cells #[ptr b] e (0,0))):w.ownsRow 0 e 1 (.slice (some ⟨g,0,none⟩) 1 1) 1 [ptr b]:=
 ⟨rfl,.inr ⟨g,1,#[ptr b],rfl,Nat.zero_le _,h,by omega,by unfold maxLen;omega,rfl,rfl⟩⟩
theorem znb{w w1 O B:World}{n:Nat}{tick gran credit lat:Int}{s t d Y H:Nat}(h1:w.heap.size<=w1.heap.size)(N:w1.heap.size<=H/\H<=s)(x:zS O (fun k=>w1.heap.size<=k/\k<H) t d zsJ)(hB:zM O (fun k=>H<=k/\k<s) Y Bk.new)(h0:O.heap.size=s+1)
 (Q:O.heap[s]?=some (.cells (xo n tick gran credit lat (some t) none Y) 66 (0,0))) (o:zo8 (fun k=>k=s) O B)
 (hp:B.heap[s+1]?=some (.cells #[.int .i64 64,.int .i64 0,.slice none 0 0,.int .i64 (-1)] 147 (0,0))) (P:B.heap[s+2]?=some (.cells #[.int .i64 0,.int .i64 0,.int .i64 0,.int .u64 0,.int .i64 0,.pointer none,.pointer none] 86 (0,0))) (u:B.heap[s+3]?=some (.cells #[ptr (s+2)] 59 (0,0)))
 (hs:∃cs,B.heap[s]?=some (.cells cs 66 (0,0))) (S:B.cell? ⟨s,6,none⟩=some (ptr (s+1))) (K:B.cell? ⟨s,8,none⟩=some (.slice (some ⟨s+3,0,none⟩) 1 1)) (h9:B.cell? ⟨s,9,none⟩=some (ptr (s+2))) (A:∀j,j≠6->j≠8->j≠9->B.cell? ⟨s,j,none⟩=O.cell? ⟨s,j,none⟩):
 ∃L D,SB B (fun k=>w.heap.size<=k) s (Sc.new n tick gran credit lat) L D 0 0/\L.t=t:=by
 have G:∀j v,(xo n tick gran credit lat (some t) none Y)[j]?=some v->O.cell? ⟨s,j,none⟩=some v:=fun j v Z=>by simp[World.cell?,Q,Z]
 obtain⟨D,J⟩:∃D:Nat->Nat,D=fun k=>if k<H then 6 else if k<s then 8 else if k=s then 0 else if k=s+1 then 7 else 2:=⟨_,rfl⟩
 have W:Own (fun k=>w.heap.size<=k) D 0 s:=⟨by show w.heap.size<=s;omega,by rw[J];show(if s<H then 6 else if s<s then 8 else if s=s then 0 else _)=0;rw[if_neg (by omega),if_neg (by omega),if_pos rfl]⟩
 have q:∀k,s+2<=k->Own (fun k=>w.heap.size<=k) D 2 k:=fun k E=>⟨by show w.heap.size<=k;omega,by rw[J];show(if k<H then 6 else if k<s then 8 else if k=s then 0 else if k=s+1 then 7 else 2)=2;rw[if_neg (by omega),if_neg (by omega),if_neg (by omega),if_neg (by omega)]⟩
 have C:Own (fun k=>w.heap.size<=k) D 7 (s+1):=⟨by show w.heap.size<=s+1;omega,by rw[J];show(if s+1<H then 6 else if s+1<s then 8 else if s+1=s then 0 else if s+1=s+1 then 7 else 2)=7;rw[if_neg (by omega),if_neg (by omega),if_neg (by omega),if_pos rfl]⟩
 have r:∀k,w1.heap.size<=k/\k<H->Own (fun k=>w.heap.size<=k) D 6 k:=fun k E=>⟨by show w.heap.size<=k;omega,by rw[J];show(if k<H then 6 else _)=6;rw[if_pos E.2]⟩
 have F:∀k,H<=k/\k<s->Own (fun k=>w.heap.size<=k) D 8 k:=fun k E=>⟨by show w.heap.size<=k;omega,by rw[J];show(if k<H then 6 else if k<s then 8 else _)=8;rw[if_neg (by omega),if_pos E.2]⟩
 have g:zS B (Own (fun k=>w.heap.size<=k) D 6) t d zsJ:=(x.kept fun k E V=>o.block k E (by omega)).mono fun k _ V=>r k V;have l:zM B (Own (fun k=>w.heap.size<=k) D 8) Y Bk.new:=(hB.kept fun k E V=>o.block k E (by omega)).mono fun k _ V=>F k V;have M:∀(c:Nat) (e:TypeId),xJ B (Own (fun k=>w.heap.size<=k) D c) e (.slice none 0 0) []:=fun c e=>⟨World.ownsRow_nil _ _ _ _,fun k E=>by simp[Value.ownBlock]at E⟩
 have U:∀m,m<(Sc.new n tick gran credit lat).gs.length->m=0:=fun m hm=>by simp[Sc.new]at hm;exact hm
 refine⟨⟨fun _=>0,fun _=>s+2,fun _=>0,fun _=>0,fun _=>0,fun _=>0,t,d,s+1,Y,.slice none 0 0,.slice (some ⟨s+3,0,none⟩) 1 1,.slice none 0 0,.slice none 0 0⟩,D,⟨?_,?_,?_,?_,?_,?_,g,?_,l,M 0 _,fun p hp=>absurd hp (by omega)⟩,rfl⟩
 ·refine⟨hs,W,(A 0 (by omega) (by omega) (by omega)).trans (G 0 _ rfl),(A 1 (by omega) (by omega) (by omega)).trans (G 1 _ rfl),(A 2 (by omega) (by omega) (by omega)).trans (G 2 _ rfl),(A 3 (by omega) (by omega) (by omega)).trans (G 3 _ rfl),(A 4 (by omega) (by omega) (by omega)).trans (G 4 _ rfl),(A 5 (by omega) (by omega) (by omega)).trans (G 5 _ rfl),S,(A 7 (by omega) (by omega) (by omega)).trans (G 7 _ rfl),K,fun i f=>?_,fun i f=>?_,(A 105 (by omega) (by omega) (by omega)).trans (G 105 _ rfl),(A 106 (by omega) (by omega) (by omega)).trans (G 106 _ rfl),(A 107 (by omega) (by omega) (by omega)).trans (G 107 _ rfl)⟩
  ·show _=some (Value.pointer ((if i=0 then some 0 else none).map fun n=>⟨s+2,0,none⟩));by_cases e:i=0
   ·subst e;exact h9
   ·rw[if_neg e];exact(A (9+i) (by omega) (by omega) (by omega)).trans (G _ _ (zk8 _ _ _ _ _ _ _ _ i f))
  ·exact(A (41+i) (by omega) (by omega) (by omega)).trans (G _ _ (zk9 _ _ _ _ _ _ _ _ i f))
 ·exact⟨M 1 _,fun m y T=>by simp[Sc.new]at T,fun a c N=>absurd N (by simp[Sc.new])⟩
 ·refine⟨⟨ziT B (s+3) (s+2) _ u,fun k E=>?_⟩,fun m y T=>?_,fun a c N I _=>by rw[U a N,U c I]⟩
  ·obtain rfl:s+3=k:=Option.some.inj E;exact q _ (by omega)
  ·obtain⟨rfl,rfl⟩:=uU T;exact⟨q _ (zg _),P⟩
 ·exact⟨(fun m y b T R=>by obtain⟨_,rfl⟩:=uU T;cases R),fun a c N I _=>by rw[U a N,U c I]⟩
 ·exact⟨(fun m y T R=>by obtain⟨_,rfl⟩:=uU T;cases R),fun a c N I _=>by rw[U a N,U c I]⟩
 ·exact⟨M 5 _,fun p hp=>absurd hp (by omega),fun a c N=>absurd N (by omega)⟩
 ·refine⟨⟨.slice none 0 0,hp,World.ownsRow_nil _ _ _ _,by simp[Value.ownBlock],Nat.zero_le _⟩,C,fun z h=>?_⟩;obtain⟨v,Z,X⟩:=h;have:B.cell? ⟨s+1,2,none⟩=some (.slice none 0 0):=by simp[World.cell?,hp]
  rw[this]at Z;obtain rfl:=Option.some.inj Z;simp[Value.ownBlock]at X
def zbn(A:World)(s:Nat):World:=((((A.setCell ⟨s,6,none⟩ (ptr (s+1))).setCell ⟨s,8,none⟩ (.slice (some ⟨s+2+1,0,none⟩) 1 1)).setCell ⟨s,9,none⟩ (ptr (s+2))).alloc (.cells #[.int .i64 0,.int .i64 0,.int .i64 0,.int .u64 0,.int .i64 0,.pointer none,.pointer none] 86)).alloc (.cells #[ptr (s+2)] 59)
theorem zla{w w1 R G A:World}{n:Nat}{tick gran credit lat:Int}{s t S l:Nat}(C:w.heap.size<=w1.heap.size)(a:Below w1.heap.size w1 R)(X:Below R.heap.size R G)(Q:zS R (fun k=>w1.heap.size<=k/\k<R.heap.size) t S zsJ)(hB:zM G (fun k=>R.heap.size<=k/\k<G.heap.size) l Bk.new)(hs:s=G.heap.size)
 (I:(G.alloc (.cells (xo n tick gran credit lat (some t) none l) 66)).alloc (.cells #[.int .i64 64,.int .i64 0,.slice none 0 0,.int .i64 (-1)] 147)=A):
 (∃L tg,SB (zbn A s) (fun k=>w.heap.size<=k) s (Sc.new n tick gran credit lat) L tg 0 0/\L.t=t)/\Below w1.heap.size w1 (zbn A s):=by
 obtain⟨B,J⟩:=zh (G.alloc (.cells (xo n tick gran credit lat (some t) none l) 66))
 rw[<-J]at I;have g:Below G.heap.size G B:=by rw[J];exact zk G _
 have Z:B.heap.size=s+1:=by rw[J,hs];simp
 have T:B.heap[s]?=some (.cells (xo n tick gran credit lat (some t) none l) 66 (0,0)):=by rw[J,hs];exact heap_alloc_new G _
 have r:A.heap.size=s+2:=by rw[<-I];simp[Z]
 have f:Below B.heap.size B A:=by rw[<-I];exact zk B _
 have q:=(f.block s (by omega)).trans T;have y:A.heap[s+1]?=some (.cells #[.int .i64 64,.int .i64 0,.slice none 0 0,.int .i64 (-1)] 147 (0,0)):=by rw[<-I,<-Z];exact heap_alloc_new B _
 have Y:zo8 (fun k=>k=s) A (((A.setCell ⟨s,6,none⟩ (ptr (s+1))).setCell ⟨s,8,none⟩ (.slice (some ⟨s+2+1,0,none⟩) 1 1)).setCell ⟨s,9,none⟩ (ptr (s+2))):=(((zo8.refl (fun k=>k=s) A).setCell (p:=⟨s,6,none⟩) (.inl rfl) _).setCell (p:=⟨s,8,none⟩) (.inl rfl) _).setCell (p:=⟨s,9,none⟩) (.inl rfl) _;obtain⟨D,M⟩:=zh (((A.setCell ⟨s,6,none⟩ (ptr (s+1))).setCell ⟨s,8,none⟩ (.slice (some ⟨s+2+1,0,none⟩) 1 1)).setCell ⟨s,9,none⟩ (ptr (s+2)))
 rw[<-M]at Y;have b:D.heap.size=s+2:=by rw[M];simp[r]
 have c:=zi (i:=9) (u:=ptr (s+2)) (zi (i:=8) (u:=.slice (some ⟨s+2+1,0,none⟩) 1 1) (zi (i:=6) (u:=ptr (s+1)) q));rw[<-M]at c;have K:zbn A s=(D.alloc (.cells #[.int .i64 0,.int .i64 0,.int .i64 0,.int .u64 0,.int .i64 0,.pointer none,.pointer none] 86)).alloc (.cells #[ptr (s+2)] 59):=by rw[M];rfl
 rw[K];obtain⟨U,H⟩:=zh ((D.alloc (.cells #[.int .i64 0,.int .i64 0,.int .i64 0,.int .u64 0,.int .i64 0,.pointer none,.pointer none] 86)).alloc (.cells #[ptr (s+2)] 59))
 have V:Below D.heap.size D U:=by rw[H];exact(zk D _).alloc (by simp) _
 have o:U.heap[s+2]?=some (.cells #[.int .i64 0,.int .i64 0,.int .i64 0,.int .u64 0,.int .i64 0,.pointer none,.pointer none] 86 (0,0)):=by rw[H,<-b];exact(Below.heap_alloc _ _ _ (by simp)).trans (heap_alloc_new D _)
 have v:U.heap[s+3]?=some (.cells #[ptr (s+2)] 59 (0,0)):=by have h:=heap_alloc_new (D.alloc (.cells #[.int .i64 0,.int .i64 0,.int .i64 0,.int .u64 0,.int .i64 0,.pointer none,.pointer none] 86)) (.cells #[ptr (s+2)] 59);rw[show(D.alloc (.cells #[.int .i64 0,.int .i64 0,.int .i64 0,.int .u64 0,.int .i64 0,.pointer none,.pointer none] 86)).heap.size=s+3 by simp[b]]at h;rw[H];exact h
 rw[<-H];have N:Below R.heap.size R B:=zj X g X.size;have d:=a.size;have h0:=X.size;have E:=(V.block s (by omega)).trans c;have O:zo8 (fun k=>k=s) B U:=((zo8.zo7 f:zo8 (fun k=>k=s) B A).trans Y fun x z=>.inl z).trans (zo8.zo7 V:zo8 (fun k=>k=s) D U) fun x z=>.inl z;refine⟨znb C ⟨d,by omega⟩ (Q.kept (.zo7 N)) ((hB.kept (.zo7 g)).mono fun k _ m=>⟨m.1,by omega⟩) Z T O ((V.block (s+1) (by omega)).trans ((Y.block (s+1) (by omega) (by omega)).trans y)) o v ⟨_,E⟩ ?_ ?_ ?_ ?_,?_⟩
 ·simp[World.cell?,E,xo]
 ·simp[World.cell?,E,xo]
 ·simp[World.cell?,E,xo]
 ·intro j P F W;simp only[World.cell?,E,T];rw[Array.getElem?_setIfInBounds_ne (Ne.symm W),Array.getElem?_setIfInBounds_ne (Ne.symm F),Array.getElem?_setIfInBounds_ne (Ne.symm P)]
 ·exact(zj a N d).trans (O.below (by omega) fun k m=>by rw[m];omega)
theorem SB.stepH{w A:World}{F:Nat->Prop}{s:Nat}{S:Sc}{L:Lay}{V:Nat->Nat}{n m B g2 cap2:Nat}(h:SB w F s S L V n m)(a:∀k,w.heap.size<=k->F k)(f:zB w (Own F V (n+9)) B (S.hs n))
 (X:zo8 (fun k=>L.vh.ownBlock=some k) w A) (Z:A.ownsRow 0 99 1 (.slice (some ⟨g2,0,none⟩) (n+1) cap2) (n+1) (yq (yo L.hb n)++ [ptr B])) (I:L.vh.ownBlock=some g2∨w.heap.size<=g2):
 SB (A.setCell ⟨s,105,none⟩ (.slice (some ⟨g2,0,none⟩) (n+1) cap2)) F s S { L with hb:=zpt L.hb n B,vh:=.slice (some ⟨g2,0,none⟩) (n+1) cap2 } (zD V w 0) (n+1) m/\zo8 (fun k=>k=s∨L.vh.ownBlock=some k) w (A.setCell ⟨s,105,none⟩ (.slice (some ⟨g2,0,none⟩) (n+1) cap2)):=by
 obtain⟨cs,N⟩:=h.sx.ty;have R:=h.sx.lt;have H:∀k,L.vh.ownBlock=some k->k≠s:=fun k D T=>by subst T;exact zz h.vh.row N (by decide) D
 have E:A.heap[s]?=w.heap[s]?:=X.block s R fun T=>H s T rfl;have U:g2≠s:=by
  rcases I with Y | Y
  ·exact H g2 Y
  ·omega
 have c:=zi (i:=105) (u:=.slice (some ⟨g2,0,none⟩) (n+1) cap2) (E.trans N);have b:g2<A.heap.size:=(Z.lt g2 rfl).2;have J:zo8 (fun k=>k=s) A (A.setCell ⟨s,105,none⟩ (.slice (some ⟨g2,0,none⟩) (n+1) cap2)):=(zo8.refl (fun k=>k=s) A).setCell (p:=⟨s,105,none⟩) (.inl rfl) _;have M:zo8 (fun k=>k=s∨L.vh.ownBlock=some k) w (A.setCell ⟨s,105,none⟩ (.slice (some ⟨g2,0,none⟩) (n+1) cap2)):=
  (X.mono (G:=fun k=>k=s∨L.vh.ownBlock=some k) fun k D=>.inr D).trans J fun k D=>.inl (.inl D)
 have O:(A.setCell ⟨s,105,none⟩ (.slice (some ⟨g2,0,none⟩) (n+1) cap2)).ownsRow 0 99 1 (.slice (some ⟨g2,0,none⟩) (n+1) cap2) (n+1) (yq ((yo L.hb n)++ [some B])):=by rw[show yq ((yo L.hb n)++ [some B])=yq (yo L.hb n)++ [ptr B]by simp[yq]];refine xW Z fun k D=>?_;obtain rfl:g2=k:=Option.some.inj D;exact J.block g2 b U
 refine⟨h.addH a f M O (fun k D=>?_) ⟨_,c⟩ ?_ (fun j d=>?_),M⟩
 ·obtain rfl:g2=k:=Option.some.inj D;exact I
 ·have:=h.sx.vh;refine World.cell?_setCell_same _ _ _ (u:=L.vh) ?_;rw[<-this];simp[World.cell?,E]
 ·rw[World.cell?_setCell_other _ _ _ _ (by intro e;injection e with e1 e2;exact d e2.symm)];simp[World.cell?,E]
theorem SB.stepC{w A:World}{F:Nat->Prop}{s:Nat}{S:Sc}{L:Lay}{X:Nat->Nat}{n m B g2 cap2:Nat}(h:SB w F s S L X n m)(c:∀k,w.heap.size<=k->F k)(l:yj w B (S.cs m))(R:Own F X 5 B)(Y:∀p,p<m->L.cb p≠B)
 (Z:zo8 (fun k=>L.vc.ownBlock=some k) w A) (b:A.ownsRow 0 107 1 (.slice (some ⟨g2,0,none⟩) (m+1) cap2) (m+1) (yq (yo L.cb m)++ [ptr B])) (I:L.vc.ownBlock=some g2∨w.heap.size<=g2):
 SB (A.setCell ⟨s,106,none⟩ (.slice (some ⟨g2,0,none⟩) (m+1) cap2)) F s S { L with cb:=zpt L.cb m B,vc:=.slice (some ⟨g2,0,none⟩) (m+1) cap2 } (zD X w 5) n (m+1)/\zo8 (fun k=>k=s∨L.vc.ownBlock=some k) w (A.setCell ⟨s,106,none⟩ (.slice (some ⟨g2,0,none⟩) (m+1) cap2)):=by
 obtain⟨cs,N⟩:=h.sx.ty;have T:=h.sx.lt;have H:∀k,L.vc.ownBlock=some k->k≠s:=fun k D U=>by subst U;exact zz h.cs.row.row N (by decide) D
 have E:A.heap[s]?=w.heap[s]?:=Z.block s T fun U=>H s U rfl;have V:g2≠s:=by
  rcases I with a | a
  ·exact H g2 a
  ·omega
 have f:=zi (i:=106) (u:=.slice (some ⟨g2,0,none⟩) (m+1) cap2) (E.trans N);have d:g2<A.heap.size:=(b.lt g2 rfl).2;have J:zo8 (fun k=>k=s) A (A.setCell ⟨s,106,none⟩ (.slice (some ⟨g2,0,none⟩) (m+1) cap2)):=(zo8.refl (fun k=>k=s) A).setCell (p:=⟨s,106,none⟩) (.inl rfl) _;have M:zo8 (fun k=>k=s∨L.vc.ownBlock=some k) w (A.setCell ⟨s,106,none⟩ (.slice (some ⟨g2,0,none⟩) (m+1) cap2)):=
  (Z.mono (G:=fun k=>k=s∨L.vc.ownBlock=some k) fun k D=>.inr D).trans J fun k D=>.inl (.inl D)
 have O:(A.setCell ⟨s,106,none⟩ (.slice (some ⟨g2,0,none⟩) (m+1) cap2)).ownsRow 0 107 1 (.slice (some ⟨g2,0,none⟩) (m+1) cap2) (m+1) (yq ((yo L.cb m)++ [some B])):=by rw[show yq ((yo L.cb m)++ [some B])=yq (yo L.cb m)++ [ptr B]by simp[yq]];refine xW b fun k D=>?_;obtain rfl:g2=k:=Option.some.inj D;exact J.block g2 d V
 refine⟨h.addC c l R Y M O (fun k D=>?_) ⟨_,f⟩ ?_ (fun j g=>?_),M⟩
 ·obtain rfl:g2=k:=Option.some.inj D;exact I
 ·have:=h.sx.vc;refine World.cell?_setCell_same _ _ _ (u:=L.vc) ?_;rw[<-this];simp[World.cell?,E]
 ·rw[World.cell?_setCell_other _ _ _ _ (by intro e;injection e with e1 e2;exact g e2.symm)];simp[World.cell?,E]
def zrO(P:List Int)(top:Int):Nat->Int->Int
 | 0,g=>g
 | k+1,g=>if 0<g/\g≠top then zrO P top k (P.getD g.toNat 0)else g
theorem Sc.Kp.same{S:Sc}{b:Nat}(ok:S.Ok b){P:List Int}(h:S.Kp P){a c:Nat}{x y:Gp}(D:S.gs[a]?=some x)(A:S.gs[c]?=some y)(e:x.hi=y.hi):a=c:=by have B:=(ok.gk a x D (h.all a x D)).2;have E:=(ok.gk c y A (h.all c y A)).2;rw[e,E]at B;exact(Option.some.inj B).symm
theorem Sc.Kp.sub0{S:Sc}{b:Nat}(ok:S.Ok b){P:List Int}(h:S.Kp P){c:Nat}(G:c<S.gs.length):S.sub 0 c=decide (0=c):=by
 obtain⟨z,D,A,_⟩:=ok.g0;obtain⟨y,B⟩:∃y,S.gs[c]?=some y:=⟨_,List.getElem?_eq_getElem G⟩
 unfold Sc.sub;rw[Sc.zpj D,Sc.zpj B,A,un];by_cases e:0=c
 ·subst e;rw[D]at B;obtain rfl:=Option.some.inj B;rw[A]
 ·have:y.hi≠0:=fun E=>e (h.same ok D B (A.trans E.symm));rw[decide_eq_false this,decide_eq_false e]
theorem Sc.Kp.subS{S:Sc}{b:Nat}(ok:S.Ok b){P:List Int}(h:S.Kp P){a c:Nat}(R:a<S.gs.length)(I:a≠0)(T:c<S.gs.length):∃m:Nat,P.getD a 0=(m:Int)/\m<a/\S.sub a c=(decide (a=c) || S.sub m c):=by
 obtain⟨x,A⟩:∃x,S.gs[a]?=some x:=⟨_,List.getElem?_eq_getElem R⟩
 obtain⟨y,B⟩:∃y,S.gs[c]?=some y:=⟨_,List.getElem?_eq_getElem T⟩
 obtain⟨m,v,hm,D,O,E⟩:=h.par a x I A;obtain⟨⟨q,J,hu,_⟩,hp⟩:=ok.gk a x A (h.all a x A);obtain⟨z,N,G,_⟩:=ok.g0;have H:x.hi≠0:=fun e=>I (h.same ok A N (e.trans G.symm));refine⟨m,by rw[List.getD_eq_getElem?_getD,hm];rfl,D,?_⟩;unfold Sc.sub;rw[Sc.zpj A,Sc.zpj B,Sc.zpj O,uo ok.tr ⟨q,J,hu⟩ H,E]
 congr 1
 by_cases e:a=c
 ·subst e;rw[A]at B;obtain rfl:=Option.some.inj B;simp
 ·have:y.hi≠x.hi:=fun M=>e (h.same ok A B M.symm);rw[decide_eq_false this,decide_eq_false e]
theorem Sc.Kp.up{S:Sc}{b:Nat}(ok:S.Ok b){P:List Int}(h:S.Kp P){c:Nat}(A:c<S.gs.length):∀(k a:Nat),a<=k->a<S.gs.length->decide (zrO P (c:Int) k (a:Int)=(c:Int))=S.sub a c
 | 0,a,hk,ha=>by
  obtain rfl:a=0:=by omega
  rw[h.sub0 ok A];unfold zrO;exact decide_eq_decide.2 (by omega)
 | k+1,a,hk,ha=>by
  unfold zrO;by_cases B:a=0
  ·subst B;rw[if_neg (by omega),h.sub0 ok A];exact decide_eq_decide.2 (by omega)
  ·obtain⟨m,hm,h1,hs⟩:=h.subS ok ha B A;rw[hs];by_cases e:a=c
   ·subst e;rw[if_neg (by omega)];simp
   ·rw[if_pos (by omega),decide_eq_false e,Bool.false_or,<-h.up ok A k m (by omega) (by omega),Int.toNat_natCast,hm]
theorem zeR{S:Sc}{b:Nat}(ok:S.Ok b)(g:Nat):∀k:Nat,0<=S.zrn g k/\S.zrn g k<=1000000000*(b:Int)*k
 | 0=>⟨Int.le_refl _,by show(0:Int)<=_*((0:Nat):Int);omega⟩
 | k+1=>by
  obtain⟨h1,h2⟩:=zeR ok g k;have hb:=ok.bk.bt k;have ht:=ok.bk.total;show 0<=S.zrn g k+(if S.sub (S.t k).zpc g=true then S.book.bt k else 0)/\S.zrn g k+(if S.sub (S.t k).zpc g=true then S.book.bt k else 0)<=1000000000*(b:Int)*((k+1:Nat):Int);have e:1000000000*(b:Int)*((k+1:Nat):Int)=1000000000*(b:Int)*(k:Int)+1000000000*(b:Int):=by rw[show((k+1:Nat):Int)=(k:Int)+1 from rfl,Int.mul_add,Int.mul_one]
  rw[e];split <;> omega
theorem zld{S:Sc}{b:Nat}(ok:S.Ok b)(g k:Nat)(hk:k<=900):0<=S.zrn g k/\S.zrn g k<=810000000000000:=by
 obtain⟨B,A⟩:=zeR ok g k;refine⟨B,Int.le_trans A ?_⟩;have hb:=ok.zqg;have D:1000000000*(b:Int)<=900000000000:=by omega
 have h4:(0:Int)<=1000000000*(b:Int):=by omega
 have h5:=Int.mul_le_mul D (show(k:Int)<=900 by omega) (by omega) (by omega);omega
section
attribute [local go_sem ↓] Go.wp_at_zero Go.wp_at_succ
theorem zn8(w:World)(base:Nat)(e:TypeId)(x:Value)(hb:base<=w.heap.size):(w.alloc (.cells #[x] e)).ownsRow base e 1 (.slice (some ⟨w.heap.size,0,none⟩) 1 1) 1 [x]:=
 ⟨rfl,.inr ⟨_,1,#[x],rfl,hb,heap_alloc_new w _,zg _,by unfold maxLen;omega,rfl,rfl⟩⟩
theorem zq.zrC{w:World}{F:Nat->Prop}{s:Nat}{S:Sc}{L:Lay}(h:zq w F s S L):w.cell? ⟨s,107,none⟩=some (ptr L.bk)/\∃G,zM w G L.bk S.book/\∀x w',zM w' G L.bk x->zo8 G w w'->zn w F s { S with book:=x } L w':=by obtain⟨tg,h⟩:=h;exact⟨h.sx.bk,_,h.bk,fun x w' D B=>h.updK (D.mono fun k _ A=>.inl A) B⟩
theorem zq.zs2{w:World}{F:Nat->Prop}{s:Nat}{S:Sc}{L:Lay}(h:zq w F s S L):w.cell? ⟨s,1,none⟩=some (.int .i64 S.tick):=by obtain⟨tg,h⟩:=h;exact h.sx.c1
theorem zle(l:List Nat)(k q:Nat)(h:l[k]?=some q):jv ((0::l.take (k+1)).map Int.ofNat)=jv ((0::l.take k).map Int.ofNat)++ [.int .i64 (q:Nat)]:=by rw[List.take_add_one,h];simp[jv]
theorem ziX{S:Sc}{b:Nat}(h:S.Fit b)(hb:b<900){p:Nat}(hp:p<S.ps){n zpc:Nat}{g:Gp}(B:S.gs[zpc]?=some g)(A:g.there=true){ns:Int}(G:0<=ns)(E:ns<=1000000000):
 ((({ S with book:=S.book.credit (0::S.zqd zpc) n ns }:Sc).zpf p ((S.hs p).zpg ns)):Sc).Fit (b+1)/\(S.limited (S.zqd zpc)).Nodup/\((({ S with book:=S.book.credit (0::S.zqd zpc) n ns }:Sc).zpf p ((S.hs p).zpg ns)):Sc).zrM b (S.limited (S.zqd zpc)):=by
 obtain⟨w1,w2,w3⟩:=h.1.zrZ B A;have D:(({ S with book:=S.book.credit (0::S.zqd zpc) n ns }:Sc)).Fit (b+1):=⟨(h.1.more hb).zsU (h.1.bk.credit G E (by rw[List.length_cons];omega)),h.2⟩
 exact⟨zdS D hp ns,zaZ w1,zm1 h.1 B A⟩
theorem ziY{S:Sc}{b q:Nat}{r:List Nat}{x':Gp}(h:S.zrM b (q::r))(E:(q::r).Nodup):(S.zpd q x').zrM b r:=fun g' B=>by
 obtain⟨y,c,G,A⟩:=h g' (List.mem_cons_of_mem _ B);have D:q≠g':=by rintro rfl;exact(List.nodup_cons.1 E).1 B
 exact⟨y,c,by show(S.gs.set q x')[g']?=_;rw[List.getElem?_set_ne D];exact G,A⟩
theorem zeS:∀{l:List Nat},l.Nodup->∀(i j x:Nat),l[i]?=some x->l[j]?=some x->i=j
 | [],_,i,j,x,hi,_=>by simp at hi
 | a::l,h,i,j,x,hi,hj=>by
  obtain⟨A,B⟩:=List.nodup_cons.1 h;cases i with
  | zero=>
   cases j with
   | zero=>rfl
   | succ j=>
    simp at hi hj;exact absurd (hi▸List.mem_of_getElem? hj) A
  | succ i=>
   cases j with
   | zero=>
    simp at hi hj;exact absurd (hj▸List.mem_of_getElem? hi) A
   | succ j=>rw[zeS B i j x (by simpa using hi) (by simpa using hj)]
theorem znd(e:Ev)(b:Nat)(w:World)(F:Nat->Prop)(s:Nat)(S:Sc)(L:Lay)(h:zq w F s S L)(ok:S.Fit b)(h0:b<900)(hp:¬S.zqM e.a):
 Calls prog 52 #[ptr s,.agg (zpu e)] w (zq1 w F s L (S.zpz e)):=by
 have U:S.zpz e=(S,0,1):=by unfold Sc.zpz;rw[if_pos (by simpa using hp)]
 rw[U];unfold zq1;obtain⟨w1,B⟩:=zh (w.alloc (.cells (zpu e) 35))
 have J:Below w.heap.size w w1:=by rw[B];exact zk w _
 have M:zp1 w1 w.heap.size e:=by rw[B];exact zp1.new w e
 obtain⟨I,A⟩:∃I:Nat->Prop,I=fun k=>F k/\k<w.heap.size:=⟨_,rfl⟩
 have R:Hid (∀k,I k->F k):=zc (by rw[A];exact fun k O=>O.1);have E:Hid (zq w1 I s S L):=zc (by rw[A];exact h.zpy.behind J);have T:=zc J;have H:=zc (qm e.a w1 I s S L E.out);obtain⟨D,N⟩:=zh w.heap.size
 have h4:Hid (¬I D):=zc (by rw[A,N];intro O;omega);have h3:Hid (∀k,I k->k<w.heap.size):=zc (by rw[A];exact fun k O=>O.2);rw[<-N]at M;have HE:=zc M;obtain⟨-,e1,-,e3,-,-⟩:=M.c6;have h2:=M.lt;have s1:=E.out.zs2;have h1:=E.out.zqq.2;clear h J M A;rw[decide_eq_false hp]at H;clear hp ok U;go_enter func52,ntmps52;go_wp2_with fail;rw[show w.alloc (.cells (zpu e) 35)=w1 from B.symm,<-N];clear B N;refine H.out.mono ?_;rintro z w2 ⟨rfl,hw⟩;obtain rfl:=hw.symm;go_wp2;go_ret2;exact⟨rfl,zn.zo7 T.out ((zn.refl E.out).grow (G:=F) R.out)⟩
theorem zne(e:Ev)(b:Nat)(w:World)(F:Nat->Prop)(s:Nat)(S:Sc)(L:Lay)(h:zq w F s S L)(ok:S.Fit b)(h0:b<900)(hp:S.zqM e.a)(Y:e.n<0∨S.tick<e.n):
 Calls prog 52 #[ptr s,.agg (zpu e)] w (zq1 w F s L (S.zpz e)):=by
 have X:S.zpz e=(S,0,8):=by unfold Sc.zpz;rw[if_neg (by simpa using hp),if_pos Y]
 rw[X];unfold zq1;obtain⟨w1,A⟩:=zh (w.alloc (.cells (zpu e) 35))
 have M:Below w.heap.size w w1:=by rw[A];exact zk w _
 have R:zp1 w1 w.heap.size e:=by rw[A];exact zp1.new w e
 obtain⟨I,B⟩:∃I:Nat->Prop,I=fun k=>F k/\k<w.heap.size:=⟨_,rfl⟩
 have O:Hid (∀k,I k->F k):=zc (by rw[B];exact fun k V=>V.1);have H:Hid (zq w1 I s S L):=zc (by rw[B];exact h.zpy.behind M);have U:=zc M;have E:=zc (qm e.a w1 I s S L H.out);obtain⟨D,N⟩:=zh w.heap.size
 have h5:Hid (¬I D):=zc (by rw[B,N];intro V;omega);have h4:Hid (∀k,I k->k<w.heap.size):=zc (by rw[B];exact fun k V=>V.2);rw[<-N]at R;have HE:=zc R;obtain⟨-,e1,-,e3,-,-⟩:=R.c6;have h3:=R.lt;have s1:=H.out.zs2;have h2:=H.out.zqq.2;clear h M R B;rw[decide_eq_true hp]at E;by_cases T:e.n<0
 ·clear hp ok X Y;go_enter func52,ntmps52;go_wp2_with fail;rw[show w.alloc (.cells (zpu e) 35)=w1 from A.symm,<-N];clear A N;refine E.out.mono ?_;rintro z Z ⟨rfl,hw⟩;obtain rfl:=hw.symm;go_wp2_with fail;go_quiet (fail);have J:Hid (zn w F s S L (w1.drewN nq)):=zc (zn.zo7 U.out (zn.zo7 (zp (Below.refl _ w1) nq) ((zn.refl (H.out.kept (w':=w1.drewN nq) fun _ _ _=>rfl)).grow (G:=F) O.out)));go_wp2;go_ret2;exact⟨rfl,J.out⟩
 ·have h1:S.tick<e.n:=by omega
  have h6:0<=e.n:=by omega
  clear hp ok X Y T;go_enter func52,ntmps52;go_wp2_with fail;rw[show w.alloc (.cells (zpu e) 35)=w1 from A.symm,<-N];clear A N;refine E.out.mono ?_;rintro z Z ⟨rfl,hw⟩;obtain rfl:=hw.symm;go_wp2_with fail;go_quiet (fail);have J:Hid (zn w F s S L (w1.drewN nq)):=zc (zn.zo7 U.out (zn.zo7 (zp (Below.refl _ w1) nq) ((zn.refl (H.out.kept (w':=w1.drewN nq) fun _ _ _=>rfl)).grow (G:=F) O.out)));go_wp2;go_ret2;exact⟨rfl,J.out⟩
theorem zlf(e:Ev)(b:Nat)(w:World)(F:Nat->Prop)(s:Nat)(S:Sc)(L:Lay)(h:zq w F s S L)(ok:S.Fit b)(h0:b<900)(hp:S.zqM e.a)(O:¬(e.n<0∨S.tick<e.n))(p:Nat)(M:e.a=p)(hr:S.running p= -1):
 Calls prog 52 #[ptr s,.agg (zpu e)] w (zq1 w F s L (S.zpz e)):=by
 have Y:e.a.toNat=p:=by omega
 have ho:S.zpz e=(S.zpG p ((S.cs p).tick e.n),-1,0):=by rw[uQ hp O (by rw[Y];exact hr),Y]
 rw[ho];unfold zq1;obtain⟨w1,E⟩:=zh (w.alloc (.cells (zpu e) 35))
 have g:Below w.heap.size w w1:=by rw[E];exact zk w _
 have r:zp1 w1 w.heap.size e:=by rw[E];exact zp1.new w e
 obtain⟨R,A⟩:∃R:Nat->Prop,R=fun k=>F k/\k<w.heap.size:=⟨_,rfl⟩
 have h5:Hid (∀k,R k->F k):=zc (by rw[A];exact fun k Q=>Q.1);have H:Hid (zq w1 R s S L):=zc (by rw[A];exact h.zpy.behind g);have Z:=zc g;have T:=zc (qm e.a w1 R s S L H.out);obtain⟨D,P⟩:=zh w.heap.size
 have ha:Hid (¬R D):=zc (by rw[A,P];intro Q;omega);have hc:Hid (∀k,R k->k<w.heap.size):=zc (by rw[A];exact fun k Q=>Q.2);rw[<-P]at r;have HE:=zc r;obtain⟨-,N,-,C,-,-⟩:=r.c6;have B:=r.lt;have s1:=H.out.zs2;have X:=H.out.zqq.2;clear h g r A;rw[decide_eq_true hp]at T;have c:p<S.ps:=by have:=hp.2;omega
 have hi:=ok.1.tick;have h3:0<=e.n:=by omega
 have W:e.n<=1000000000:=by omega
 have hg:e.n<=S.tick:=by omega
 have hf:IntKind.u64.wrap e.n=e.n:=by simp only[IntKind.wrap,IntKind.signed,IntKind.bits];simp;omega
 have h8:p<64:=by have:=ok.1.ps.2;omega
 have hh:(p:Int) <(S.ps:Int):=by omega
 have h9:=ok.1.zqg;have y:=zc M;rw[M]at N;have l:=(ok.1.ck p c).1.small (by omega);have v:(if S.zqM (p:Int)then S.running (p:Int).toNat else -1)= -1:=by rw[if_pos (by rw[<-M];exact hp),Int.toNat_natCast,hr]
 have h1:=zc v;have h6:=zc c;clear hp ok ho hr O M Y v;go_enter func52,ntmps52;go_wp2_with fail;rw[show w.alloc (.cells (zpu e) 35)=w1 from E.symm,<-P];clear E P;refine T.out.mono ?_;rintro z K ⟨rfl,hw⟩;obtain rfl:=hw.symm;go_wp2_with fail;go_quiet (fail);obtain⟨K,V⟩:=zh (w1.drewN nq)
 have I:Hid (Below w1.heap.size w1 K):=zc (by rw[V];exact zp (Below.refl _ w1) nq);rw[<-V];clear V N C B s1 X;have q:=zc (H.out.behind I.out);have f:=zc (HE.out.behind I.out);obtain⟨-,N,-,C,-,-⟩:=f.out.c6;rw[y.out]at N;have B:=f.out.lt;have U:=zc (yp p K R s S L q.out);rw[h1.out]at U;go_wp2_with fail;refine U.out.mono ?_;rintro z o ⟨rfl,J⟩;have h4:=zc (zj (zj Z.out I.out Z.out.size) J (by have:=Z.out.size;have:=I.out.size;omega));have d:=zc (q.out.behind J);have t:=zc (f.out.behind J);clear J N C B;obtain⟨-,N,-,C,-,-⟩:=t.out.c6
 rw[y.out]at N;have B:=t.out.lt;obtain⟨hC,rc,cc,m,h2,u⟩:=d.out.clock c;have X:=d.out.zqq.2;have HT:=zc (zeD e.n 0 0 o.drew (L.cb p) (S.cs p) hC l h3 W ⟨by omega,by omega⟩ ⟨by omega,by omega⟩);clear hC l;go_wp2_with fail;go_region_with
  (
   go_at_call 96;refine HT.out.mono ?_;rintro z w4 ⟨rfl,j,x⟩;have h7:=zc (zn.zo7 h4.out (zn.zo7 (⟨rfl,rfl,rfl,zg _,fun _ _=>rfl⟩:Below o.heap.size o o.drew) (((d.out.kept (w':=o.drew) fun _ _ _=>rfl).zsp h6.out x j).grow (G:=F) h5.out)));clear j x N C B m h2 u X)
 all_goals
  go_wp2;go_ret2;exact⟨rfl,h7.out⟩
abbrev qL(st p g A B mk ns:Int):Array Value:=#[.int .i64 st,.int .i64 p,.int .i64 g,.int .i64 A,.int .u64 B,.int .u64 mk,.int .i64 ns]
def zeT(w:World)(S:Sc)(n:Nat)(z:Ending)(w':World):Prop:=∃st p g ni wt mk:Int,z=.returned (.agg (qL st p g ni wt mk (S.book.bt n)))/\(∀t,S.ts[n]?=some t->t.dead=false->p=t.p/\mk=t.mask)/\Below w.heap.size w w'
theorem yU{w:World}{X:Nat}{st p g A B mk ns:Int}(h:w.heap[X]?=some (.cells (qL st p g A B mk ns) 37 (0,0))):w.cell? ⟨X,0,none⟩=some (.int .i64 st)/\w.cell? ⟨X,1,none⟩=some (.int .i64 p)/\w.cell? ⟨X,2,none⟩=some (.int .i64 g)/\w.cell? ⟨X,3,none⟩=some (.int .i64 A)/\w.cell? ⟨X,4,none⟩=some (.int .u64 B)/\w.cell? ⟨X,5,none⟩=some (.int .u64 mk)/\w.cell? ⟨X,6,none⟩=some (.int .i64 ns)/\X<w.heap.size/\∀j,w.frozen? ⟨X,j,none⟩=false:=by
 refine⟨?_,?_,?_,?_,?_,?_,?_,(zd h).1,?_⟩
 all_goals first | (simp[World.cell?,h];done) | (intro j;simp[World.frozen?,h])
theorem zaU{w1:World}{D:Nat}{a0 H a2 a3 a4 a5 G:Int}(E:w1.heap[D]?=some (.cells (qL a0 H a2 a3 a4 a5 G) 37 (0,0)))(st p g A B mk ns:Int):
 ((((((((w1.setCell ⟨D,0,none⟩ (Value.int .i64 st)).setCell ⟨D,1,none⟩ (Value.int .i64 p)).setCell ⟨D,2,none⟩ (Value.int .i64 g)).setCell ⟨D,3,none⟩ (Value.int .i64 A)).setCell ⟨D,4,none⟩ (Value.int .u64 B)).setCell ⟨D,5,none⟩ (Value.int .u64 mk)).setCell ⟨D,6,none⟩ (Value.int .i64 ns))).heap[D]?=some (.cells (qL st p g A B mk ns) 37 (0,0))/\zo8 (fun k=>k=D) w1 (((((((w1.setCell ⟨D,0,none⟩ (Value.int .i64 st)).setCell ⟨D,1,none⟩ (Value.int .i64 p)).setCell ⟨D,2,none⟩ (Value.int .i64 g)).setCell ⟨D,3,none⟩ (Value.int .i64 A)).setCell ⟨D,4,none⟩ (Value.int .u64 B)).setCell ⟨D,5,none⟩ (Value.int .u64 mk)).setCell ⟨D,6,none⟩ (Value.int .i64 ns)):=by
 refine⟨by have h:=(zi (i:=6) (u:=Value.int .i64 ns) (zi (i:=5) (u:=Value.int .u64 mk) (zi (i:=4) (u:=Value.int .u64 B) (zi (i:=3) (u:=Value.int .i64 A) (zi (i:=2) (u:=Value.int .i64 g) (zi (i:=1) (u:=Value.int .i64 p) (zi (i:=0) (u:=Value.int .i64 st) E)))))));simpa using h,(((((((zo8.refl (fun k=>k=D) w1).setCell (p:=⟨D,0,none⟩) (.inl rfl) _).setCell (p:=⟨D,1,none⟩) (.inl rfl) _).setCell (p:=⟨D,2,none⟩) (.inl rfl) _).setCell (p:=⟨D,3,none⟩) (.inl rfl) _).setCell (p:=⟨D,4,none⟩) (.inl rfl) _).setCell (p:=⟨D,5,none⟩) (.inl rfl) _).setCell (p:=⟨D,6,none⟩) (.inl rfl) _⟩
theorem zlg(n:Nat)(b:Nat)(w:World)(F:Nat->Prop)(s:Nat)(S:Sc)(L:Lay)(h:zq w F s S L)(ok:S.Ok b)(Z:n<S.ts.length)(hd:S.tsk? n=none):
 Calls prog 8 #[ptr s,.int .i64 n] w (zeT w S n):=by
 have h0:=ok.zqg;have h3:=ok.tl;obtain⟨w1,B⟩:=zh (w.alloc (.cells (qL 0 0 0 0 0 0 0) 37))
 have I:Below w.heap.size w w1:=by rw[B];exact zk w _
 have A:w1.heap[w.heap.size]?=some (.cells (qL 0 0 0 0 0 0 0) 37 (0,0)):=by rw[B];exact heap_alloc_new w _
 have N:=h.behind I;have X:=zc (vw n w1 F s S L N (by omega));rw[hd,show zaV L.tb none=.pointer none from rfl]at X;obtain⟨h2,G,J,-⟩:=N.zrC;have O:=zc (zeE w1 G L.bk n S.book J (by omega));have h4:=N.zqq.2;have V:Hid (∀t,S.ts[n]?=some t->t.dead=false->False):=zc (fun t R E=>by unfold Sc.tsk? at hd;rw[if_pos ⟨by omega,by omega,by rw[Int.toNat_natCast,Sc.zp0 R];exact E⟩]at hd;cases hd);obtain⟨D,M⟩:=zh w.heap.size
 rw[<-M]at A;have H1:=zc (And.intro I (And.intro A M));obtain⟨d0,d1,d2,d3,d4,d5,d6,dl,df⟩:=yU A;clear h N J I A hd Z;go_enter func8,ntmps8;go_wp2_with fail;rw[show w.alloc (.cells #[.int .i64 0,.int .i64 0,.int .i64 0,.int .i64 0,.int .u64 0,.int .u64 0,.int .i64 0] 37)=w1 from B.symm,<-M];clear B M;refine X.out.mono ?_;rintro z a ⟨rfl,H⟩;obtain rfl:=H.symm;go_wp2_with fail;refine O.out.mono ?_;rintro z a ⟨rfl,H⟩;obtain rfl:=H.symm;go_wp2;obtain⟨T,U⟩:=zaU H1.out.2.1 4 0 0 0 0 0 (S.book.bt n);obtain⟨g0,g1,g2,g3,g4,g5,g6,-,-⟩:=yU T
 refine bodyPost_ret (v:=.agg (qL 4 0 0 0 0 0 (S.book.bt n))) ?_ rfl ⟨4,0,0,0,0,0,rfl,fun t R E=>(V.out t R E).elim,H1.out.1.trans (U.below H1.out.1.size fun k Y=>by rw[Y,H1.out.2.2];exact zg _)⟩;simp[results,results8,go_sem,g0,g1,g2,g3,g4,g5,g6]
theorem zlh(n:Nat)(t:Tk)(b:Nat)(w:World)(F:Nat->Prop)(s:Nat)(S:Sc)(L:Lay)(h:zq w F s S L)(ok:S.Ok b)(m:S.ts[n]?=some t)(hd:t.dead=false):
 Calls prog 8 #[ptr s,.int .i64 n] w (zeT w S n):=by
 have hh:=ok.zqg;have hr:=ok.tl;have hv:=(ze m).1;obtain⟨⟨y,hy,h8⟩,_,_,_,ho,_⟩:=ok.tk n t m hd;have hi:=ok.ps;obtain⟨w1,c⟩:=zh (w.alloc (.cells (qL 0 0 0 0 0 0 0) 37))
 have r:Below w.heap.size w w1:=by rw[c];exact zk w _
 have l:w1.heap[w.heap.size]?=some (.cells (qL 0 0 0 0 0 0 0) 37 (0,0)):=by rw[c];exact heap_alloc_new w _
 have V:=h.behind r;have h4:S.tsk? n=some n:=by unfold Sc.tsk?;rw[if_pos ⟨by omega,by omega,by rw[Int.toNat_natCast,Sc.zp0 m];exact hd⟩,Int.toNat_natCast]
 have HT:=zc (vw n w1 F s S L V (by omega));rw[h4,show zaV L.tb (some n)=ptr (L.tb n)from rfl]at HT;obtain⟨h0,-,-,-⟩:=V.zrC;have hc:Hid (∀W,Below w1.heap.size w1 W->Calls prog 21 #[ptr L.bk,.int .i64 n] W fun z w'=>z=.returned (.int .i64 (S.book.bt n))/\w'=W):=zc fun W hb=>by obtain⟨_,G,hg,-⟩:=(V.behind hb).zrC;exact zeE W G L.bk n S.book hg (by omega)
 have h7:Hid (∀W,Below w1.heap.size w1 W->Calls prog 22 #[ptr s,.int .i64 t.p] W fun z w'=>z=.returned (.int .i64 (S.running t.p))/\Below W.heap.size W w'):=zc fun W hb=>by have h2:=yp t.p W F s S L (V.behind hb);rw[if_pos (show S.zqM (t.p:Int)from⟨by omega,by omega⟩),Int.toNat_natCast]at h2;exact h2
 have h3:=V.zqq.2;obtain⟨-,-,-,t3,t4,t5,t6,t7,t8,-⟩:=(V.tk m).zq7;have I:=(V.tk m).lt;obtain⟨g0,-⟩:=(V.gp hy).c7;have K:=(V.gp hy).lt;have o:=zc m;obtain⟨B,hB⟩:=zh (L.tb n)
 obtain⟨Y,hY⟩:=zh (L.gb t.zpc)
 rw[<-hB]at t3 t4 t5 t6 t7 t8 I HT;rw[<-hY]at t5 g0 K;have t30:=t3;obtain⟨D,hD⟩:=zh w.heap.size
 rw[<-hD]at l;have H1:=zc (And.intro r (And.intro l hD));have H2:=zc (And.intro t3 (And.intro I (And.intro h3 (And.intro t4 True.intro))));clear h V r l hd m hy h8 hB hY h4 t30;go_enter func8,ntmps8;go_wp2_with fail;rw[show w.alloc (.cells #[.int .i64 0,.int .i64 0,.int .i64 0,.int .i64 0,.int .u64 0,.int .u64 0,.int .i64 0] 37)=w1 from c.symm,<-hD];clear c hD;refine HT.out.mono ?_;rintro z w2 ⟨rfl,h6⟩;obtain rfl:=h6.symm;go_upto_region 6 with(fail)
 go_cut [6]from 22 to 51 (fun v6 wx=>∃X,v6=ptr X/\w1.heap.size<=X/\wx.heap[X]?=some (.cells (qL 1 t.p t.zpc t.nice t.w t.mask (S.book.bt n)) 37 (0,0))/\Below w1.heap.size w1 wx)
 case first=>
  go_region_held3 (fun w'=>w'.cell? ⟨B,4,none⟩=some (.int .i64 t.p)/\w'.cell? ⟨B,5,none⟩=some (.pointer (some ⟨Y,0,none⟩))/\w'.cell? ⟨B,6,none⟩=some (.int .i64 t.nice)/\w'.cell? ⟨B,7,none⟩=some (.int .u64 t.w)/\w'.cell? ⟨B,8,none⟩=some (.int .u64 t.mask)/\w'.cell? ⟨Y,0,none⟩=some (.int .i64 t.zpc)/\w'.cell? ⟨s,107,none⟩=some (ptr L.bk)) (go_keep)
   (first
    | (
     go_at_call 21;refine(hc.out _ (by first | exact Below.refl _ _ | exact zv (Below.refl _ _) | exact zv (zk _ _) | exact zk _ _ | exact zp (Below.refl _ _) _)).mono ?_;rintro z w5 ⟨rfl,ha⟩;obtain rfl:=ha.symm))
  all_goals
   go_wp2_with fail;go_meet
   case rel=>
    first
     | exact⟨_,rfl,zg _,heap_alloc_new w1 _,zk w1 _⟩
     | exact⟨_,rfl,zg _,heap_alloc_new w1 _,zv (zk w1 _)⟩
 case rest=>
  obtain⟨X,rfl,hX,f,E⟩:=hcut
  rename World=>w5
  have u:=zc (And.intro hX (And.intro f E));obtain⟨y0,y1,y2,y3,y4,y5,y6,yl,yf⟩:=yU f;have u3:=(E.cell (p:=⟨B,3,none⟩) I).trans H2.out.1;have u4:=(E.cell (p:=⟨B,4,none⟩) I).trans H2.out.2.2.2.1;have T:=zf I E.size;have Z:=(E.block D (zd H1.out.2.1).1).trans H1.out.2.1;have g:=zc Z;have hf:=zc (h7.out w5 E);clear hX f E t3 t4 t5 t6 t7 t8 g0 h0 h3 I K;have d:=zc (zj H1.out.1 u.out.2.2 H1.out.1.size);have h9:X≠D:=by have:=u.out.1;have:=(zd H1.out.2.1).1;omega
  cases hon:t.on with
  | false=>
   rw[hon]at u3;obtain⟨d0,d1,d2,d3,d4,d5,d6,dl,df⟩:=yU Z;clear Z;go_wp2;obtain⟨R,N⟩:=zaU g.out 1 t.p t.zpc t.nice t.w t.mask (S.book.bt n);obtain⟨q0,q1,q2,x,q4,q5,q6,-,-⟩:=yU R;refine bodyPost_ret (v:=.agg (qL 1 t.p t.zpc t.nice t.w t.mask (S.book.bt n))) ?_ rfl ⟨1,t.p,t.zpc,t.nice,t.w,t.mask,rfl,fun t' A _=>by rw[o.out]at A;obtain rfl:=Option.some.inj A;exact⟨rfl,rfl⟩,d.out.trans (N.below d.out.size fun k Q=>by rw[Q,H1.out.2.2];exact zg _)⟩;simp[results,results8,go_sem,q0,q1,q2,x,q4,q5,q6]
  | true=>
   rw[hon]at u3;obtain⟨q,hq⟩:∃q,(S.running t.p == (n:Int))=q:=⟨_,rfl⟩
   clear y0 y1 y2 y3 y4 y5 y6 yl yf Z;go_wp2_with fail;refine hf.out.mono ?_;rintro z w6 ⟨rfl,J⟩;have O:=(J.block X (zd u.out.2.1).1).trans u.out.2.1;have M:=(J.block D (zd g.out).1).trans g.out;have P:=zc (zj d.out J d.out.size);have hl:=(J.cell (p:=⟨B,3,none⟩) T).trans u3;have ht:=zf T J.size;clear u3 u4 T J;obtain⟨y0,y1,y2,y3,y4,y5,y6,yl,yf⟩:=yU O;obtain⟨d0,d1,d2,d3,d4,d5,d6,dl,df⟩:=yU M;have h5:D≠X:=fun e=>h9 e.symm;have hj:=zc O;have C:=zc M;clear O M;cases q
   ·go_wp2;obtain⟨a,H⟩:=zh (w6.setCell ⟨X,0,none⟩ (.int .i64 2))
    have j:a.heap[D]?=some (.cells (qL 0 0 0 0 0 0 0) 37 (0,0)):=by rw[H];exact(Below.heap_setCell _ _ _ _ (by exact h5)).trans C.out
    have U:Below w.heap.size w a:=by rw[H];exact P.out.setCell (p:=⟨X,0,none⟩) (by have:=u.out.1;have:=H1.out.1.size;show _<=X;omega) _
    obtain⟨R,N⟩:=zaU j 2 t.p t.zpc t.nice t.w t.mask (S.book.bt n);obtain⟨q0,q1,q2,x,q4,q5,q6,-,-⟩:=yU R;rw[<-H];refine bodyPost_ret (v:=.agg (qL 2 t.p t.zpc t.nice t.w t.mask (S.book.bt n))) ?_ rfl ⟨2,t.p,t.zpc,t.nice,t.w,t.mask,rfl,fun t' A _=>by rw[o.out]at A;obtain rfl:=Option.some.inj A;exact⟨rfl,rfl⟩,U.trans (N.below U.size fun k Q=>by rw[Q,H1.out.2.2];exact zg _)⟩;simp[results,results8,go_sem,q0,q1,q2,x,q4,q5,q6]
   ·go_wp2;obtain⟨a,H⟩:=zh (w6.setCell ⟨X,0,none⟩ (.int .i64 3))
    have j:a.heap[D]?=some (.cells (qL 0 0 0 0 0 0 0) 37 (0,0)):=by rw[H];exact(Below.heap_setCell _ _ _ _ (by exact h5)).trans C.out
    have U:Below w.heap.size w a:=by rw[H];exact P.out.setCell (p:=⟨X,0,none⟩) (by have:=u.out.1;have:=H1.out.1.size;show _<=X;omega) _
    obtain⟨R,N⟩:=zaU j 3 t.p t.zpc t.nice t.w t.mask (S.book.bt n);obtain⟨q0,q1,q2,x,q4,q5,q6,-,-⟩:=yU R;rw[<-H];refine bodyPost_ret (v:=.agg (qL 3 t.p t.zpc t.nice t.w t.mask (S.book.bt n))) ?_ rfl ⟨3,t.p,t.zpc,t.nice,t.w,t.mask,rfl,fun t' A _=>by rw[o.out]at A;obtain rfl:=Option.some.inj A;exact⟨rfl,rfl⟩,U.trans (N.below U.size fun k Q=>by rw[Q,H1.out.2.2];exact zg _)⟩;simp[results,results8,go_sem,q0,q1,q2,x,q4,q5,q6]
theorem zd7(n:Nat)(b:Nat)(w:World)(F:Nat->Prop)(s:Nat)(S:Sc)(L:Lay)(h:zq w F s S L)(ok:S.Ok b)(D:n<S.ts.length):
 Calls prog 8 #[ptr s,.int .i64 n] w (zeT w S n):=by
 obtain⟨t,A⟩:∃t,S.ts[n]?=some t:=⟨_,List.getElem?_eq_getElem D⟩
 cases hd:t.dead with
 | false=>exact zlh n t b w F s S L h ok A hd
 | true=>
  refine zlg n b w F s S L h ok D ?_;unfold Sc.tsk?;rw[if_neg];rintro⟨_,_,B⟩;rw[Int.toNat_natCast,Sc.zp0 A,hd]at B;cases B
theorem zn9{S:Sc}{b:Nat}(ok:S.Ok b){n:Nat}{x:Gp}(T:S.gs[n]?=some x)(O:x.there=true)(w:World)(t H:Nat)(h:zqn w 0 t H S.tree):
 Calls prog 30 #[ptr t,.agg #[.int .i64 x.hi,.int .i64 x.hg]] w fun z w'=>∃(i g e:Int),z=.returned (.tuple #[.agg #[.int .i64 i,.int .i64 g],.int .i64 e])/\(e≠0∨(e=0/\∃(j m:Nat) (y:Gp),i=j/\j<32/\S.pl j=some m/\S.gs[m]?=some y))/\Below w.heap.size w w':=by
 obtain⟨q,E,hu,A⟩:=(ok.gk n x T O).1;have h3:=ok.zqg;obtain⟨f1,f2,f3⟩:=zfx E hu;rw[A]at f1 f2 f3;by_cases D:x.hi=0
 ·have M:=znO ok.tr E D;rw[A]at M;rw[D,M]at f3 ⊢;exact(zgF (b+2) w 0 t H S.tree h ok.tok (by omega) f3).mono fun z w' ⟨G,B⟩=>⟨0,0,12,G,.inl (by omega),B⟩
 ·obtain⟨j,p,hp,J,R,-⟩:=ok.tr.kid x.hi q E hu D;have N:=zii x.hi x.hg (b+2) w 0 t H S.tree h ok.tok (by omega) f3 (by omega);rw[f2,R]at N;obtain⟨m,hm⟩:=ok.gu j p hp J;obtain⟨y,I,_⟩:=ok.pl j m hm;have h4:=(ze hp).1;have hr:=ok.tok.room;exact N.mono fun z w' ⟨G,B⟩=>⟨j,p.gen,0,G,.inr ⟨rfl,j,m,y,rfl,by omega,hm,I⟩,B⟩
theorem zem(w:World)(p:Nat):Calls prog 31 #[.pointer (some ⟨p,0,none⟩),.int .i64 0] w fun z w'=>z=.returned (.bool false)/\w'=w:=by have A:=zc (zfm w p);go_enter func31,ntmps31;go_wp2_with fail;refine A.out.mono ?_;rintro z w2 ⟨rfl,hw⟩;obtain rfl:=hw.symm;go_wp2;go_ret;exact⟨rfl,rfl⟩
theorem zht{w:World}{F:Nat->Prop}{s:Nat}{S:Sc}{L:Lay}(h:zq w F s S L){b:Nat}(ok:S.Ok b){n:Nat}{x:Gp}(J:S.gs[n]?=some x)(E:x.there=true){p:Nat}(hp:p<S.ps):
 Calls prog 31 #[ptr (L.hb p),.int .i64 x.hi] w fun z w'=>∃v,z=.returned (.bool v)/\w'=w:=by
 obtain⟨_,_,_,_,_,G,I⟩:=h.ztk hp;have A:=ok.hk p hp x.hi;rw[(ok.gk n x J E).2]at A;obtain⟨y,H⟩:=Option.isSome_iff_exists.1 A;by_cases D:x.hi=0
 ·rw[D];exact(zem w (L.hb p)).mono fun z w' ⟨A,B⟩=>⟨_,A,B⟩
 ·exact(zfn w G (L.hb p) x.hi (S.hs p) y I H D).mono fun z w' ⟨A,B⟩=>⟨_,A,B⟩
abbrev yF(D:Bool)(E sh ns A B sp st:Int):Array Value:=#[.bool D,.int .i64 E,.int .u64 sh,.int .i64 ns,.int .i64 A,.int .i64 B,.int .i64 sp,.int .u64 st]
theorem xH{w:World}{X:Nat}{D:Bool}{E sh ns A B sp st:Int}(h:w.heap[X]?=some (.cells (yF D E sh ns A B sp st) 49 (0,0))):w.cell? ⟨X,0,none⟩=some (.bool D)/\w.cell? ⟨X,1,none⟩=some (.int .i64 E)/\w.cell? ⟨X,2,none⟩=some (.int .u64 sh)/\w.cell? ⟨X,3,none⟩=some (.int .i64 ns)/\w.cell? ⟨X,4,none⟩=some (.int .i64 A)/\w.cell? ⟨X,5,none⟩=some (.int .i64 B)/\w.cell? ⟨X,6,none⟩=some (.int .i64 sp)/\w.cell? ⟨X,7,none⟩=some (.int .u64 st)/\X<w.heap.size/\∀j,w.frozen? ⟨X,j,none⟩=false:=by
 refine⟨?_,?_,?_,?_,?_,?_,?_,?_,(zd h).1,?_⟩
 all_goals first | (simp[World.cell?,h];done) | (intro j;simp[World.frozen?,h])
def ziZ(w:World)(S:Sc)(n:Nat)(z:Ending)(w':World):Prop:=∃pa sh qu po sp st:Int,z=.returned (.agg (yF true pa sh (S.book.bg n) qu po sp st))/\(∀x d,S.gs[n]?=some x->x.band=some d->sp=d.spent)/\Below w.heap.size w w'
theorem zli{w:World}{F:Nat->Prop}{s:Nat}{S:Sc}{L:Lay}(h:zq w F s S L){n:Nat}{x:Gp}(D:S.gs[n]?=some x):
 Calls prog 28 #[.pointer (if x.band.isSome=true then some ⟨L.bb n,0,none⟩else none)] w fun z w'=>∃v,z=.returned (.int .i64 v)/\w'=w:=by
 cases hb:x.band with
 | none=>exact(Qt.zsN w).mono fun z w' ⟨B,A⟩=>⟨_,B,A.symm⟩
 | some d=>exact(Qt.zr5 w (L.bb n) d (h.band D hb)).mono fun z w' ⟨B,A⟩=>⟨_,B,A.symm⟩
theorem zi0{w:World}{F:Nat->Prop}{s:Nat}{S:Sc}{L:Lay}(h:zq w F s S L){n:Nat}{x:Gp}(D:S.gs[n]?=some x):
 Calls prog 29 #[.pointer (if x.band.isSome=true then some ⟨L.bb n,0,none⟩else none)] w fun z w'=>∃v,z=.returned (.int .i64 v)/\(∀d,x.band=some d->v=d.spent)/\w'=w:=by
 cases hb:x.band with
 | none=>exact(Qt.zsA w).mono fun z w' ⟨B,A⟩=>⟨_,B,(fun d hd=>by cases hd),A.symm⟩
 | some d=>exact(Qt.zsB w (L.bb n) d (h.band D hb)).mono fun z w' ⟨B,A⟩=>⟨_,B,(fun d' hd=>by cases hd;rfl),A.symm⟩
theorem zi1{w1:World}{D:Nat}{a0:Bool}{M a2 a3 a4 a5 J H:Int}(I:w1.heap[D]?=some (.cells (yF a0 M a2 a3 a4 a5 J H) 49 (0,0)))(B:Bool)(G sh ns E A sp st:Int):
 (((((((((w1.setCell ⟨D,0,none⟩ (Value.bool B)).setCell ⟨D,1,none⟩ (Value.int .i64 G)).setCell ⟨D,2,none⟩ (Value.int .u64 sh)).setCell ⟨D,3,none⟩ (Value.int .i64 ns)).setCell ⟨D,4,none⟩ (Value.int .i64 E)).setCell ⟨D,5,none⟩ (Value.int .i64 A)).setCell ⟨D,6,none⟩ (Value.int .i64 sp)).setCell ⟨D,7,none⟩ (Value.int .u64 st))).heap[D]?=some (.cells (yF B G sh ns E A sp st) 49 (0,0))/\zo8 (fun k=>k=D) w1 ((((((((w1.setCell ⟨D,0,none⟩ (Value.bool B)).setCell ⟨D,1,none⟩ (Value.int .i64 G)).setCell ⟨D,2,none⟩ (Value.int .u64 sh)).setCell ⟨D,3,none⟩ (Value.int .i64 ns)).setCell ⟨D,4,none⟩ (Value.int .i64 E)).setCell ⟨D,5,none⟩ (Value.int .i64 A)).setCell ⟨D,6,none⟩ (Value.int .i64 sp)).setCell ⟨D,7,none⟩ (Value.int .u64 st)):=by
 refine⟨by have h:=(zi (i:=7) (u:=Value.int .u64 st) (zi (i:=6) (u:=Value.int .i64 sp) (zi (i:=5) (u:=Value.int .i64 A) (zi (i:=4) (u:=Value.int .i64 E) (zi (i:=3) (u:=Value.int .i64 ns) (zi (i:=2) (u:=Value.int .u64 sh) (zi (i:=1) (u:=Value.int .i64 G) (zi (i:=0) (u:=Value.bool B) I))))))));simpa using h,(((((((((zo8.refl (fun k=>k=D) w1).setCell (p:=⟨D,0,none⟩) (.inl rfl) _).setCell (p:=⟨D,1,none⟩) (.inl rfl) _).setCell (p:=⟨D,2,none⟩) (.inl rfl) _).setCell (p:=⟨D,3,none⟩) (.inl rfl) _).setCell (p:=⟨D,4,none⟩) (.inl rfl) _).setCell (p:=⟨D,5,none⟩) (.inl rfl) _).setCell (p:=⟨D,6,none⟩) (.inl rfl) _).setCell (p:=⟨D,7,none⟩) (.inl rfl) _)⟩
theorem zeU{W:World}{X:Nat}{o:Option Obj}(h:W.heap[X]?=o):W.drew.heap[X]?=o:=h
theorem zlj{W:World}{X:Nat}{D:Bool}{E sh ns A B sp st:Int}(G:W.heap[X]?=some (.cells (yF D E sh ns A B sp st) 49 (0,0)))(m:Int):(W.setCell ⟨X,1,none⟩ (.int .i64 m)).heap[X]?=some (.cells (yF D m sh ns A B sp st) 49 (0,0)):=by have h:=zi (i:=1) (u:=.int .i64 m) G;simpa using h
theorem zlk{W:World}{X:Nat}{D:Bool}{E sh ns A B sp st:Int}(G:W.heap[X]?=some (.cells (yF D E sh ns A B sp st) 49 (0,0)))(m:Int):(W.setCell ⟨X,7,none⟩ (.int .u64 m)).heap[X]?=some (.cells (yF D E sh ns A B sp m) 49 (0,0)):=by have h:=zi (i:=7) (u:=.int .u64 m) G;simpa using h
theorem zll{A:World}{X:Nat}{ns:Int}(E:A.heap[X]?=some (.cells (yF false 0 0 ns 0 0 0 0) 49 (0,0)))(sh B D sp:Int):
 (((((((A.setCell ⟨X,0,none⟩ (.bool true)).setCell ⟨X,1,none⟩ (.int .i64 (-1))).setCell ⟨X,2,none⟩ (.int .u64 sh)).setCell ⟨X,4,none⟩ (.int .i64 B)).setCell ⟨X,5,none⟩ (.int .i64 D)).setCell ⟨X,6,none⟩ (.int .i64 sp))).heap[X]?=some (.cells (yF true (-1) sh ns B D sp 0) 49 (0,0))/\zo8 (fun k=>k=X) A ((((((A.setCell ⟨X,0,none⟩ (.bool true)).setCell ⟨X,1,none⟩ (.int .i64 (-1))).setCell ⟨X,2,none⟩ (.int .u64 sh)).setCell ⟨X,4,none⟩ (.int .i64 B)).setCell ⟨X,5,none⟩ (.int .i64 D)).setCell ⟨X,6,none⟩ (.int .i64 sp)):=by
 refine⟨by have h:=(zi (i:=6) (u:=.int .i64 sp) (zi (i:=5) (u:=.int .i64 D) (zi (i:=4) (u:=.int .i64 B) (zi (i:=2) (u:=.int .u64 sh) (zi (i:=1) (u:=.int .i64 (-1)) (zi (i:=0) (u:=.bool true) E))))));simpa using h,(((((((zo8.refl (fun k=>k=X) A).setCell (p:=⟨X,0,none⟩) (.inl rfl) _).setCell (p:=⟨X,1,none⟩) (.inl rfl) _).setCell (p:=⟨X,2,none⟩) (.inl rfl) _).setCell (p:=⟨X,4,none⟩) (.inl rfl) _).setCell (p:=⟨X,5,none⟩) (.inl rfl) _).setCell (p:=⟨X,6,none⟩) (.inl rfl) _)⟩
theorem zcB(n:Nat)(x:Gp)(b:Nat)(w:World)(F:Nat->Prop)(s:Nat)(S:Sc)(L:Lay)(h:zq w F s S L)(ok:S.Ok b)(hn:S.gs[n]?=some x)(H8:x.there=true):
 Calls prog 15 #[ptr s,.int .i64 n] w (ziZ w S n):=by
 have kq:=ok.zqg;have kt:=ok.gl;have Hq:=ok.ps;have kz:=(ze hn).1;obtain⟨w1,h9⟩:=zh (w.alloc (.cells (yF false 0 0 0 0 0 0 0) 49))
 have Hd:Below w.heap.size w w1:=by rw[h9];exact zk w _
 have k1:w1.heap[w.heap.size]?=some (.cells (yF false 0 0 0 0 0 0 0) 49 (0,0)):=by rw[h9];exact heap_alloc_new w _
 have HS:Hid (zq w (fun k=>F k/\k<w.heap.size) s S L):=zc h.zpy;have Ht:=zc ok;have h1:=h.behind Hd;have c:=zc (And.intro hn H8);have k2:S.grp? n=some n:=by unfold Sc.grp?;rw[if_pos ⟨by omega,by omega,by rw[Int.toNat_natCast,Sc.zpj hn];exact H8⟩,Int.toNat_natCast]
 obtain⟨He,G,k3,-⟩:=h1.zrC;have kj:=zc (ziA w1 G L.bk n S.book k3 (by omega));have H:=h1.zqq.2;have hl:Hid (And (Below w.heap.size w w1) (w1.heap[w.heap.size]?=some (.cells (yF false 0 0 0 0 0 0 0) 49 (0,0)))):=zc (And.intro Hd k1);obtain⟨D,hD⟩:=zh w.heap.size
 have HD:=zc hD;clear h k1 Hd k3 hn H8 h1;go_enter func15,ntmps15;go_upto_region 1 with(fail)
 rw[show w.alloc (.cells #[.bool false,.int .i64 0,.int .u64 0,.int .i64 0,.int .i64 0,.int .i64 0,.int .i64 0,.int .u64 0] 49)=w1 from h9.symm,<-hD];clear h9 hD;go_wp2_with fail;refine kj.out.mono ?_;rintro z P ⟨rfl,O⟩;obtain rfl:=O.symm;obtain⟨P,O⟩:=zh (w1.alloc (.cells (yF false 0 0 (S.book.bg n) 0 0 0 0) 49))
 have H6:Below w1.heap.size w1 P:=by rw[O];exact zk w1 _
 have hr:P.heap[w1.heap.size]?=some (.cells (yF false 0 0 (S.book.bg n) 0 0 0 0) 49 (0,0)):=by rw[O];exact heap_alloc_new w1 _
 obtain⟨X,hX⟩:=zh w1.heap.size
 have Q:=zc (zj hl.out.1 H6 hl.out.1.size);have h2:=HS.out.behind Q.out;have Hl:=zc (yN n P _ s S L h2 (by omega));rw[k2,show zaV L.gb (some n)=ptr (L.gb n)from rfl]at Hl;rw[<-hX]at hr;have V:=zc (And.intro hr (And.intro H6 hX));have k8:=zc O;clear H6 He k2 O hX;go_upto_region 4 with(fail)
 rw[show w1.alloc (.cells #[.bool false,.int .i64 0,.int .u64 0,.int .i64 (S.book.bg n),.int .i64 0,.int .i64 0,.int .i64 0,.int .u64 0] 49)=P from k8.out.symm,<-V.out.2.2];go_wp2_with fail;refine Hl.out.mono ?_;rintro z A ⟨rfl,kk⟩;obtain rfl:=kk.symm;have Hy:w.heap.size<=X:=by have:=V.out.2.2;have:=hl.out.1.size;omega
 have f:=zc Hy;have ha:Hid (∀W,zo8 (fun k=>k=X) P W->zq W (fun k=>F k/\k<w.heap.size) s S L):=zc fun W I=>h2.kept fun k N hf=>I.block k N (by have:=hf.2;omega);obtain⟨bv,hh⟩:∃bv:Option Addr,bv=(if x.band.isSome=true then some ⟨L.bb n,0,none⟩else none):=⟨_,rfl⟩
 have ka:Hid (∀W,zo8 (fun k=>k=X) P W->Calls prog 28 #[.pointer bv] W fun z w'=>∃v,z=.returned (.int .i64 v)/\w'=W):=zc fun W I=>by rw[hh];exact zli (ha.out W I) c.out.1
 have k7:Hid (∀W,zo8 (fun k=>k=X) P W->Calls prog 29 #[.pointer bv] W fun z w'=>∃v,z=.returned (.int .i64 v)/\(∀d,x.band=some d->v=d.spent)/\w'=W):=zc fun W I=>by rw[hh];exact zi0 (ha.out W I) c.out.1
 obtain⟨y0,y1,y2,y3,y4,y5,-⟩:=(h2.gp c.out.1).c7;have yl:=(h2.gp c.out.1).lt;rw[<-hh]at y5;clear hh;have Ho:X≠L.gb n:=fun e=>by have h3:=(HS.out.gp c.out.1).lt;omega
 obtain⟨Y,hY⟩:=zh (L.gb n)
 have HY:=zc hY;rw[<-hY]at y0 y1 y2 y3 y4 y5 yl Ho ⊢;have kn:Y≠X:=fun e=>Ho e.symm;obtain⟨x0,x1,x2,x3,x4,x5,x6,x7,xl,xf⟩:=xH V.out.1;have k0:=zc (And.intro y1 (And.intro y2 yl));clear h2 hr hY H Hy;go_upto_region 7 with(fail)
 go_cut []from 27 to 50 (fun wx=>∃po sp:Int,(∀d,x.band=some d->sp=d.spent)/\wx.heap[X]?=some (.cells (yF true (-1) x.shares (S.book.bg n) x.quota po sp 0) 49 (0,0))/\zo8 (fun k=>k=X) P wx)
 case first=>
  go_region_held3 (fun w'=>w'.cell? ⟨Y,3,none⟩=some (.int .u64 x.shares)/\w'.cell? ⟨Y,4,none⟩=some (.int .i64 x.quota)/\w'.cell? ⟨Y,5,none⟩=some (.pointer bv)) (go_keep)
   (first
    | (
     go_at_call 28;refine(ka.out _ (by first | exact(zo8.refl _ _).drew | exact zo8.refl _ _ | exact(zo8.refl _ _).drewN _)).mono ?_;rintro z J ⟨po,rfl,kg⟩;obtain rfl:=kg.symm)
    | (
     go_at_call 29;refine(k7.out _ (by first | exact(zo8.refl _ _).drew | exact zo8.refl _ _ | exact(zo8.refl _ _).drewN _)).mono ?_;rintro z w6 ⟨sp,rfl,ho,k5⟩;have Hf:=zc ho;obtain rfl:=k5.symm))
  all_goals
   go_wp2_with fail;go_meet
   case rel=>
    obtain⟨e1,e2⟩:=zll V.out.1 x.shares x.quota po sp;exact⟨po,sp,Hf.out,zeU e1,e2.drew⟩
 case rest=>
  obtain⟨po,sp,ho,Hj,T⟩:=hcut
  rename World=>A
  have r:=zc (And.intro ho (And.intro Hj T));have kb:=T.size;have h3:=ha.out A T;have Hv:Hid (Below w.heap.size w A):=zc (Q.out.trans (T.below Q.out.size fun k N=>by rw[N];exact f.out));have h0:Hid (∀W,Below A.heap.size A W->Calls prog 30 #[ptr L.t,.agg #[.int .i64 x.hi,.int .i64 x.hg]] W fun z w'=>∃(i g e:Int),z=.returned (.tuple #[.agg #[.int .i64 i,.int .i64 g],.int .i64 e])/\(e≠0∨(e=0/\∃(j m:Nat) (y:Gp),i=j/\j<32/\S.pl j=some m/\S.gs[m]?=some y))/\Below W.heap.size W w'):=zc fun W hb=>zn9 Ht.out c.out.1 c.out.2 W L.t L.tp (h3.behind hb).zsL.1;obtain⟨-,s5,H⟩:=h3.zsL;replace y1:=(T.block Y yl kn)
  have a:A.cell? ⟨Y,1,none⟩=some (.int .i64 x.hi):=by rw[<-k0.out.1];simp[World.cell?,y1]
  have Z:A.cell? ⟨Y,2,none⟩=some (.int .i64 x.hg):=by rw[<-k0.out.2.1];simp[World.cell?,y1]
  have M:=zf yl kb;clear y0 y1 y2 y3 y4 y5 yl x0 x1 x2 x3 x4 x5 x6 x7 xl xf ho Hj T h3;have kv:=zc (And.intro a (And.intro Z M));go_upto_region 8 with(fail)
  go_cut [7,8]from 52 to 62 (fun v7 v8 wx=>∃(U:Nat) (i g e:Int),v7=ptr U/\v8=.int .i64 e/\(e≠0∨(e=0/\∃(j m:Nat) (y:Gp),i=j/\j<32/\S.pl j=some m/\S.gs[m]?=some y))/\A.heap.size<=U/\wx.heap[U]?=some (.cells #[.int .i64 i,.int .i64 g] 78 (0,0))/\Below A.heap.size A wx)
  case first=>
   go_region_held3 (fun w'=>w'.cell? ⟨s,5,none⟩=some (ptr L.t)/\w'.cell? ⟨Y,1,none⟩=some (.int .i64 x.hi)/\w'.cell? ⟨Y,2,none⟩=some (.int .i64 x.hg)) (go_keep)
    (first
     | (
      go_at_call 30;refine(h0.out _ (by first | exact Below.refl _ _ | exact zv (Below.refl _ _))).mono ?_;rintro z J ⟨i,g,e,rfl,hi,E⟩;have Hb:=zc hi;have B:Hid (Below A.heap.size A J):=zc ⟨E.os,E.tape,E.output,E.size,E.block⟩;replace s5:=(B.out.cell (p:=⟨s,5,none⟩) H).trans s5;replace a:=(B.out.cell (p:=⟨Y,1,none⟩) M).trans a;replace Z:=(B.out.cell (p:=⟨Y,2,none⟩) M).trans Z;clear hi E)
     | (
      go_at_call 30;refine(h0.out _ (by first | exact zk A _ | exact zv (zk A _))).mono ?_;rintro z J ⟨i,g,e,rfl,hi,E⟩;have Hb:=zc hi;have Hc:Below (A.alloc (.cells #[.int .i64 0,.int .i64 0] 78)).heap.size (A.alloc (.cells #[.int .i64 0,.int .i64 0] 78)) J:=⟨E.os,E.tape,E.output,E.size,E.block⟩
      have B:Hid (Below A.heap.size A J):=zc (zj (zk A _) Hc (by simp));have R:J.heap[A.heap.size]?=some (.cells #[.int .i64 0,.int .i64 0] 78 (0,0)):=(Hc.block _ (by simp)).trans (heap_alloc_new A _);have km:=zc R;have v0:J.cell? ⟨A.heap.size,0,none⟩=some (.int .i64 0):=by simp[World.cell?,R]
      have v1:J.cell? ⟨A.heap.size,1,none⟩=some (.int .i64 0):=by simp[World.cell?,R]
      have vf:∀j,J.frozen? ⟨A.heap.size,j,none⟩=false:=by intro j;simp[World.frozen?,R]
      have vl:A.heap.size<J.heap.size:=(zd R).1;have n1:s≠A.heap.size:=Nat.ne_of_lt H;have n2:A.heap.size≠s:=fun e=>n1 e.symm;have n3:Y≠A.heap.size:=Nat.ne_of_lt M;have n4:A.heap.size≠Y:=fun e=>n3 e.symm;replace s5:=(B.out.cell (p:=⟨s,5,none⟩) H).trans s5;replace a:=(B.out.cell (p:=⟨Y,1,none⟩) M).trans a;replace Z:=(B.out.cell (p:=⟨Y,2,none⟩) M).trans Z;clear hi E R Hc))
   all_goals
    go_wp2_with fail;go_meet
    case rel=>
     first
      | exact⟨_,i,g,e,rfl,rfl,Hb.out,B.out.size,heap_alloc_new J _,zj B.out (zk J _) B.out.size⟩
      | exact⟨_,i,g,e,rfl,rfl,Hb.out,zg _,zi (zi km.out),(B.out.setCell (p:=⟨A.heap.size,0,none⟩) (zg _) _).setCell (p:=⟨A.heap.size,1,none⟩) (zg _) _⟩
      | fail
  case rest=>
   obtain⟨U,i,g,e,rfl,rfl,hi,hU,Hg,K⟩:=hcut
   rename World=>w4
   have Hw:=zc (zj Hv.out K Hv.out.size);have Hh:=(K.block X (zd r.out.2.1).1).trans r.out.2.1;have h4:zq w4 (fun k=>F k/\k<w.heap.size) s S L:=(ha.out A r.out.2.2).behind K;have o:=zc h4;have Ha:=zc Hh;have H5:=zc (And.intro hU (And.intro Hg K));have HI:=zc hi;clear hi hU Hg K Hh h4 s5 a Z M H;obtain⟨eb,kh⟩:∃eb,(e == 0)=eb:=⟨_,rfl⟩
   have Hp:=zc kh;go_upto_if 64 with(fail)
   go_cut []from 65 to 75 (fun wx=>∃pa:Int,wx.heap[X]?=some (.cells (yF true pa x.shares (S.book.bg n) x.quota po sp 0) 49 (0,0))/\zo8 (fun k=>k=X) w4 wx)
   case first=>
    rcases HI.out with he | ⟨he,j,m,y,Hn,hj,Hu,hy⟩
    ·have hv:eb=false:=by rw[<-Hp.out];simp[he]
     subst hv;go_wp2_with fail;go_meet
     case rel=>exact⟨-1,Ha.out,.refl _ _⟩
    ·have hv:eb=true:=by rw[<-Hp.out,he];rfl
     subst hv;have u0:w4.cell? ⟨U,0,none⟩=some (.int .i64 j):=by simp[World.cell?,H5.out.2.1,Hn]
     have ul:U<w4.heap.size:=(zd H5.out.2.1).1;have sj:=o.out.pl_ hj;rw[Hu]at sj;have sl:=o.out.zqq.2;obtain⟨z0,-⟩:=(o.out.gp hy).c7;have zl:=(o.out.gp hy).lt;obtain⟨Zb,H3⟩:=zh (L.gb m)
     have ky:w4.cell? ⟨s,9+j,none⟩=some (ptr Zb):=by rw[H3];exact sj
     rw[<-H3]at z0 zl;obtain⟨x0,x1,x2,x3,x4,x5,x6,x7,xl,xf⟩:=xH Ha.out;have kx:(j:Int) <32:=by omega
     clear sj Hn Hu hy H3;go_wp2_with fail;go_region
     all_goals
      go_wp2_with fail;go_meet
      case rel=>
       have I:=(zo8.refl (fun k=>k=X) w4).setCell (p:=⟨X,1,none⟩) (.inl rfl) (.int .i64 (m:Int));exact⟨m,zeU (zlj Ha.out m),I.drew⟩
   case rest=>
    obtain⟨pa,Hi,h8⟩:=hcut
    rename World=>J
    have Hr:=zc (And.intro Hi h8);have h5:zq J (fun k=>F k/\k<w.heap.size) s S L:=o.out.kept fun k N hf=>h8.block k N (by have:=hf.2;have:=f.out;omega);have kf:=zc h5;have B:Hid (Below w.heap.size w J):=zc (Hw.out.trans (h8.below Hw.out.size fun k N=>by rw[N];exact f.out));have q:0<S.ps:=by omega
    obtain⟨rh,kp,hz⟩:=h5.zsH q;have k9:=zc hz;obtain⟨h7,-,-⟩:=h5.zqF q hz;have H:=h5.zqq.2;obtain⟨ps,l⟩:=zh S.ps
    have ki:=zc l;rw[<-l]at h7 Hq q;have kr:=Hq.2;clear Hi h8 h5 hz l;go_wp2_with fail;go_loopw [9,10,81] (fun _ _ i wr=>∃(k:Nat) (st:Int),k<=ps/\i=.int .i64 k/\wr.heap[X]?=some (.cells (yF true pa x.shares (S.book.bg n) x.quota po sp st) 49 (0,0))/\zo8 (fun k=>k=X) J wr) (fun _ _ i _=>ps-(intOf i).toNat)
    case atStart=>exact⟨0,0,by omega,rfl,Hr.out.1,.refl _ _⟩
    case round=>
     obtain⟨k,st,N,rfl,hx,I⟩:=hrel;have hc:=zc (And.intro hx I);have h6:zq wr (fun k=>F k/\k<w.heap.size) s S L:=kf.out.kept fun k N hf=>I.block k N (by have:=hf.2;have:=f.out;omega);have Hk:Hid (Below w.heap.size w wr):=zc (B.out.trans (I.below B.out.size fun k N=>by rw[N];exact f.out));clear h7 H;by_cases kd:k<ps
     ·have Hz:k<S.ps:=by rw[<-ki.out];exact kd
      have ku:(k:Int) <(ps:Int):=by omega
      obtain⟨-,rk,rl⟩:=h6.zqF Hz k9.out;have k4:=zc (zht h6 Ht.out c.out.1 c.out.2 Hz);obtain⟨z0,z1,-⟩:=(h6.gp c.out.1).c7;have zl:=(h6.gp c.out.1).lt;rw[<-HY.out]at z0 z1 zl;obtain⟨x0,x1,x2,x3,x4,x5,x6,x7,xl,xf⟩:=xH hx;clear h6 hx I;go_wp2_with fail;refine k4.out.mono ?_;rintro z wq ⟨v,rfl,ko⟩;obtain rfl:=ko.symm;cases v with
      | false=>
       go_wp2_with fail;go_roundw
       case rel=>exact⟨k+1,st,by omega,by go_num,hc.out.1,hc.out.2⟩
       case measure=>simp[intOf];omega
      | true=>
       go_wp2_with fail;go_roundw
       case rel=>
        have I:=fun u=>hc.out.2.setCell (p:=⟨X,7,none⟩) (.inl rfl) u;exact⟨k+1,_,by omega,by go_num,zlk hc.out.1 _,I _⟩
       case measure=>simp[intOf];omega
     ·have ke:k=ps:=by omega
      subst ke;have C:=hl.out.2;rw[<-HD.out]at C;have hq:D≠X:=by have:=V.out.2.2;have:=(zd C).1;omega
      have H7:=(V.out.2.1.block D (zd C).1).trans C;have H0:=(r.out.2.2.block D (zd H7).1 hq).trans H7;have H9:=(H5.out.2.2.block D (zd H0).1).trans H0;have H4:=(Hr.out.2.block D (zd H9).1 hq).trans H9;have H2:=(I.block D (zd H4).1 hq).trans H4;have kc:=zc H2;obtain⟨x0,x1,x2,x3,x4,x5,x6,x7,xl,xf⟩:=xH hx;obtain⟨d0,d1,d2,d3,d4,d5,d6,d7,dl,df⟩:=xH H2;have ks:X≠D:=fun e=>hq e.symm;clear C H7 H0 H9 H4 H2 hx I h6;go_wp2;obtain⟨kl,k6⟩:=zi1 kc.out true pa x.shares (S.book.bg n) x.quota po sp st
      obtain⟨q0,q1,q2,q3,q4,q5,q6,q7,-,-⟩:=xH kl;refine bodyPost_ret (v:=.agg (yF true pa x.shares (S.book.bg n) x.quota po sp st)) ?_ rfl ⟨pa,x.shares,x.quota,po,sp,st,rfl,fun x' d Hs hd=>?_,Hk.out.trans (k6.below Hk.out.size fun k N=>by rw[N,HD.out];exact zg _)⟩
      ·simp[results,results15,go_sem,q0,q1,q2,q3,q4,q5,q6,q7]
      ·rw[c.out.1]at Hs;obtain rfl:=Option.some.inj Hs;exact r.out.1 d hd
end
theorem zi5:(prog.info? 35).map (fun i=>(i.zero,i.size,i.bytes))=some (some (.agg #[.int .i64 0,.int .i64 0,.int .i64 0,.int .i64 0,.int .i64 0,.int .u64 0]),6,48):=by kernel_rfl
theorem zhw:(prog.info? 31).map (fun i=>(i.zero,i.size,i.bytes))=some (some (.agg #[.int .i64 0,.int .i64 0]),2,16):=by kernel_rfl
def xI(l:List Ev):List Value:=l.flatMap fun e=> [.int .i64 e.kind,.int .i64 e.a,.int .i64 e.b,.int .i64 e.n,.int .i64 e.m,.int .u64 e.mask]
theorem zi6(l:List Ev)(e:Ev):xI (l++ [e])=xI l++ [.int .i64 e.kind,.int .i64 e.a,.int .i64 e.b,.int .i64 e.n,.int .i64 e.m,.int .u64 e.mask]:=by simp[xI]
theorem zeY:∀(l:List Ev) (k:Nat) (e:Ev),l[k]?=some e->(xI l)[k*6]?=some (.int .i64 e.kind)/\(xI l)[k*6+1]?=some (.int .i64 e.a)/\(xI l)[k*6+2]?=some (.int .i64 e.b)/\(xI l)[k*6+3]?=some (.int .i64 e.n)/\(xI l)[k*6+4]?=some (.int .i64 e.m)/\(xI l)[k*6+5]?=some (.int .u64 e.mask)
 | [],k,e,h=>by simp at h
 | d::l,0,e,h=>by simp at h;subst h;simp[xI]
 | d::l,k+1,e,h=>by
  have B:l[k]?=some e:=by simpa using h
  obtain⟨G,D,I,E,H,A⟩:=zeY l k e B;have J:xI (d::l)= [.int .i64 d.kind,.int .i64 d.a,.int .i64 d.b,.int .i64 d.n,.int .i64 d.m,.int .u64 d.mask]++xI l:=rfl;rw[J];refine⟨?_,?_,?_,?_,?_,?_⟩
  ·rw[List.getElem?_append_right (by simp;omega)];simpa[show(k+1)*6-6=k*6 by omega]using G
  ·rw[List.getElem?_append_right (by simp;omega)];simpa[show(k+1)*6+1-6=k*6+1 by omega]using D
  ·rw[List.getElem?_append_right (by simp;omega)];simpa[show(k+1)*6+2-6=k*6+2 by omega]using I
  ·rw[List.getElem?_append_right (by simp;omega)];simpa[show(k+1)*6+3-6=k*6+3 by omega]using E
  ·rw[List.getElem?_append_right (by simp;omega)];simpa[show(k+1)*6+4-6=k*6+4 by omega]using H
  ·rw[List.getElem?_append_right (by simp;omega)];simpa[show(k+1)*6+5-6=k*6+5 by omega]using A
def zbU(w:World)(a:Option Addr)(l:List Ev):Prop:=∀k e,l[k]?=some e->∃r,a=some ⟨r,0,none⟩/\r<w.heap.size/\w.cell? ⟨r,k*6,none⟩=some (.int .i64 e.kind)/\w.cell? ⟨r,k*6+1,none⟩=some (.int .i64 e.a)/\w.cell? ⟨r,k*6+2,none⟩=some (.int .i64 e.b)/\w.cell? ⟨r,k*6+3,none⟩=some (.int .i64 e.n)/\w.cell? ⟨r,k*6+4,none⟩=some (.int .i64 e.m)/\w.cell? ⟨r,k*6+5,none⟩=some (.int .u64 e.mask)
theorem zbU.kept{w w':World}{a:Option Addr}{l:List Ev}(h:zbU w a l)(hb:∀r,a=some ⟨r,0,none⟩->r<w.heap.size->w'.heap[r]?=w.heap[r]?)(hs:w.heap.size<=w'.heap.size):zbU w' a l:=fun k e he=>by
 obtain⟨r,A,I,D,G,B,J,E,H⟩:=h k e he;have c:∀j,w'.cell? ⟨r,j,none⟩=w.cell? ⟨r,j,none⟩:=fun j=>by simp[World.cell?,hb r A I]
 exact⟨r,A,by omega,(c _).trans D,(c _).trans G,(c _).trans B,(c _).trans J,(c _).trans E,(c _).trans H⟩
theorem zbU.behind{w w':World}{a:Option Addr}{l:List Ev}(h:zbU w a l)(hb:Below w.heap.size w w'):zbU w' a l:=h.kept (fun r _ A=>hb.block r A) hb.size
theorem zbU.zqA{w:World}{base:Nat}{t:TypeId}{a:Option Addr}{n c:Nat}{l:List Ev}(A:w.ownsRow base t 6 (.slice a n c) n (xI l)):zbU w a l:=fun k x T=>by
 obtain⟨H,D,G,R,I,J⟩:=zeY l k x T;rcases A.2 with⟨E,B⟩ | ⟨g,cap,cur,E,hb,O,_⟩
 ·have M:=A.1;have h6:=(ze D).1;rw[B]at M;omega
 ·have N:=(zd O).1;injection E with e1 e2 e3
  subst e1;have at_:∀j u,(xI l)[j]?=some u->w.cell? ⟨g,j,none⟩=some u:=fun j u hu=>by have:=A.cells (g:=g) rfl j u hu;rw[qz]at this;exact this
  exact⟨g,rfl,N,at_ _ _ H,at_ _ _ D,at_ _ _ G,at_ _ _ R,at_ _ _ I,at_ _ _ J⟩
def vB(l:List (Int×Int)):List Value:=l.flatMap fun a=> [.int .i64 a.1,.int .i64 a.2]
theorem zi7(l:List (Int×Int))(a:Int×Int):vB (l++ [a])=vB l++ [.int .i64 a.1,.int .i64 a.2]:=by simp[vB]
theorem zeZ:∀(l:List (Int×Int)) (k:Nat) (a:Int×Int),l[k]?=some a->(vB l)[k*2]?=some (.int .i64 a.1)/\(vB l)[k*2+1]?=some (.int .i64 a.2)
 | [],k,a,h=>by simp at h
 | d::l,0,a,h=>by simp at h;subst h;simp[vB]
 | d::l,k+1,a,h=>by
  have A:l[k]?=some a:=by simpa using h
  obtain⟨D,B⟩:=zeZ l k a A;have E:vB (d::l)= [.int .i64 d.1,.int .i64 d.2]++vB l:=rfl;rw[E];refine⟨?_,?_⟩
  ·rw[List.getElem?_append_right (by simp;omega)];simpa[show(k+1)*2-2=k*2 by omega]using D
  ·rw[List.getElem?_append_right (by simp;omega)];simpa[show(k+1)*2+1-2=k*2+1 by omega]using B
def zoc(w:World)(a:Option Addr)(l:List (Int×Int)):Prop:=∀k e,l[k]?=some e->∃r,a=some ⟨r,0,none⟩/\r<w.heap.size/\w.cell? ⟨r,k*2,none⟩=some (.int .i64 e.1)/\w.cell? ⟨r,k*2+1,none⟩=some (.int .i64 e.2)
theorem zoc.zqA{w:World}{base:Nat}{t:TypeId}{a:Option Addr}{n c:Nat}{l:List (Int×Int)}(A:w.ownsRow base t 2 (.slice a n c) n (vB l)):zoc w a l:=fun k x M=>by
 obtain⟨G,D⟩:=zeZ l k x M;rcases A.2 with⟨E,B⟩ | ⟨g,cap,cur,E,hb,J,_⟩
 ·have H:=A.1;have h6:=(ze D).1;rw[B]at H;omega
 ·have I:=(zd J).1;injection E with e1 e2 e3
  subst e1;have at_:∀j u,(vB l)[j]?=some u->w.cell? ⟨g,j,none⟩=some u:=fun j u hu=>by have:=A.cells (g:=g) rfl j u hu;rw[qz]at this;exact this
  exact⟨g,rfl,I,at_ _ _ G,at_ _ _ D⟩
def Ev.plain(e:Ev):Prop:=e.kind=1∨e.kind=5∨e.kind=6∨e.kind=11
def Sc.ztJ(S:Sc)(e:Ev):Out:=if e.kind=1 then S.grow e else if e.kind=5 then S.zqH e else if e.kind=6 then S.spawn e else S.zpz e
def Sc.doF(S:Sc)(e:Ev):Sc×Int×Int:=if(S.ztJ e).2.2=0 then((S.ztJ e).1.settle,(S.ztJ e).2.1,0)else((S.ztJ e).1,0,(S.ztJ e).2.2)
def Sc.zrD:Sc->List Ev->Sc×List (Int×Int)
 | s,[]=>(s,[])
 | s,e::r=>(((s.doF e).1.zrD r).1,(s.doF e).2::((s.doF e).1.zrD r).2)
theorem zod{S S':Sc}{D M:Sc->Ev->Out->Prop}{e:Ev}{n f:Int}(h:S.ztG D M e S' n f)(B:e.plain):(S',n,f)=S.doF e:=by
 rcases h with⟨A,_⟩ | ⟨o,E,G⟩
 ·unfold Ev.plain at B;omega
 ·have he:o=S.ztJ e:=by
   unfold Sc.ztJ;unfold Ev.plain at B;rcases E with⟨k,h⟩ | ⟨k,h⟩ | ⟨k,h⟩ | ⟨k,h⟩ | ⟨k,h⟩ | ⟨k,h⟩ | ⟨k,h⟩ | ⟨k,h⟩ | ⟨k,h⟩ | ⟨k,h⟩ | ⟨k,h⟩ | ⟨k,h⟩ | ⟨k,h⟩ | ⟨k,h⟩ | ⟨k,h⟩
   ·rw[if_pos k];exact h
   ·omega
   ·omega
   ·omega
   ·rw[if_neg (by omega),if_pos k];exact h
   ·rw[if_neg (by omega),if_neg (by omega),if_pos k];exact h
   ·omega
   ·omega
   ·omega
   ·omega
   ·rw[if_neg (by omega),if_neg (by omega),if_neg (by omega)];exact h
   ·omega
   ·omega
   ·omega
   ·omega
  subst he;unfold Sc.doF;rcases G with⟨A,rfl,rfl,rfl⟩ | ⟨A,rfl,rfl,rfl⟩
  ·rw[if_pos A]
  ·rw[if_neg A]
inductive Sc.zrd(D M:Sc->Ev->Out->Prop):Sc->List Ev->Sc->List (Int×Int)->Prop
 | nil (S:Sc):Sc.zrd D M S [] S []
 | cons {S S1 S2:Sc} {e:Ev} {r:List Ev} {n f:Int} {l:List (Int×Int)} (h:S.ztG D M e S1 n f) (t:Sc.zrd D M S1 r S2 l):Sc.zrd D M S (e::r) S2 ((n,f)::l)
theorem zlp{D M:Sc->Ev->Out->Prop}{S S':Sc}{l:List Ev}{a:List (Int×Int)}(h:Sc.zrd D M S l S' a)(A:∀e∈l,e.plain):(S',a)=S.zrD l:=by
 induction h with
 | nil S=>rfl
 | cons h t ih=>
  have E:=zod h (A _ List.mem_cons_self);have B:=ih fun e he=>A e (List.mem_cons_of_mem _ he);unfold Sc.zrD;rw[<-E];simp only;rw[<-B]
def xp:List Ev:= [⟨1,0,0,1024,0,0⟩,⟨1,0,0,1024,0,0⟩,⟨5,1,0,30,10,0⟩,⟨6,1,0,0,0,1⟩,⟨6,2,0,0,0,1⟩,⟨11,0,0,10,0,0⟩,⟨11,0,0,10,0,0⟩]
theorem zfO:∀e∈xp,e.plain:=by unfold Ev.plain;decide
theorem zlq:∀e∈xp,e.Ok:=by unfold Ev.Ok;decide
theorem zi8:((Sc.new 1 100 0 0 100).zrD xp).2= [(1,0),(2,0),(0,0),(0,0),(1,0),(0,0),(1,0)]:=by decide+kernel
theorem zi9:((Sc.new 1 100 0 0 100).zrD xp).1.book.bt 1=10:=by decide+kernel
theorem zja:(((Sc.new 1 100 0 0 100).zrD xp).1.g 1).band.map (fun b=>b.spent)=some 10:=by decide+kernel
theorem zjb:((Sc.new 1 100 0 0 100).zrD xp).1.gs.length=3/\((Sc.new 1 100 0 0 100).zrD xp).1.ts.length=2:=by decide+kernel
def zaB(A:Nat->Nat)(w:World)(B bd ln:Nat)(k:Nat):Nat:=if k=B then 2 else if k=bd then 3 else if k=ln then 4 else zD A w 2 k
def zoT(F:Nat->Prop)(w w':World)(B bd ln:Nat)(k:Nat):Prop:=Ext F w w' k∨k=B∨k=bd∨k=ln
theorem zfQ{w w':World}{F:Nat->Prop}{D:Nat->Nat}{d B bd ln k:Nat}(E:k<w.heap.size)(A:Own F D d k)(H:¬F B)(hd:¬F bd)(G:¬F ln):Own (zoT F w w' B bd ln) (zaB D w B bd ln) d k:=
 ⟨.inl (.inl A.1),by unfold zaB;rw[if_neg (by rintro rfl;exact H A.1),if_neg (by rintro rfl;exact hd A.1),if_neg (by rintro rfl;exact G A.1)];unfold zD;rw[if_pos E];exact A.2⟩
theorem vC{X:World->(Nat->Prop)->Prop}(J:∀{w w':World} {G:Nat->Prop},X w G->zY G w w'->X w' G)(hm:∀{w:World} {G I:Nat->Prop},X w G->(∀k,k<w.heap.size->G k->I k)->X w I)
 {w w':World} {F:Nat->Prop} {E:Nat->Nat} {d B bd ln:Nat} (h:X w (Own F E d)) (D:∀k,k<w.heap.size->Own F E d k->w'.heap[k]?=w.heap[k]?) (M:¬F B) (hd:¬F bd) (H:¬F ln):
 X w' (Own (zoT F w w' B bd ln) (zaB E w B bd ln) d):=
 hm (J (hm h (fun k H A=>(⟨A,H⟩:Own F E d k/\k<w.heap.size))) (fun k H A=>D k A.2 A.1)) fun k _ A=>zfQ A.2 A.1 M hd H
theorem zhA(gb:Nat->Nat)(l:List Gp)(g:Gp)(B:Nat)(D:g.there=true):yx (zpt gb l.length B) (l++ [g])=yx gb l++ [some B]:=by
 unfold yx;rw[List.length_append,List.length_singleton,List.range_succ,List.map_append]
 congr 1
 ·refine List.map_congr_left fun n E=>?_;have A:=List.mem_range.1 E;rw[zA _ _ (by omega)];rw[List.getD_eq_getElem?_getD,List.getD_eq_getElem?_getD,List.getElem?_append_left A]
 ·simp[zy,D]
theorem zjd{l:List Gp}{g x:Gp}{n:Nat}(h:(l++ [g])[n]?=some x):(n<l.length/\l[n]?=some x)∨(n=l.length/\x=g):=by
 by_cases A:n<l.length
 ·rw[List.getElem?_append_left A]at h;exact .inl ⟨A,h⟩
 ·have B:=(ze h).1;have hm:n=l.length:=by simp at B;omega
  subst hm;simp at h;exact .inr ⟨rfl,h.symm⟩
theorem zfR{f:Nat->Nat}{n B:Nat}(D:∀a c,a<n->c<n->f a=f c->a=c)(A:∀k,k<n->f k≠B):∀a c,a<n+1->c<n+1->zpt f n B a=zpt f n B c->a=c:=by
 intro a c ha hc he;unfold zpt at he;split at he
 ·rename_i e1;split at he
  ·omega
  ·exact absurd he.symm (A c (by omega))
 ·split at he
  ·exact absurd he (A a (by omega))
  ·exact D a c (by omega) (by omega) he
theorem zq.ztK{w:World}{F:Nat->Prop}{s:Nat}{S:Sc}{L:Lay}(h:zq w F s S L)(bd ln:Nat)(hd:¬F bd)(Y:¬F ln):
 ∃bb lb,zq w F s S { L with bb:=bb,lb:=lb }/\(∀k,k<S.gs.length->bb k≠bd)/\∀k,k<S.gs.length->lb k≠ln:=by
 obtain⟨J,h⟩:=h;have key:∀(f:Nat->Nat) (x:Nat),(∀n m,n<S.gs.length->m<S.gs.length->f n=f m->n=m)->(∀(n:Nat) (g:Gp),S.gs[n]?=some g->g.band.isSome=true->f n<w.heap.size/\f n≠x)->
  ∃f':Nat->Nat,(∀(n:Nat) (g:Gp),S.gs[n]?=some g->g.band.isSome=true->f' n=f n)/\(∀n m,n<S.gs.length->m<S.gs.length->f' n=f' m->n=m)/\∀k,k<S.gs.length->f' k≠x:=by
  intro f x a E;refine⟨fun n=>if(S.g n).band.isSome=true then f n else w.heap.size+x+1+n,fun n g B hb=>?_,fun n m R hm he=>?_,fun k V=>?_⟩
  ·show(if(S.g n).band.isSome=true then f n else w.heap.size+x+1+n)=f n;rw[Sc.zpj B,if_pos hb]
  ·have A:(if(S.g n).band.isSome=true then f n else w.heap.size+x+1+n)=if(S.g m).band.isSome=true then f m else w.heap.size+x+1+m:=he
   obtain⟨y,H⟩:∃y,S.gs[n]?=some y:=⟨_,List.getElem?_eq_getElem R⟩
   obtain⟨z,O⟩:∃z,S.gs[m]?=some z:=⟨_,List.getElem?_eq_getElem hm⟩
   rw[Sc.zpj H,Sc.zpj O]at A;by_cases D:y.band.isSome=true
   ·have:=(E n y H D).1;rw[if_pos D]at A;by_cases G:z.band.isSome=true
    ·rw[if_pos G]at A;exact a n m R hm A
    ·rw[if_neg G]at A;omega
   ·rw[if_neg D]at A;by_cases G:z.band.isSome=true
    ·have:=(E m z O G).1;rw[if_pos G]at A;omega
    ·rw[if_neg G]at A;omega
  ·show(if(S.g k).band.isSome=true then f k else w.heap.size+x+1+k)≠x;obtain⟨y,H⟩:∃y,S.gs[k]?=some y:=⟨_,List.getElem?_eq_getElem V⟩
   rw[Sc.zpj H];by_cases D:y.band.isSome=true
   ·rw[if_pos D];exact(E k y H D).2
   ·rw[if_neg D];omega
 have I:∀(n:Nat) (g:Gp),S.gs[n]?=some g->g.band.isSome=true->L.bb n<w.heap.size/\L.bb n≠bd:=fun n g B hb=>by obtain⟨b,hb⟩:=Option.isSome_iff_exists.1 hb;obtain⟨o,k⟩:=h.bs.bd n g b B hb;exact⟨k.lt,fun e=>hd (by rw[<-e];exact o.1)⟩
 have M:∀(n:Nat) (g:Gp),S.gs[n]?=some g->g.band.isSome=true->L.lb n<w.heap.size/\L.lb n≠ln:=fun n g B hb=>by obtain⟨o,k⟩:=h.ls.ln n g B hb;exact⟨k.lt,fun e=>Y (by rw[<-e];exact o.1)⟩
 obtain⟨bb,N,Z,U⟩:=key L.bb bd h.bs.inj I;obtain⟨lb,T,c,X⟩:=key L.lb ln h.ls.inj M;refine⟨bb,lb,⟨J,⟨h.sx.ty,h.sx.own,h.sx.c0,h.sx.c1,h.sx.c2,h.sx.c3,h.sx.c4,h.sx.c5,h.sx.c6,h.sx.c7,h.sx.c8,h.sx.pl,h.sx.at_,h.sx.vh,h.sx.vc,h.sx.bk⟩,h.ts,⟨h.gs.row,fun n g B=>⟨(h.gs.gp n g B).1,?_⟩,h.gs.inj⟩,⟨fun n g b B hb=>?_,Z⟩,⟨fun n g B hb=>?_,c⟩,h.cs,h.tr,h.po,h.bk,h.vh,h.hs⟩,U,X⟩
 ·have E:=(h.gs.gp n g B).2;unfold zrA at E ⊢;by_cases hb:g.band.isSome=true
  ·show w.heap[L.gb n]?=some (.cells (vS n (bb n) (lb n) g) 86 (0,0));rw[N n g B hb,T n g B hb];exact E
  ·show w.heap[L.gb n]?=some (.cells (vS n (bb n) (lb n) g) 86 (0,0));rw[E];unfold vS;rw[if_neg hb,if_neg hb];simp[hb]
 ·show Own F J 3 (bb n)/\Qt.zo9 w (bb n) b;rw[N n g B (by rw[hb];rfl)];exact h.bs.bd n g b B hb
 ·show Own F J 4 (lb n)/\zG w (lb n) g.line;rw[T n g B hb];exact h.ls.ln n g B hb
theorem zq.zs3{w w':World}{F:Nat->Prop}{s:Nat}{S:Sc}{L:Lay}{B bd ln I:Nat}{g:Gp}{d:zqL}{v':Value}(h:zq w F s S L)(J:¬F B)(hd:¬F bd)(N:¬F ln)(H0:B≠bd)(h7:B≠ln)(ho:bd≠ln)
 (hx:zrA w B S.gs.length bd ln g) (hz:g.there=true) (h4:g.band=some d) (o:Qt.zo9 w bd d) (q:zG w ln g.line) (h6:∀k,k<S.gs.length->L.bb k≠bd) (H6:∀k,k<S.gs.length->L.lb k≠ln)
 (H4:∀i n,S.pl i=some n->n<S.gs.length) (h5:∀(n:Nat) (t:Tk),S.ts[n]?=some t->t.zpc<S.gs.length)
 (Q:zo8 (fun k=>k=s∨L.vg.ownBlock=some k) w w') (V:w'.ownsRow 0 59 1 v' (S.gs.length+1) (yq (yx L.gb S.gs++ [some B])))
 (C:∀k,v'.ownBlock=some k->L.vg.ownBlock=some k∨w.heap.size<=k) (hs:∃cs,w'.heap[s]?=some (.cells cs 66 (0,0)))
 (h8:w'.cell? ⟨s,8,none⟩=some v') (hq:w'.cell? ⟨s,9+I,none⟩=some (.pointer (some ⟨B,0,none⟩))) (u:∀j,j≠8->j≠9+I->w'.cell? ⟨s,j,none⟩=w.cell? ⟨s,j,none⟩) (hI:I<32):
 zq w' (zoT F w w' B bd ln) s { S with gs:=S.gs++ [g],pl:=zpt S.pl I (some S.gs.length) } { L with gb:=zpt L.gb S.gs.length B,bb:=zpt L.bb S.gs.length bd,lb:=zpt L.lb S.gs.length ln,vg:=v' }:=by
 obtain⟨W,h⟩:=h;have O:Own F W 0 s:=h.sx.own;have T:∀k,L.vg.ownBlock=some k->Own F W 2 k:=h.gs.row.own;have hg:=h.sx.lt;have H8:s≠B:=by rintro rfl;exact J O.1
 have H9:s≠bd:=by rintro rfl;exact hd O.1
 have H7:s≠ln:=by rintro rfl;exact N O.1
 have Ha:∀k,¬F k->L.vg.ownBlock≠some k:=fun k D e=>D (T k e).1;have A:∀d,d≠0->d≠2->∀k,k<w.heap.size->Own F W d k->w'.heap[k]?=w.heap[k]?:=fun d h0 Y k D v=>Q.block k D (by
  rintro(e | e)
  ·subst e;exact h0 (v.2.symm.trans O.2)
  ·exact Y (v.2.symm.trans (T k e).2))
 have out:∀k,k<w.heap.size->¬F k->w'.heap[k]?=w.heap[k]?:=fun k D v=>Q.block k D (by
  rintro(e | e)
  ·subst e;exact v O.1
  ·exact v (T k e).1)
 have Z:=hx.lt;have K:=o.lt;have H2:=q.lt;have M:∀{f:Nat->Nat} {B k:Nat},k<S.gs.length->zpt f S.gs.length B k=f k:=fun D=>zA _ _ (by omega);have P:∀k,k<S.gs.length->L.gb k≠B:=fun k D e=>by
  obtain⟨y,H⟩:∃y,S.gs[k]?=some y:=⟨_,List.getElem?_eq_getElem D⟩
  have:=(h.gs.gp k y H).1.1;rw[e]at this;exact J this
 refine⟨zaB W w B bd ln,?_,?_,?_,?_,?_,vC (X:=fun w G=>zq0 w G L.cb L.vc S.ps S.cs) zq0.kept zq0.mono h.cs (A 5 (by omega) (by omega)) J hd N,
  vC (X:=fun w G=>zS w G L.t L.tp S.tree) zS.kept zS.mono h.tr (A 6 (by omega) (by omega)) J hd N,vC (X:=fun w G=>zX w G L.pp S.pool) zX.kept zX.mono h.po (A 7 (by omega) (by omega)) J hd N,
  vC (X:=fun w G=>zM w G L.bk S.book) zM.kept zM.mono h.bk (A 8 (by omega) (by omega)) J hd N,?_,fun p hp=>vC (X:=fun w G=>zB w G (L.hb p) (S.hs p)) zB.kept zB.mono (h.hs p hp) (A (p+9) (by omega) (by omega)) J hd N⟩
 ·have e:=fun j (Y:j≠8) (h2:j≠9+I)=>u j Y h2;refine⟨hs,zfQ hg O J hd N,(e _ (by omega) (by omega)).trans h.sx.c0,(e _ (by omega) (by omega)).trans h.sx.c1,(e _ (by omega) (by omega)).trans h.sx.c2,(e _ (by omega) (by omega)).trans h.sx.c3,(e _ (by omega) (by omega)).trans h.sx.c4,(e _ (by omega) (by omega)).trans h.sx.c5,(e _ (by omega) (by omega)).trans h.sx.c6,(e _ (by omega) (by omega)).trans h.sx.c7,h8,fun i hi=>?_,fun i hi=>(e _ (by omega) (by omega)).trans (h.sx.at_ i hi),(e _ (by omega) (by omega)).trans h.sx.vh,(e _ (by omega) (by omega)).trans h.sx.vc,(e _ (by omega) (by omega)).trans h.sx.bk⟩
  show w'.cell? ⟨s,9+i,none⟩=some (.pointer ((zpt S.pl I (some S.gs.length) i).map fun n=>⟨zpt L.gb S.gs.length B n,0,none⟩));by_cases ei:i=I
  ·subst ei;rw[zy,hq];show _=some (Value.pointer (some ⟨zpt L.gb S.gs.length B S.gs.length,0,none⟩));rw[zy]
  ·rw[zA _ _ ei,e _ (by omega) (by omega),h.sx.pl i hi];cases hp:S.pl i with
   | none=>rfl
   | some n=>show some (Value.pointer (some ⟨L.gb n,0,none⟩))=some (Value.pointer (some ⟨zpt L.gb S.gs.length B n,0,none⟩));rw[M (H4 i n hp)]
 ·refine⟨⟨⟨h.ts.row.row.1,?_⟩,fun k D=>zfQ (h.ts.row.row.lt k D).2 (h.ts.row.own k D) J hd N⟩,fun m y H=>?_,h.ts.inj⟩
  ·rcases h.ts.row.row.2 with hn | ⟨r,cap,cur,x,hb,U,hr⟩
   ·exact .inl hn
   ·have h9:=h.ts.row.own r (by rw[x];rfl);exact .inr ⟨r,cap,cur,x,hb,(A 1 (by omega) (by omega) r (zd U).1 h9).trans U,hr⟩
  ·obtain⟨R,E⟩:=h.ts.tk m y H;refine⟨zfQ E.lt R J hd N,?_⟩;have h3:zp7 w' (L.tb m) L.gb y:=E.of (A 1 (by omega) (by omega) _ E.lt R);show w'.heap[L.tb m]?=some (.cells (zau (zpt L.gb S.gs.length B) y) 82 (0,0));rw[show w'.heap[L.tb m]?=some (.cells (zau L.gb y) 82 (0,0))from h3];unfold zau;rw[M (h5 m y H)]
 ·refine⟨⟨?_,fun k D=>?_⟩,fun m y H=>?_,?_⟩
  ·rw[zhA _ _ _ _ hz,List.length_append,yZ];exact V
  ·rcases C k D with Y | Y
   ·exact zfQ (h.gs.row.row.lt k Y).2 (T k Y) J hd N
   ·have h2:=(V.lt k D).2;refine⟨.inl (.inr ⟨Y,h2⟩),?_⟩;unfold zaB;rw[if_neg (by omega),if_neg (by omega),if_neg (by omega)];unfold zD;rw[if_neg (by omega)]
  ·rcases zjd H with⟨hm,H⟩ | ⟨rfl,rfl⟩
   ·obtain⟨R,E⟩:=h.gs.gp m y H;show Own _ _ 2 (zpt L.gb S.gs.length B m)/\zrA w' (zpt L.gb S.gs.length B m) m (zpt L.bb S.gs.length bd m) (zpt L.lb S.gs.length ln m) y;rw[M hm,M hm,M hm];refine⟨zfQ E.lt R J hd N,E.of (Q.block _ E.lt ?_)⟩;rintro(e | e)
    ·rw[e]at R;have:=R.2;have:=O.2;omega
    ·exact zz h.gs.row.row (show w.heap[L.gb m]?=some (.cells _ _ _)from E) (by decide) e
   ·show Own _ _ 2 (zpt L.gb S.gs.length B S.gs.length)/\zrA w' (zpt L.gb S.gs.length B S.gs.length) S.gs.length (zpt L.bb S.gs.length bd S.gs.length) (zpt L.lb S.gs.length ln S.gs.length) y;rw[zy,zy,zy];exact⟨⟨.inr (.inl rfl),by unfold zaB;rw[if_pos rfl]⟩,hx.of (out _ Z J)⟩
  ·intro a c z l he;have H5:a<S.gs.length+1:=by simpa using z
   have hj:c<S.gs.length+1:=by simpa using l
   exact zfR h.gs.inj P a c H5 hj he
 ·refine⟨fun m y b H hb=>?_,fun a c z l he=>?_⟩
  ·rcases zjd H with⟨hm,H⟩ | ⟨rfl,rfl⟩
   ·obtain⟨R,E⟩:=h.bs.bd m y b H hb;show Own _ _ 3 (zpt L.bb S.gs.length bd m)/\Qt.zo9 w' (zpt L.bb S.gs.length bd m) b;rw[M hm];exact⟨zfQ E.lt R J hd N,E.kept (A 3 (by omega) (by omega) _ E.lt R)⟩
   ·rw[h4]at hb;obtain rfl:=Option.some.inj hb;show Own _ _ 3 (zpt L.bb S.gs.length bd S.gs.length)/\Qt.zo9 w' (zpt L.bb S.gs.length bd S.gs.length) d;rw[zy];exact⟨⟨.inr (.inr (.inl rfl)),by unfold zaB;rw[if_neg (Ne.symm H0),if_pos rfl]⟩,o.kept (out _ K hd)⟩
  ·exact zfR h.bs.inj h6 a c (by simpa using z) (by simpa using l) he
 ·refine⟨fun m y H hb=>?_,fun a c z l he=>?_⟩
  ·rcases zjd H with⟨hm,H⟩ | ⟨rfl,rfl⟩
   ·obtain⟨R,E⟩:=h.ls.ln m y H hb;show Own _ _ 4 (zpt L.lb S.gs.length ln m)/\zG w' (zpt L.lb S.gs.length ln m) y.line;rw[M hm];exact⟨zfQ E.lt R J hd N,E.of (A 4 (by omega) (by omega) _ E.lt R)⟩
   ·show Own _ _ 4 (zpt L.lb S.gs.length ln S.gs.length)/\zG w' (zpt L.lb S.gs.length ln S.gs.length) y.line;rw[zy];exact⟨⟨.inr (.inr (.inr rfl)),by unfold zaB;rw[if_neg (Ne.symm h7),if_neg (Ne.symm ho),if_pos rfl]⟩,q.of (out _ H2 N)⟩
  ·exact zfR h.ls.inj H6 a c (by simpa using z) (by simpa using l) he
 ·refine⟨⟨h.vh.row.1,?_⟩,fun k D=>zfQ (h.vh.row.lt k D).2 (h.vh.own k D) J hd N⟩;rcases h.vh.row.2 with hn | ⟨r,cap,cur,x,hb,U,hr⟩
  ·exact .inl hn
  ·refine .inr ⟨r,cap,cur,x,hb,?_,hr⟩;have Z:=(zd U).1;have H3:=h.vh.own r (by rw[x];rfl);rw[Q.block r Z ?_];exact U;rintro(e | e)
   ·obtain⟨cs,l⟩:=h.sx.ty;rw[e,l]at U;simp only[Option.some.injEq,Obj.cells.injEq]at U;exact absurd U.2.1 (by decide)
   ·have:=(T r e).2;have:=H3.2;omega
theorem zq.ztL{w:World}{F:Nat->Prop}{s:Nat}{S:Sc}{L:Lay}(h:zq w F s S L):w.ownsRow 0 59 1 L.vg S.gs.length (yq (yx L.gb S.gs))/\∀k,L.vg.ownBlock=some k->F k:=by obtain⟨tg,h⟩:=h;have:=h.gs.row.row;rw[yZ]at this;exact⟨this,fun k A=>(h.gs.row.own k A).1⟩
theorem zq.plC{w:World}{F:Nat->Prop}{s:Nat}{S:Sc}{L:Lay}(h:zq w F s S L){i:Nat}(A:i<32):w.cell? ⟨s,9+i,none⟩=some (.pointer ((S.pl i).map fun n=>⟨L.gb n,0,none⟩)):=by obtain⟨tg,h⟩:=h;exact h.sx.pl i A
theorem zq.c8{w:World}{F:Nat->Prop}{s:Nat}{S:Sc}{L:Lay}(h:zq w F s S L):w.cell? ⟨s,8,none⟩=some L.vg:=by obtain⟨tg,h⟩:=h;exact h.sx.c8
theorem zq.ztM{w E:World}{F:Nat->Prop}{s:Nat}{S:Sc}{L:Lay}{B bd ln I g2 cap2 n vc:Nat}{T:Option Addr}{g:Gp}{d:zqL}(h:zq w F s S L)(hB:¬F B)(hd:¬F bd)(Q:¬F ln)(o:B≠bd)(z:B≠ln)(r:bd≠ln)
 (hx:zrA w B S.gs.length bd ln g) (b:g.there=true) (X:g.band=some d) (Z:Qt.zo9 w bd d) (Y:zG w ln g.line)
 (x:∀i n,S.pl i=some n->n<S.gs.length) (f:∀(n:Nat) (t:Tk),S.ts[n]?=some t->t.zpc<S.gs.length) (y:L.vg=.slice T n vc) (hn:n=S.gs.length)
 (K:zo8 (fun k=>(Value.slice T n vc).ownBlock=some k) w E) (W:E.ownsRow 0 59 1 (.slice (some ⟨g2,0,none⟩) (n+1) cap2) (n+1) (yq (yx L.gb S.gs)++ [ptr B])) (N:(Value.slice T n vc).ownBlock=some g2∨g2=w.heap.size+1) (P:I<32):
 ∃L',zn w (fun k=>F k∨k=B∨k=bd∨k=ln) s { S with gs:=S.gs++ [g],pl:=zpt S.pl I (some S.gs.length) } L' ((E.setCell ⟨s,8,none⟩ (.slice (some ⟨g2,0,none⟩) (n+1) cap2)).setCell ⟨s,9+I,none⟩ (ptr B)):=by
 obtain⟨bb,lb,h,p,C⟩:=h.ztK bd ln hd Q;have c:=h.zqq.2;obtain⟨H,v⟩:=h.ztL;have H:w.ownsRow 0 59 1 L.vg S.gs.length (yq (yx L.gb S.gs)):=H;obtain⟨cs,U⟩:=h.tyS;have M:∀k,(Value.slice T n vc).ownBlock=some k->k≠s:=fun k D l=>by subst l;rw[<-y]at D;exact zz H U (by decide) D
 have J:E.heap[s]?=w.heap[s]?:=K.block s c fun l=>M s l rfl;have m:g2≠s:=by
  rcases N with A | A
  ·exact M g2 A
  ·omega
 have O:zo8 (fun k=>k=s) E ((E.setCell ⟨s,8,none⟩ (.slice (some ⟨g2,0,none⟩) (n+1) cap2)).setCell ⟨s,9+I,none⟩ (ptr B)):=(zo8.refl (fun k=>k=s) E).one.one;have R:zo8 (fun k=>k=s∨L.vg.ownBlock=some k) w ((E.setCell ⟨s,8,none⟩ (.slice (some ⟨g2,0,none⟩) (n+1) cap2)).setCell ⟨s,9+I,none⟩ (ptr B)):=by rw[y];exact(K.mono (G:=fun k=>k=s∨(Value.slice T n vc).ownBlock=some k) fun k D=>.inr D).trans O fun k D=>.inl (.inl D)
 have a:g2<E.heap.size:=(W.lt g2 rfl).2;have V:((E.setCell ⟨s,8,none⟩ (.slice (some ⟨g2,0,none⟩) (n+1) cap2)).setCell ⟨s,9+I,none⟩ (ptr B)).ownsRow 0 59 1 (.slice (some ⟨g2,0,none⟩) (n+1) cap2) (S.gs.length+1) (yq (yx L.gb S.gs++ [some B])):=by rw[show yq (yx L.gb S.gs++ [some B])=yq (yx L.gb S.gs)++ [ptr B]by simp[yq],<-hn];refine xW W fun k D=>?_;obtain rfl:g2=k:=Option.some.inj D;exact O.block g2 a m
 have hP:=h.zs3 (B:=B) (bd:=bd) (ln:=ln) (I:=I) (g:=g) (d:=d) (v':=.slice (some ⟨g2,0,none⟩) (n+1) cap2) hB hd Q o z r hx b X Z Y p C x f R V (fun k D=>by
  obtain rfl:g2=k:=Option.some.inj D;show L.vg.ownBlock=some g2∨_;rw[y];rcases N with A | A
  ·exact .inl A
  ·exact .inr (by omega)) ⟨_,zi (zi (J.trans U))⟩ (by
  have h7:E.cell? ⟨s,8,none⟩=some L.vg:=by have:w.cell? ⟨s,8,none⟩=some L.vg:=h.c8;rw[<-this];simp[World.cell?,J]
  rw[World.cell?_setCell_other _ _ _ _ (by intro e;injection e with e1 e2;omega)];exact World.cell?_setCell_same _ _ _ h7) (by
  have q:E.cell? ⟨s,9+I,none⟩=some (.pointer ((S.pl I).map fun n=>⟨L.gb n,0,none⟩)):=by have:w.cell? ⟨s,9+I,none⟩=some (.pointer ((S.pl I).map fun n=>⟨L.gb n,0,none⟩)):=h.plC P;rw[<-this];simp[World.cell?,J]
  exact World.cell?_setCell_same _ _ _ (u:=.pointer ((S.pl I).map fun n=>⟨L.gb n,0,none⟩)) (by rw[World.cell?_setCell_other _ _ _ _ (by intro e;injection e with e1 e2;omega)];exact q)) (fun j A h2=>by
  have:E.cell? ⟨s,j,none⟩=w.cell? ⟨s,j,none⟩:=by simp[World.cell?,J]
  rw[World.cell?_setCell_other _ _ _ _ (by intro e;injection e with e1 e2;omega),World.cell?_setCell_other _ _ _ _ (by intro e;injection e with e1 e2;omega),this]) P
 refine⟨_,hP.mono fun k D hf=>?_,R.mono fun k D=>.inl ?_⟩
 ·rcases hf with(A | A) | A
  ·exact .inl (.inl A)
  ·exact .inr A
  ·exact .inl (.inr A)
 ·rcases D with A | A
  ·subst A;exact h.ztf.1
  ·exact v k A
section
attribute [local go_sem ↓] Go.wp_at_zero Go.wp_at_succ
def yG(y:Gp)(d:zqL):Nat:=2*y.line.length+(if 0<d.pool then 1 else 0)
theorem zjo{S:Sc}{g k:Nat}{y:Gp}{d:zqL}(A:(S.zqf g k).gs[g]?=some y)(hd:y.band=some d):S.zqf g (k+1)=if(S.zqf g k).load g k=0 then(S.zqf g k).zpd g (y.zpl (d.back k (zZ d k)))else S.zqf g k:=by rw[Sc.zqf,Sc.zpj A,hd]
theorem zhG(g:Nat)(x:Gp)(dx:zqL)(b:Nat)(w:World)(F:Nat->Prop)(s:Nat)(S:Sc)(L:Lay)(h:zq w F s S L)(ok:S.Fit b)(hg:S.gs[g]?=some x)(ht:x.there=true)(Hu:x.band=some dx):
 Calls prog 56 #[ptr s,ptr (L.gb g)] w fun z w'=>(∃v,z=.returned v)/\zn w F s (S.share g) L w':=by
 have h0:=ok.1.zqc hg Hu;have HH:=zc h;have He:=zc ok;have HX:=zc hg;have Hz:=zc ht;obtain⟨s0,Hb⟩:=h.zqq;have kc:=ok.1.ps.2;obtain⟨n,hN⟩:=zh S.ps
 have HN:=zc hN;have k1:S.share g=Sc.serve g 200 (S.zqf g S.ps):=rfl;rw[k1];rw[<-hN]at s0 kc ⊢;obtain⟨T0,H9⟩:=zh (S.zqf g n)
 have k8:=zc H9;rw[<-H9];clear h ok hN hg ht Hu k1 H9;go_enter func56,ntmps56;go_wp2_with fail;clear s0 Hb;go_loopw [4,12] (fun _ i wr=>∃(k:Nat),k<=n/\i=.int .i64 k/\zn w F s (S.zqf g k) L wr) (fun _ i _=>n-(intOf i).toNat)
 case atStart=>exact⟨0,by omega,rfl,zn.refl HH.out⟩
 case round=>
  obtain⟨k,hk,rfl,hl⟩:=hrel;have t:=zc hl;clear hl;obtain⟨fT,nT⟩:=zcg He.out HX.out Hz.out k (by rw[<-HN.out];exact hk);obtain⟨y,J,_,_,U,_,_⟩:=nT.g g x HX.out;rw[Hz.out]at U;obtain⟨d,hd,f,X⟩:=fT.1.band J U h0;have M:=zc fT;have K:=zc nT;have a:=zc J;have HD:=zc hd;have I:=zc U;by_cases k3:k<n
  ·have Y:=zjo J hd;obtain⟨T,hT⟩:=zh (S.zqf g k)
   rw[<-hT]at t M K a Y f;have D:=zc Y;have k6:k<d.l.length:=by rw[f,K.out.ps,<-HN.out];exact k3
   have H7:=X.small (by have:=He.out.1.zqg;omega);have HC:=zc (uJ g k y b wr _ s T L t.out.1 M.out.1 a.out I.out (by omega));have km:(k:Int) <(n:Int):=by omega
   obtain⟨lo,Ha⟩:=zh (T.load g k)
   rw[<-Ha]at HC D;by_cases hz:lo=0
   ·have HE:Hid (S.zqf g (k+1)=T.zpd g (y.zpl (d.back k (zZ d k)))):=zc (by rw[D.out,if_pos hz]);rw[hz]at HC;have Hc:=zc (qw k6);clear Y hT J hd U f X fT nT Ha hz;go_wp2_with fail;refine HC.out.mono ?_;rintro z w4 ⟨rfl,Z⟩;have B:=zc (t.out.below Z);clear Z;obtain⟨-,-,-,-,-,Q,-⟩:=(B.out.1.gp a.out).c7;have N:=(B.out.1.gp a.out).lt;rw[HD.out]at Q;simp only[Option.isSome_some,if_true]at Q;have HR:=zc (Qt.zsE k (zZ d k) w4 (L.bb g) d (B.out.1.band a.out HD.out) H7 Hc.out);go_wp2_with fail;refine HR.out.mono ?_;rintro z w5 ⟨rfl,O,V⟩;have A:=zc (B.out.then (B.out.1.zrF a.out HD.out V O))
    clear O V Q N;go_wp2_with fail;go_roundw
    case rel=>exact⟨k+1,by omega,by go_num,by rw[HE.out];exact A.out⟩
    case measure=>simp[intOf];omega
   ·have HE:Hid (S.zqf g (k+1)=T):=zc (by rw[D.out,if_neg hz]);clear Y hT J hd U f X fT nT Ha;have kp:(lo == 0)=false:=by simpa using hz
    clear hz;go_wp2_with fail;refine HC.out.mono ?_;rintro z w4 ⟨rfl,Z⟩;have B:=zc (t.out.below Z);clear Z;go_wp2_with fail;go_roundw
    case rel=>exact⟨k+1,by omega,by go_num,by rw[HE.out];exact B.out⟩
    case measure=>simp[intOf];omega
  ·have k9:k=n:=by omega
   subst k9;rw[<-k8.out]at t M K a;have kh:y.line.length<=64:=by obtain⟨rg,fr,hx,h2⟩:=t.out.1.line a.out (by rw[hd];rfl);have:=hx.n;omega
   have u:yG y d<200:=by unfold yG;split <;> omega
   have o:=zc u;clear J hd U f X fT nT kh u;go_wp2_with fail;go_loopg [5,6] 200 (fun m _ _ wr=>∃(k:Nat) (T:Sc) (y:Gp) (d:zqL),zn w F s T L wr/\T.Fit b/\S.zpJ T/\T.gs[g]?=some y/\y.there=true/\y.band=some d/\yG y d<=m/\yG y d<k/\Sc.serve g k T=Sc.serve g 200 T0)
   case atStart=>exact⟨200,T0,y,d,t.out,M.out,K.out,a.out,I.out,HD.out,Nat.le_of_lt o.out,o.out,rfl⟩
   case round=>
    clear o HD I a K M t;obtain⟨j,T,y,d,hl,hn,h6,J,U,hd,hm,hj,Ho⟩:=hrel;have t:=zc hl;have M:=zc hn;have Hw:=zc h6;have a:=zc J;have I:=zc U;have HD:=zc hd;have Hs:=zc hm;have HJ:=zc hj;have Hf:=zc Ho;obtain⟨-,-,-,-,-,Q,x6⟩:=(hl.1.gp J).c7;have N:=(hl.1.gp J).lt;have H3:y.band.isSome=true:=by rw[hd];rfl
    rw[H3]at Q x6;simp only[if_true]at Q x6;have H2:=zc H3;have H8:=zc (Qt.zr5 wr (L.bb g) d (hl.1.band J hd));clear hl hn h6 U hm hj Ho H3;by_cases W:0<d.pool
    ·have kk:=zc W;cases hln:y.line with
     | nil=>
      have h8:Hid (Sc.serve g 200 T0=T):=zc (by rw[<-Hf.out];exact zch J hd (.inl hln));have q:=t.out.1.line J H2.out;rw[hln]at q;have H5:=zc (vu wr (L.lb g) q);clear hln q J hd;go_wp2_with fail;refine H8.out.mono ?_;rintro z w4 ⟨rfl,rfl⟩;go_wp2_with fail;refine H5.out.mono ?_;rintro z w4 ⟨rfl,hw⟩;obtain rfl:=hw.symm;go_wp2;exact bodyPost_ret (results_none rfl _ _ _) rfl ⟨⟨_,rfl⟩,by rw[h8.out];exact t.out⟩
     | cons p r=>
      obtain⟨hp,f1,n1,f2,n2⟩:=zdV M.out J I.out hd hln;obtain⟨d',Hq,f,X⟩:=M.out.1.band J I.out h0;rw[hd]at Hq;obtain rfl:=Option.some.inj Hq;have H7:=X.small (by have:=He.out.1.zqg;omega);have Hd:=qw (b:=d) (p:=p) (by omega);obtain⟨j',Hh⟩:∃j',j=j'+1:=⟨j-1,by have:=HJ.out;omega⟩
      have Y:=zdU (k:=j') J hd hln W;rw[<-Hh,Hf.out]at Y;have Hr:y.line.length=r.length+1:=by rw[hln];rfl
      have h5:yG y d=2*(r.length+1)+1:=by unfold yG;rw[Hr,if_pos W]
      have H0:=zc h5;have Hy:=zc Hh;have q:=t.out.1.line J H2.out;rw[hln]at q;have H5:=zc (zcb wr (L.lb g) p r q);have C:=zc f2;have hq:=zc n2;have kl:=zc f1;have D:=zc Y;have Hl:p<64:=by have:=M.out.1.ps.2;omega
      have ha:=zc hp;obtain⟨E,hE⟩:=zh (d.zqv p (zZ d p))
      have R:=zn1 X Hd;rw[<-hE]at C hq D R;have Ht:=zc hE;have Hk:=M.out.1.hi0 J I.out h0;have ko:=M.out.1.hi J I.out;have Hc:=zc Hd;clear hln q Y Hr h5 Hh f1 n1 f2 n2 f X Hd hE hd J;go_wp2_with fail;refine H8.out.mono ?_;rintro z w4 ⟨rfl,rfl⟩;go_wp2_with fail;refine H5.out.mono ?_;rintro z w4 ⟨rfl,Z,k0⟩;have B:=zc (t.out.then (t.out.1.zse a.out H2.out k0 Z));have hf:=zc (zK (g':=y.zpm r) a.out);clear Z k0 Q x6 N;obtain⟨-,-,-,-,-,Q,-⟩:=(B.out.1.gp hf.out).c7;have N:=(B.out.1.gp hf.out).lt;simp only[Gp.zpm,H2.out,if_true]at Q
      have hr:=zc (Qt.zqG p (zZ d p) w4 (L.bb g) d (B.out.1.band hf.out HD.out) H7 Hc.out);cases hmay:d.may (zZ d p)with
      | true=>
       rw[hmay]at hr D;simp only[if_true]at D;clear hmay R;go_wp2_with fail;refine hr.out.mono ?_;rintro z w5 ⟨rfl,O,V⟩;rw[<-Ht.out]at O;have c:=B.out.then (B.out.1.zrF hf.out HD.out V O);rw[yK]at c;have A:=zc c;clear O V Q N c;have H:=zc (zK (g':=(y.zpm r).zpl E) a.out);obtain⟨yr,H6⟩:=C.out.1.gr H.out I.out (p:=p) ha.out;have Hi:=C.out.1.hc p ha.out;have ho:=C.out.1.credit;have F3:=zc (zax C.out ha.out y.hi false);obtain⟨T5,h9⟩:=zh (T.zpd g ((y.zpm r).zpl E))
       have Hg:p<T5.ps:=by rw[h9];exact ha.out
       have kg:Hid (T5.hs p=T.hs p):=zc (by rw[h9];rfl);rw[<-h9]at A H H6 Hi ho hq D F3;obtain⟨r1,cap,hv⟩:=A.out.1.zsH Hg;obtain⟨Hj,rp,kb⟩:=A.out.1.zqF Hg hv;obtain⟨-,g1,-⟩:=(A.out.1.gp H.out).c7;have N:=(A.out.1.gp H.out).lt;have Hb:=A.out.1.zqq.2;obtain⟨G,hH,hU⟩:=A.out.1.zq5 Hg;have HU:=zc hU;have k4:=zc (zb4 y.hi false w5.drew G (L.hb p) (T5.hs p) yr (hH.kept fun k _ _=>rfl) H6 Hk (by rw[Hi];omega));have ki:(p:Int) <(T5.ps:Int):=by omega
       simp only[Gp.zpl,Gp.zpm]at g1;have kn:=zc h9;clear H6 hv hU hH Hi ho h9;go_wp2_with fail;go_region_with
        (
         go_at_call 82;refine k4.out.mono ?_;rintro z w8 ⟨rfl,Hn⟩;have ke:=zc (HU.out _ _ (yW.zo7 (F:=G) (⟨rfl,rfl,rfl,zg _,fun _ _=>rfl⟩:Below w5.heap.size w5 w5.drew) Hn));clear Hn Hj rp kb g1 N Hb)
       all_goals
        go_wp2_with fail;go_roundg (2*r.length+1)
        case measure=>have:=H0.out;have:=Hs.out;omega
        case rel=>
         refine⟨j',T5.zpf p ((T5.hs p).stop y.hi false),(y.zpm r).zpl E,E,A.out.then ke.out,F3.out,Hw.out.trans (hq.out.zpf _ _),H.out,I.out,rfl,?_,?_,?_⟩
         ·unfold yG;show 2*r.length+(if 0<E.pool then 1 else 0)<=2*r.length+1;split <;> omega
         ·have h1:=H0.out;have h2:=HJ.out;have h3:=Hy.out;unfold yG;show 2*r.length+(if 0<E.pool then 1 else 0) <j';split <;> omega
         ·rw[D.out,kg.out]
      | false=>
       have P:=R hmay;rw[hmay]at hr D;simp only[if_neg (show ¬(false=true)by decide)]at D;have h7:=zc P;clear hmay R P;go_wp2_with fail;refine hr.out.mono ?_;rintro z w5 ⟨rfl,O,V⟩;rw[<-Ht.out]at O;have c:=B.out.then (B.out.1.zrF hf.out HD.out V O);rw[yK]at c;have A:=zc c;clear O V Q N c;have H:=zc (zK (g':=(y.zpm r).zpl E) a.out);obtain⟨-,-,-,-,-,-,x6⟩:=(A.out.1.gp H.out).c7;have N:=(A.out.1.gp H.out).lt;simp only[Gp.zpl,Gp.zpm,Option.isSome_some,if_true]at x6;have kd:=zc (zgO w5 (L.lb g) p r (A.out.1.line (g:=(y.zpm r).zpl E) H.out rfl) (by omega));go_wp2_with fail
       refine kd.out.mono ?_;rintro z w6 ⟨⟨v6,rfl⟩,Hv,Hp⟩;have H4:=A.out.then (A.out.1.zse H.out rfl Hp Hv);rw[yK]at H4;have k7:=zc H4;have k5:=zc (zK (g':=((y.zpm r).zpl E).zpm (zJ r p)) a.out);obtain⟨f6,n6⟩:=C.out.zpm (l:=zJ r p) H.out h0 (uK (by exact ha.out));rw[yK]at f6 n6;have kf:=zc f6;have ka:=zc n6;have k2:(zJ r p).length<=r.length+1:=by unfold zJ;split <;> simp
       have hh:=zc k2;clear Hv Hp x6 N H4 f6 n6 k2;go_wp2_with fail;go_roundg (2*(r.length+1))
       case measure=>have:=H0.out;have:=Hs.out;omega
       case rel=>
        refine⟨j',_,_,E,k7.out,kf.out,Hw.out.trans (hq.out.trans ka.out),k5.out,I.out,rfl,?_,?_,D.out.symm⟩
        ·have:=hh.out;have h2:=h7.out;unfold yG;show 2*(zJ r p).length+(if 0<E.pool then 1 else 0)<=2*(r.length+1);rw[h2];simp;omega
        ·have:=hh.out;have h2:=h7.out;have h1:=H0.out;have h3:=HJ.out;have h4:=Hy.out;unfold yG;show 2*(zJ r p).length+(if 0<E.pool then 1 else 0) <j';rw[h2];simp;omega
    ·have h8:Hid (Sc.serve g 200 T0=T):=zc (by rw[<-Hf.out];exact zch J hd (.inr W));have kj:d.pool<=0:=by omega
     clear W J hd;go_wp2_with fail;refine H8.out.mono ?_;rintro z w4 ⟨rfl,rfl⟩;go_wp2;go_end0;exact⟨⟨_,rfl⟩,by rw[h8.out];exact t.out⟩
end
end Go.Proofs.YtmgekibncmnmiaaGreatDoor
