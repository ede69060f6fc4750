/- Parts of the proof of the law TopKeeps: contracts of the functions that it reaches, and plain laws of what they compute. Conditions: those in each statement. -/
import Derived.Deep.RegionLaw
import Derived.Test.YtmgekibncmnmiaaGreatDoorM37
set_option linter.unusedVariables false
set_option maxRecDepth 100000
set_option maxHeartbeats 4000000
open Go.Proofs.Tryz
namespace Go.Proofs.YtmgekibncmnmiaaGreatDoor
open Go Go.RowKit Go.ChangeShapes Go.WideShapes
section
attribute [local go_sem ↓] Go.wp_at_zero Go.wp_at_succ
abbrev plv(gb:Nat->Nat)(x:Option Nat):Value:=.pointer (x.map fun n=>⟨gb n,0,none⟩)
theorem zhH(S:Sc)(k:Nat):S.zpI (k+1)=if k=0 then S.zpI k else match(S.zpI k).pl k with
 | none=>S.zpI k
 | some g=>(S.zpI k).zpo g:=rfl
theorem znt(w:World)(s:Nat)(fn:Nat->Value)(h:∀i,i<32->w.cell? ⟨s,9+i,none⟩=some (fn i)):(Go.Instr.loadAt 60 (.pointer (some ⟨s,9,none⟩))).run prog w=.ok (.agg ((List.range 32).map fn).toArray) w:=by
 have D:=run_loadCells (P:=prog) w ⟨s,9,none⟩ 32 fn (fun j A=>by rw[show(⟨s,9,none⟩:Addr).add j=⟨s,9+j,none⟩by unfold Addr.add;split <;> simp_all];exact h j A);have G:(isAgg 60).run prog w=.ok true w:=by simp[isAgg,go_sem]
 have B:(sizeOf 60).run prog w=.ok 32 w:=by
  simp[sizeOf,go_sem]
  kernel_rfl
 have E:(Go.Instr.sureAddr (.pointer (some ⟨s,9,none⟩))).run prog w=.ok ⟨s,9,none⟩ w:=by simp[Go.Instr.sureAddr,go_sem]
 unfold Go.Instr.loadAt;rw[Sem.run_bind,E];unfold loadVar;simp only[Result.andThen];rw[Sem.run_bind,G];simp only[Result.andThen,if_true];rw[Sem.run_bind,B];simp only[Result.andThen];rw[Sem.run_bind,D];simp[Result.andThen,go_sem]
theorem zcE(S:Sc):S.zp6 ((List.range 31).map fun i=>S.pl (i+1))=S.limited S.zrK:=by unfold Sc.zp6 Sc.zrK;rw[List.filterMap_map];rfl
theorem zhI(S:Sc)(g:Nat)(r:List Nat):S.shares (g::r)=(S.share g).shares r:=rfl
theorem zhJ(S:Sc)(p:Nat):S.choice (p+1)=Sc.zpN p 40 (S.choice p):=by rw[Sc.choice]
theorem zfV{p k:Nat}{S:Sc}(h:(S.choose p).2=true):Sc.zpN p (k+1) S=(S.choose p).1:=by rw[Sc.zpN,if_pos h]
theorem zen{p k:Nat}{S:Sc}(h:(S.choose p).2=false):Sc.zpN p (k+1) S=Sc.zpN p k (S.choose p).1:=by rw[Sc.zpN,if_neg (by rw[h];decide)]
theorem zfW(A:Array Value)(k:Nat)(v:Value)(h:A[k]?=some v)(hk:k<32)(W:World):(Go.Instr.index 60 (.agg A) (.int .i64 (k:Nat))).run prog W=.ok v W:=by
 have B:(0:Int)<=k:=by omega
 simp[Go.Instr.index,go_sem,h,B];intro h3;omega
theorem zfX(b:Nat)(w:World)(F:Nat->Prop)(s:Nat)(S:Sc)(L:Lay)(h:zq w F s S L)(ok:S.Fit b):
 Calls prog 19 #[ptr s] w fun z w'=>(∃v,z=.returned v)/\zn w F s S.settle L w':=by
 have HH:=zc h;have kb:=zc ok;obtain⟨s0,a⟩:=h.zqq;obtain⟨fn,hh⟩:∃fn:Nat->Value,fn=fun i=>plv L.gb (S.pl i):=⟨_,rfl⟩
 have ki:=zc hh;have HP:Hid (∀i,i<32->w.cell? ⟨s,9+i,none⟩=some (fn i)):=zc (fun i hi=>by rw[hh];exact h.pl_ hi);obtain⟨T9,hT⟩:∃T,T=S.settle:=⟨_,rfl⟩
 have HT:=zc hT;rw[<-hT];have h4:=znt w s fn HP.out;obtain⟨AR,h8⟩:=zh (((List.range 32).map fn).toArray)
 have k6:Hid (∀k,k<32->AR[k]?=some (fn k)):=zc (by rw[h8];exact zok fn);rw[<-h8]at h4;have Hc:=zc h4;clear h4 h8;clear h ok hT hh s0;go_enter func19,ntmps19;go_wp2_with (refine zcJ w rfl 60 (.tmp 9) rfl (.pointer (some ⟨s,9,none⟩)) _ rfl Hc.out ?_);clear a Hc;go_loopw [2,3,11] (fun _ _ i wr=>∃(k:Nat),k<=32/\i=.int .i64 k/\zn w F s (S.zpI k) L wr) (fun _ _ i _=>32-(intOf i).toNat)
 case atStart=>exact⟨0,by omega,rfl,zn.refl HH.out⟩
 case round=>
  obtain⟨k,hk,rfl,V⟩:=hrel;have HL:=zc V;clear V;obtain⟨fT,nT⟩:=zbj kb.out k;have I:=zc fT;have kp:=zc nT;by_cases N:k<32
  ·have Hz:(k:Int) <32:=by omega
   have B:=k6.out k N;have l:(S.zpI k).pl k=S.pl k:=by obtain⟨hs,e⟩:=nT;rw[e]
   have D:=zhH S k;rw[l]at D;have h2:fn k=plv L.gb (S.pl k):=by rw[ki.out]
   rw[h2]at B;by_cases c:k=0
   ·have W:Hid (S.zpI (k+1)=S.zpI k):=zc (by rw[D,if_pos c]);have km:¬(0:Int) <k:=by omega
    have ko:(k:Int)<=0:=by omega
    obtain⟨pv,Hn⟩:=zh (plv L.gb (S.pl k))
    rw[<-Hn]at B;have H6:=zfW AR k pv B N;clear D l h2 fT nT c Hn B;go_wp2_with fail;go_roundw
    case rel=>exact⟨k+1,by omega,by go_num,by rw[W.out];exact HL.out⟩
    case measure=>simp[intOf];omega
   ·have Hr:(0:Int) <k:=by omega
    rw[if_neg c]at D;cases hg:S.pl k with
    | none=>
     rw[hg]at D B;have W:Hid (S.zpI (k+1)=S.zpI k):=zc D;simp only[plv,Option.map_none]at B;have H6:=zfW AR k _ B N;clear D l h2 fT nT hg c B;go_wp2_with fail;go_roundw
     case rel=>exact⟨k+1,by omega,by go_num,by rw[W.out];exact HL.out⟩
     case measure=>simp[intOf];omega
    | some g=>
     rw[hg]at D B;have W:Hid (S.zpI (k+1)=(S.zpI k).zpo g):=zc D;simp only[plv,Option.map_some]at B;have H6:=zfW AR k _ B N;obtain⟨x,hx,X,k9⟩:=I.out.1.pl k g (l.trans hg);have H7:g≠0:=by rintro rfl;obtain⟨x0,H8,kl,_⟩:=I.out.1.g0;rw[hx]at H8;obtain rfl:=Option.some.inj H8;omega
     have HW:=zc (zhp g x b wr _ s (S.zpI k) L HL.out.1 I.out hx X H7);clear D l h2 fT nT hg c hx X k9 H7 B;go_wp2_with fail;refine HW.out.mono ?_;rintro z w2 ⟨⟨v,rfl⟩,Hd⟩;have kc:=zc (HL.out.then Hd);clear Hd;go_wp2_with fail;go_roundw
     case rel=>exact⟨k+1,by omega,by go_num,by rw[W.out];exact kc.out⟩
     case measure=>simp[intOf];omega
  ·have Q:k=32:=by omega
   subst Q;obtain⟨H,hz⟩:=zh (S.zpI 32)
   have Ht:=zc hz;rw[<-hz]at HL I;obtain⟨F1,ha⟩:∃F1:Nat->Prop,F1=fun k=>Ext F w wr k/\k<wr.heap.size:=⟨_,rfl⟩
   have Z:Hid (∀k,F1 k->Ext F w wr k/\k<wr.heap.size):=zc (by rw[ha];exact fun k hk=>hk);have O:Hid (zq wr F1 s H L):=zc (by rw[ha];exact HL.out.1.zpy);have Ha:zfH wr (some ⟨s,10,none⟩) (yq (((List.range 31).map fun i=>H.pl (i+1)).map (Option.map L.gb))):=fun j u hu=>by
    have hj:j<31:=by have:=(ze hu).1;simpa[yq]using this
    refine⟨s,10,rfl,?_,O.out.zqq.2⟩;have h1:=O.out.pl_ (i:=j+1) (by omega);rw[show 10+j=9+(j+1)by omega,h1];rw[<-hu];simp[yq,hj,Function.comp_def]
   have Y:=zc (ue ((List.range 31).map fun i=>H.pl (i+1)) (some ⟨s,10,none⟩) 31 31 wr F1 s H L O.out (by simp) (by omega) Ha (fun q hq=>by obtain⟨i,_,e⟩:=List.mem_map.1 hq;obtain⟨y,hy,Hu,_⟩:=I.out.1.pl _ _ e;exact⟨y,hy,Hu⟩));rw[zcE]at Y;obtain⟨M,K⟩:=zh (H.limited H.zrK)
   have H2:=zc K;have H3:Hid (H.zrj M):=zc (by rw[K];exact zhh I.out.1);have k5:M.length<=31:=by have h1:=zcU H ((List.range 31).map fun i=>H.pl (i+1));rw[zcE,<-K]at h1;simpa using h1
   rw[<-K]at Y;obtain⟨nl,H0⟩:=zh M.length
   have He:=zc H0;rw[<-H0]at Y k5;have a:=O.out.zqq.2;clear hz ha Ha K H0 fT nT;go_wp2_with fail;refine Y.out.mono ?_;rintro z w4 ⟨a4,c4,rfl,J,Hq⟩;have hf:=zc Hq;have k8:=zc (O.out.behind hf.out);have Hv:=zc (ym.zqB J);have k4:Hid (∀r,a4=some ⟨r,0,none⟩->¬F1 r):=zc (fun r hr hF=>by have h1:=(J.lt r (by rw[hr];rfl)).1;have:=(Z.out r hF).2;omega);clear J Hq a;go_wp2_with fail;obtain⟨wq,Hl⟩:=zh wr
   rw[<-Hl]at HL O Z hf;clear Hl Y;go_loopw [5,31] (fun _ i wr=>∃(k:Nat) (T:Sc),k<=nl/\i=.int .i64 k/\zn w4 F1 s T L wr/\T.Fit b/\H.zpJ T/\T.shares (M.drop k)=H.shares M) (fun _ i _=>nl-(intOf i).toNat)
   case atStart=>exact⟨0,H,by omega,rfl,zn.refl k8.out,I.out,.refl H,rfl⟩
   case round=>
    obtain⟨k,T,hk,rfl,V,A,o,Hp⟩:=hrel;have h0:=zc V;have E:=zc A;have Hi:=zc o;have Hf:=zc Hp;clear V A o Hp;by_cases N:k<nl
    ·have Hz:(k:Int) <(nl:Int):=by omega
     have ho:k<M.length:=by rw[<-He.out];exact N
     obtain⟨q,hq⟩:∃q,M[k]?=some q:=⟨_,List.getElem?_eq_getElem ho⟩
     have Ho:M.drop k=q::M.drop (k+1):=by
      rw[List.drop_eq_getElem_cons ho]
      congr 1
      rw[List.getElem?_eq_getElem ho]at hq;exact Option.some.inj hq
     have k0:Hid ((T.share q).shares (M.drop (k+1))=H.shares M):=zc (by rw[<-Hf.out,Ho,zhI]);obtain⟨x,d,hx,X,hd⟩:=(H3.out.zqD Hi.out I.out.1 E.out.1) q (List.mem_of_getElem? hq);obtain⟨f6,n6⟩:=zeL E.out hx X;have kf:=zc f6;have k1:=zc n6;obtain⟨r4,kg,k2,ke⟩:=(Hv.out.zpW h0.out.2 k4.out) k (ptr (L.gb q)) (zcT hq);subst kg;have kh:=zc (zhG q x d b wr _ s T L h0.out.1 E.out hx X hd);clear hq Ho hx X hd f6 n6;go_wp2_with fail;refine kh.out.mono ?_;rintro z w6 ⟨⟨v,rfl⟩,Hh⟩;have P:=zc (h0.out.then Hh);clear Hh k2 ke;go_wp2_with fail;go_roundw
     case rel=>exact⟨k+1,_,by omega,by go_num,P.out,kf.out,Hi.out.trans k1.out,k0.out⟩
     case measure=>simp[intOf];omega
    ·have Q:k=nl:=by omega
     have Hj:T=H.shares M:=by rw[<-Hf.out,Q,He.out,List.drop_length];rfl
     have k7:=zc Hj;have P:Hid (zn w F s T L wr):=zc (HL.out.then (zn.zo7 hf.out (h0.out.grow (G:=Ext F w wq) fun q hq=>(Z.out q hq).1)));obtain⟨s0,a⟩:=P.out.1.zqq;have H4:Hid (T9=T.choice T.ps):=zc (by rw[HT.out];unfold Sc.settle;simp only;rw[<-Ht.out,<-H2.out,<-k7.out]);obtain⟨n,hn⟩:=zh T.ps
     have h7:=zc hn;have kn:n<=64:=by rw[hn];exact E.out.1.ps.2
     rw[<-hn]at s0;clear Hj Q hn;go_wp2_with fail;clear s0 a;go_loopg [6,44] n (fun m _ i wr=>∃(p:Nat),p<=n/\n-p=m/\i=.int .i64 p/\zn w F s (T.choice p) L wr)
     case atStart=>exact⟨0,by omega,by omega,rfl,P.out⟩
     case round=>
      obtain⟨p,hp,hm,rfl,V⟩:=hrel;have ht:=zc V;have HM:=zc hm;clear V hm;obtain⟨fP,nP⟩:=zbl E.out p (by rw[<-h7.out];exact hp);by_cases kj:p<n
      ·have ks:(p:Int) <(n:Int):=by omega
       have H9:Hid (Sc.zpN p 40 (T.choice p)=T.choice (p+1)):=zc (zhJ T p).symm;obtain⟨T7,h9⟩:=zh (T.choice p)
       have Hs:Hid (p<T7.ps):=zc (by rw[h9,nP.ps,<-h7.out];exact kj);rw[<-h9]at ht H9 fP;have Hw:=zc fP;clear h9 fP nP;go_wp2_with fail;go_loopg [] 32 (fun m wr=>∃(j:Nat) (U:Sc),zn w F s U L wr/\U.Fit b/\p<U.ps/\(U.hs p).going<=m/\(U.hs p).going<j/\Sc.zpN p j U=T.choice (p+1))
       case atStart=>exact⟨40,T7,ht.out,Hw.out,Hs.out,zhe _,Nat.lt_of_le_of_lt (zhe _) (by omega),H9.out⟩
       case round=>
        obtain⟨j,U,V,A,R,h6,hv,f⟩:=hrel;have Hg:=zc V;have kq:=zc A;have Hy:=zc R;have kk:=zc h6;have kr:=zc f;obtain⟨j',t⟩:∃j',j=j'+1:=⟨j-1,by omega⟩
        have HJ:=zc t;have kd:=zc hv;have h3:=zc (zfN p b wr _ s U L V.1 A R);obtain⟨f9,n9⟩:=zdT A R;have ka:=zc f9;have k3:=zc n9;cases hc:(U.choose p).2 with
        | true=>
         rw[hc]at h3;have W:Hid (T.choice (p+1)=(U.choose p).1):=zc (by rw[<-f,t,zfV hc]);clear V A R h6 hv f t f9 n9 hc;go_wp2_with fail;refine h3.out.mono ?_;rintro z w9 ⟨rfl,C⟩;have h5:=zc (Hg.out.then C);clear C;go_wp2_with fail;go_roundg (n-(p+1))
         case measure=>have:=HM.out;omega
         case rel=>exact⟨p+1,by omega,rfl,by go_num,by rw[W.out];exact h5.out⟩
        | false=>
         rw[hc]at h3;have W:Hid (Sc.zpN p j' (U.choose p).1=T.choice (p+1)):=zc (by rw[<-f,t,zen hc]);have Hb:=zc (zhg A R hc);clear V A R h6 hv f t f9 n9 hc;go_wp2_with fail;refine h3.out.mono ?_;rintro z w9 ⟨rfl,C⟩;have h5:=zc (Hg.out.then C);clear C;go_wp2_with fail;go_roundg (((U.choose p).1.hs p).going)
         case measure=>have:=Hb.out;have:=kk.out;omega
         case rel=>exact⟨j',_,h5.out,ka.out,by rw[k3.out.ps];exact Hy.out,zg _,by have:=Hb.out;have:=kd.out;have:=HJ.out;omega,W.out⟩
      ·have Hk:p=n:=by omega
       have H5:Hid (zn w F s T9 L wr):=zc (by rw[H4.out,<-h7.out,<-Hk];exact ht.out);clear fP nP Hk;go_wp2;go_end0;exact⟨⟨_,rfl⟩,H5.out⟩
theorem zq.vc_{w:World}{F:Nat->Prop}{s:Nat}{S:Sc}{L:Lay}(h:zq w F s S L){p:Nat}(hp:p<S.ps):∃r cap,L.vc=.slice (some ⟨r,0,none⟩) S.ps cap:=by obtain⟨tg,h⟩:=h;obtain⟨r,cap,A,h2,h3⟩:=vv h.cs.row hp;exact⟨r,cap,A⟩
theorem zq.ztN{w:World}{F:Nat->Prop}{s:Nat}{S:Sc}{L:Lay}(h:zq w F s S L){p r n cap:Nat}(hp:p<S.ps)(B:L.vc=.slice (some ⟨r,0,none⟩) n cap):w.cell? ⟨s,106,none⟩=some (.slice (some ⟨r,0,none⟩) n cap)/\w.cell? ⟨r,p,none⟩=some (ptr (L.cb p))/\r<w.heap.size/\yj w (L.cb p) (S.cs p):=by obtain⟨tg,h⟩:=h;obtain⟨r',h0,A,D,E⟩:=vv h.cs.row hp;rw[B]at A;simp only[Value.slice.injEq,Option.some.injEq,Addr.mk.injEq,and_true]at A;obtain⟨e,_⟩:=A;subst e;exact⟨by rw[<-B];exact h.sx.vc,D,E,(h.cs.ck p hp).2⟩
theorem zq.ztO{w:World}{F:Nat->Prop}{s:Nat}{S:Sc}{L:Lay}(h:zq w F s S L){k r n cap:Nat}{g:Gp}(G:S.gs[k]?=some g)(E:g.there=true)(B:L.vg=.slice (some ⟨r,0,none⟩) n cap):w.cell? ⟨s,8,none⟩=some (.slice (some ⟨r,0,none⟩) n cap)/\w.cell? ⟨r,k,none⟩=some (ptr (L.gb k))/\r<w.heap.size:=by obtain⟨-,H,I⟩:=h.zrB;obtain⟨r',h0,A,D,J⟩:=I k g G E;rw[B]at A;simp only[Value.slice.injEq,Option.some.injEq,Addr.mk.injEq,and_true]at A;obtain⟨e,_⟩:=A;subst e;exact⟨by rw[<-B];exact H,D,J⟩
theorem zlt(e:Ev)(b:Nat)(w:World)(F:Nat->Prop)(s:Nat)(S:Sc)(L:Lay)(h:zq w F s S L)(ok:S.Fit b)(H2:b<900)(hp:S.zqM e.a)(kc:¬(e.n<0∨S.tick<e.n))(p:Nat)(kq:e.a=p)(n:Nat)(t:Tk)(g:Gp)(hr:S.running p=n)(hn:S.ts[n]?=some t)(ml:t.on=true)(hg:S.gs[t.zpc]?=some g)(Hp:g.there=true)(mn:(S.hs p).running≠ -1):
 Calls prog 52 #[ptr s,.agg (zpu e)] w (zq1 w F s L (S.zpz e)):=by
 have Kl:e.a.toNat=p:=by omega
 have ho:=uR hp kc (by rw[Kl];exact hr) hn;rw[Kl]at ho;obtain⟨O,hO⟩:=zh (S.zpz e)
 rw[<-hO]at ho ⊢;have Hr:=zc ho;unfold zq1;obtain⟨w1,kf⟩:=zh (w.alloc (.cells (zpu e) 35))
 have Kw:Below w.heap.size w w1:=by rw[kf];exact zk w _
 have hE:zp1 w1 w.heap.size e:=by rw[kf];exact zp1.new w e
 obtain⟨F0,Ho⟩:∃F0:Nat->Prop,F0=fun k=>F k/\k<w.heap.size:=⟨_,rfl⟩
 have K6:Hid (∀k,F0 k->F k):=zc (by rw[Ho];exact fun k hk=>hk.1);have kg:Hid (zq w1 F0 s S L):=zc (by rw[Ho];exact h.zpy.behind Kw);have Kj:=zc Kw;have k1:=zc (qm e.a w1 F0 s S L kg.out);obtain⟨D,hD⟩:=zh w.heap.size
 have Ke:Hid (¬F0 D):=zc (by rw[Ho,hD];intro hk;omega);have nx:Hid (∀k,F0 k->k<w.heap.size):=zc (by rw[Ho];exact fun k hk=>hk.2);rw[<-hD]at hE;have HE:=zc hE;obtain⟨-,J,-,U,-,-⟩:=hE.c6;have A:=hE.lt;have s1:=kg.out.zs2;have B:=kg.out.zqq.2;clear h Kw hE Ho;rw[decide_eq_true hp]at k1;have km:p<S.ps:=by have:=hp.2;omega
 have p5:=ok.1.tick;have hf:0<=e.n:=by omega
 have H5:e.n<=1000000000:=by omega
 have p1:e.n<=S.tick:=by omega
 have p0:IntKind.u64.wrap e.n=e.n:=by simp only[IntKind.wrap,IntKind.signed,IntKind.bits];simp;omega
 have Np:p<64:=by have:=ok.1.ps.2;omega
 have p2:(p:Int) <(S.ps:Int):=by omega
 have Nq:=ok.1.zqg;have ht:=zc kq;rw[kq]at J;have k6:=ok.1.ck p km;have mm:=k6.1.small (by omega);have Hg:=(ze hn).1;have Nz:=ok.1.tl;have my:(if S.zqM (p:Int)then S.running (p:Int).toNat else -1)=(n:Int):=by rw[if_pos (by rw[<-kq];exact hp),Int.toNat_natCast,hr]
 have N2:=zc my;have Kb:=zc km;have Ha:=zc ok;have HN:=zc hn;have HG:=zc hg;have ki:=zc Hp;have N4:=zc mn;have nm:=(ok.1.on hn ml).wt;obtain⟨h7,Ku,M8⟩:=ok.1.zrZ hg Hp;obtain⟨Mq,Hd,Mh⟩:=zd1 ok H2 km (n:=n) hg Hp hf H5;have N6:=zc Mq;have n8:=zc Hd;have nf:=zc Mh;have nz:=zc Hg;have Ny:(n:Int) <(S.ts.length:Int):=by omega
 have mj:n<1000:=by omega
 have h4:=zc (ziX ok H2 km (n:=n) hg Hp hf H5);have ks:Hid (S.zqa p n t.zpc e.n=Sc.zpE p e.n (S.limited (S.zqd t.zpc)) (({ S with book:=S.book.credit (0::S.zqd t.zpc) n e.n }:Sc).zpf p ((S.hs p).zpg e.n))):=zc rfl;obtain⟨S3,M3⟩:=zh (S.zqa p n t.zpc e.n)
 rw[<-M3]at N6 n8 nf ks Hr;obtain⟨C,kt⟩:=zh (S.zqd t.zpc)
 have kp:=zc kt;rw[<-kt]at h4 ks;obtain⟨S1,kn⟩:∃S1,S1=({ S with book:=S.book.credit (0::C) n e.n }:Sc):=⟨_,rfl⟩
 have kr:Hid (S1.ps=S.ps/\S1.gs=S.gs/\S1.ts=S.ts/\S1.hs=S.hs/\S1=({ S with book:=S.book.credit (0::C) n e.n }:Sc)):=zc (by rw[kn];exact⟨rfl,rfl,rfl,rfl,rfl⟩);obtain⟨S2,Ki⟩:=zh (S1.zpf p ((S.hs p).zpg e.n))
 have Hj:Hid (S2.ps=S.ps/\S2.gs=S.gs/\S2.ts=S.ts/\S2=S1.zpf p ((S.hs p).zpg e.n)):=zc (by rw[Ki,kn];exact⟨rfl,rfl,rfl,rfl⟩);obtain⟨LM,Kv⟩:=zh (S.limited C)
 have nk:=zc Kv;rw[<-Kv,<-kn,<-Ki]at h4 ks;obtain⟨m,hm⟩:=zh C.length
 have HM:=zc hm;rw[<-kt]at h7 Ku M8;rw[<-hm]at M8;have My:=zc h7;have Nj:=zc Ku;have p3:=zc mm;clear hp ok ho hr kc kq Kl my hO hn hg Hp mn ml k6 mm Hg Mq Hd Mh kt hm h7 Ku M3 kn Ki Kv;go_enter func52,ntmps52;go_wp2_with fail;rw[show w.alloc (.cells (zpu e) 35)=w1 from kf.symm,<-hD];clear kf hD;refine k1.out.mono ?_;rintro z w2 ⟨rfl,hw⟩;obtain rfl:=hw.symm;go_wp2_with fail;go_quiet (fail);obtain⟨w2,Kr⟩:=zh (w1.drewN nq)
 have kx:Hid (Below w1.heap.size w1 w2):=zc (by rw[Kr];exact zp (Below.refl _ w1) nq);rw[<-Kr];clear Kr J U A s1 B;have Mf:=zc (kg.out.behind kx.out);have Ko:=zc (HE.out.behind kx.out);obtain⟨-,J,-,U,-,-⟩:=Ko.out.c6;rw[ht.out]at J;have A:=Ko.out.lt;have ka:=zc (yp p w2 F0 s S L Mf.out);rw[N2.out]at ka;go_wp2_with fail;refine ka.out.mono ?_;rintro z w3 ⟨rfl,kk⟩;have Ks:=zc (zj (zj Kj.out kx.out Kj.out.size) kk (by have:=Kj.out.size;have:=kx.out.size;omega));have Hc:=zc (Mf.out.behind kk);have K7:=zc (Ko.out.behind kk);clear kk J U A;obtain⟨-,J,-,U,-,-⟩:=K7.out.c6
 rw[ht.out]at J;have A:=K7.out.lt;obtain⟨-,s7,h6⟩:=Hc.out.zqi;obtain⟨rt,ct,Ms,Nk,me⟩:=h6 n nz.out;rw[Ms]at s7;have B:=Hc.out.zqq.2;obtain⟨-,-,-,-,-,t5,-⟩:=(Hc.out.tk HN.out).zq7;have mh:=(Hc.out.tk HN.out).lt;have HW:=zc (zeG t.zpc g b w3 F0 s S L Hc.out Ha.out.1 HG.out ki.out);rw[<-kp.out,<-HM.out]at HW;clear h6 Ms;go_wp2_with fail;refine HW.out.mono ?_;rintro z w4 ⟨a4,c4,rfl,H0,Hs⟩;have mu:=zc (zj Ks.out Hs Ks.out.size);have n2:=zc (Hc.out.behind Hs);have nt:=zc H0;have nh:=zc (K7.out.behind Hs);have Nv:=zc Hs.size;clear H0 Hs s7 Nk me B t5 mh J U A;go_wp2_with fail
 obtain⟨w5,kj⟩:=zh (w4.alloc (.cells #[.int .i64 0] 3))
 have Hy:Hid (Below w4.heap.size w4 w5):=zc (by rw[kj];exact zk w4 _);have nu:Hid (w5.ownsRow w4.heap.size 3 1 (.slice (some ⟨w4.heap.size,0,none⟩) 1 1) 1 [.int .i64 0]):=zc (by rw[kj];exact zn8 w4 _ _ _ (zg _));have n5:=zc (yY nt.out Hy.out);rw[<-kj];clear kj;obtain⟨i0,hi,N8,N0,Na⟩:=info_parts zdD;go_loopw [9,11,71] (fun v _ i wr=>∃(k:Nat) (ar:Option Addr) (cr:Nat),k<=m/\i=.int .i64 k/\v=.slice ar (k+1:Nat) cr/\wr.ownsRow w4.heap.size 3 1 (.slice ar (k+1) cr) (k+1) (jv ((0::C.take k).map Int.ofNat))/\Below w4.heap.size w4 wr/\wr.ownsRow w3.heap.size 59 1 (.slice a4 m c4) m (zrY L.gb C)) (fun _ _ i _=>m-(intOf i).toNat)
 case atStart=>exact⟨0,some ⟨w4.heap.size,0,none⟩,1,by omega,rfl,rfl,nu.out,Hy.out,n5.out⟩
 case round=>
  obtain⟨k,ar,cr,hk,rfl,rfl,Hz,hb,h6⟩:=hrel;have HO:=zc Hz;have HB:=zc hb;have HR:=zc h6;have HS:=zc (n2.out.behind hb);clear Hz hb h6;by_cases Kd:k<m
  ·obtain⟨q,Y⟩:∃q,C[k]?=some q:=⟨_,List.getElem?_eq_getElem (by rw[<-HM.out];exact Kd)⟩
   obtain⟨r,np,hc,P⟩:=(ym.zqB HR.out) k (ptr (L.gb q)) (zcT Y);subst np;obtain⟨y,hy,M1,_⟩:=Ha.out.1.zqQ HG.out ki.out q (by rw[<-kp.out];exact List.mem_of_getElem? Y);obtain⟨g0,-⟩:=(HS.out.gp hy).c7;have K3:=(HS.out.gp hy).lt;have mv:=zc (zle C k q Y);obtain⟨ys,Mp⟩:=zh (jv ((0::C.take k).map Int.ofNat))
   rw[<-Mp]at HO mv;have N7:(k:Int) <(m:Int):=by omega
   have n6:=HB.out.size;clear Mp Y hy;go_wp2_with (at_builtin;go_loud (refine wpList_append_own _ rfl _ _ 43 rfl w4.heap.size 3 i0 (.int .i64 0) 1 8 underlying43 hi N8 N0 Na rfl (by decide) _ (k+1) ys rfl (HO.out.alloc _) ⟨wr.heap.size,0,none⟩ 1 1 [.int .i64 (q:Nat)] rfl rfl ?c1 ?c2 ?c3 ?c4 ?c5 ?_))
   case c1=>exact World.news_of_block (cs:=#[.int .i64 (q:Nat)]) (t:=3) (fr:=(0,0)) (heap_alloc_new wr _)
   case c2=>intro u hu;simp at hu;subst hu;rfl
   case c3=>unfold maxLen;omega
   case c4=>omega
   case c5=>simp;omega
   intro v' w6 h9 K9 _;have M9:Below w4.heap.size w4 w6:=(HB.out.alloc n6 _).grown K9 (by simp;omega) fun j hj=>(HO.out.lt j hj).1;have Mx:=zc (zha K9 (HO.out.alloc _) (HR.out.alloc _) (by decide));have n0:=zc M9;have Nd:=zc h9;rcases h9.2 with⟨_,h0⟩ | ⟨g,cap,cur,hv,_⟩
   ·omega
   subst hv;clear M9 h9 K9 hc P g0 K3;go_wp2_with fail;go_roundw
   case rel=>exact⟨k+1,_,_,by omega,by go_num,rfl,by rw[mv.out];exact Nd.out,n0.out,Mx.out⟩
   case measure=>simp[intOf];omega
  ·have K1:k=m:=by omega
   have Mr:=zc K1;clear K1;have mw:C.take k=C:=by rw[Mr.out,HM.out,List.take_length]
   rw[mw]at HO;have c107:=HS.out.zrC.1;have nn:=(HS.out.kept (w':=wr.drew) fun _ _ _=>rfl).zrC;obtain⟨-,G,hK,M5⟩:=nn;have Nc:=zc M5;have Hi:=Ha.out.1.bk;have X:(0::C).length=k+1:=by rw[List.length_cons,<-HM.out,Mr.out]
   have Mv:=zc (zg4 (0::C) ar cr w4.heap.size n e.n wr.drew G L.bk S.book hK (by rw[X];exact HO.out) (by rw[X];omega) (by rw[X];omega)
    (zeS (List.nodup_cons.2 ⟨fun hh=>Nj.out 0 hh rfl,My.out⟩)) (fun q Y=>by
     rcases List.mem_cons.1 Y with rfl | Y
     ·omega
     ·obtain⟨y,hy,_⟩:=Ha.out.1.zqQ HG.out ki.out q (by rw[<-kp.out];exact Y);have h1:=(ze hy).1;have h2:=Ha.out.1.gl.2;omega) (by omega) hf Hi.total.1 (by have:=Hi.total.2;omega) (Hi.bt n) Hi.bg (by have:=Hi.many;omega))
   rw[X]at Mv;have H3:=zc (nh.out.behind HB.out);obtain⟨-,-,-,U,-,-⟩:=H3.out.c6;have A:=H3.out.lt;have B:=HS.out.zqq.2;have Mb:=zc (ym.zqB HR.out);have kv:=zc (zj mu.out HB.out mu.out.size);have mf:Hid (∀r,a4=some ⟨r,0,none⟩->¬F0 r):=zc (fun r hr hF=>by have h1:=(HR.out.lt r (by rw[hr];rfl)).1;have h2:=nx.out r hF;have h3:=Ks.out.size;omega);clear hK M5 Hi X mw;go_wp2_with fail;go_region_held3 (fun w'=>w'.cell? ⟨s,107,none⟩=some (ptr L.bk)/\w'.cell? ⟨D,3,none⟩=some (.int .i64 e.n)) (go_keep)
    (first
     | (
      go_at_call 98;refine Mv.out.mono ?_;rintro z w6 ⟨rfl,Mm,Mk⟩;have K:Hid (zn wr F0 s S1 L w6):=zc (by rw[kr.out.2.2.2.2];exact zn.zo7 (⟨rfl,rfl,rfl,zg _,fun _ _=>rfl⟩:Below wr.heap.size wr wr.drew) (Nc.out _ _ Mm Mk));clear Mm Mk c107 U A B;have c107:=K.out.1.zrC.1;have Hl:Hid (zp1 w6 D e):=zc ((K.out.2.block D H3.out.lt Ke.out).trans H3.out);obtain⟨-,-,-,U,-,-⟩:=Hl.out.c6;have A:=Hl.out.lt;have B:=K.out.1.zqq.2))
   all_goals
    clear c107 U A B;have K2:Hid (p<S1.ps):=zc (by rw[kr.out.1];exact Kb.out);have No:(p:Int) <(S1.ps:Int):=by have:=K2.out;omega
    obtain⟨-,J,-,U,-,-⟩:=Hl.out.c6;rw[ht.out]at J;have A:=Hl.out.lt;obtain⟨r1,cap,hv⟩:=K.out.1.zsH K2.out;have Ni:=zc hv;obtain⟨V,rp,P⟩:=K.out.1.zqF K2.out hv;have B:=K.out.1.zqq.2;obtain⟨G2,hH,hU⟩:=K.out.1.zq5 K2.out;have nc:=zc hU;have n4:=zc (zgL e.n w6.drew G2 (L.hb p) (S1.hs p) (hH.kept fun _ _ _=>rfl) (by rw[kr.out.2.2.2.1];exact N4.out) hf H5);clear hv hH hU;go_wp2_with fail;go_region_held3 (fun w'=>w'.cell? ⟨s,105,none⟩=some (.slice (some ⟨r1,0,none⟩) S1.ps cap)/\w'.cell? ⟨r1,p,none⟩=some (ptr (L.hb p))/\w'.cell? ⟨D,1,none⟩=some (.int .i64 p)/\w'.cell? ⟨D,3,none⟩=some (.int .i64 e.n)) (go_keep)
     (first
      | (
       go_at_call 99;refine n4.out.mono ?_;rintro z w7 ⟨rfl,Mj⟩;have Q:Hid (zn wr F0 s S2 L w7):=zc (by have:=K.out.then (nc.out _ _ (yW.zo7 (F:=G2) (⟨rfl,rfl,rfl,zg _,fun _ _=>rfl⟩:Below w6.heap.size w6 w6.drew) Mj));rw[kr.out.2.2.2.1]at this;rw[Hj.out.2.2.2];exact this);clear Mj J U A V rp P B;have K8:Hid (zp1 w7 D e):=zc ((Q.out.2.block D H3.out.lt Ke.out).trans H3.out);obtain⟨-,J,-,U,-,-⟩:=K8.out.c6;rw[ht.out]at J;have A:=K8.out.lt;have B:=Q.out.1.zqq.2;obtain⟨V,rp,P⟩:=Q.out.1.zqF (p:=p) (n:=S1.ps) (by rw[Hj.out.1];exact Kb.out) Ni.out))
    all_goals
     clear J U A V rp P B;have mq:zfH w7 a4 (yq ((C.map some).map (Option.map L.gb))):=by rw[zhq];exact .of_v (Mb.out.zpW Q.out.2 mf.out)
     obtain⟨F2,Hd⟩:∃F2:Nat->Prop,F2=fun k=>Ext F0 wr w7 k/\k<w7.heap.size:=⟨_,rfl⟩
     have Z:Hid (∀k,F2 k->Ext F0 wr w7 k/\k<w7.heap.size):=zc (by rw[Hd];exact fun k hk=>hk);have M7:Hid (zq w7 F2 s S2 L):=zc (by rw[Hd];exact Q.out.1.zpy);have H7:Hid (¬F2 D):=zc (fun hk=>by
      rcases(Z.out D hk).1 with h1 | h1
      ·exact Ke.out h1
      ·have:=H3.out.lt;omega)
     have Kq:=zc (ue (C.map some) a4 m c4 w7 F2 s S2 L M7.out (by rw[List.length_map];exact HM.out) (by omega) mq (fun q Y=>by obtain⟨q',Mi,e⟩:=List.mem_map.1 Y;obtain rfl:=Option.some.inj e;rw[kp.out]at Mi;obtain⟨y,hy,M1,_⟩:=Ha.out.1.zqQ HG.out ki.out q' Mi;exact⟨y,by rw[Hj.out.2.1];exact hy,M1⟩));have hle:S2.zp6 (C.map some)=LM:=by rw[zd4,nk.out];unfold Sc.limited Sc.g;rw[Hj.out.2.1]
     rw[hle]at Kq;have Ky:LM.length<=8:=by have h1:=zcU S2 (C.map some);rw[hle,List.length_map,<-HM.out]at h1;omega
     obtain⟨nl,Hg⟩:=zh LM.length
     have k9:=zc Hg;rw[<-Hg]at Kq Ky;clear mq Hd hle Hg;go_wp2_with fail;refine Kq.out.mono ?_;rintro z w8 ⟨a8,c8,rfl,h8,K0⟩;have Km:=zc K0;have nr:=zc (M7.out.behind K0);have Hh:=zc (K8.out.behind K0);have Nn:=zc (ym.zqB h8);have mi:Hid (∀r,a8=some ⟨r,0,none⟩->¬F2 r):=zc (fun r hr hF=>by have h1:=(h8.lt r (by rw[hr];rfl)).1;have:=(Z.out r hF).2;omega);clear h8 K0;go_wp2_with fail;obtain⟨wv,Mg⟩:=zh wr
     rw[<-Mg]at Q kv Z;clear Mg K Hl Mb;go_loopw [14,110] (fun _ i wr=>∃(k:Nat) (T:Sc),k<=nl/\i=.int .i64 k/\zn w8 F2 s T L wr/\T.Fit (b+1)/\S2.zpJ T/\T.zrM b (LM.drop k)/\Sc.zpE p e.n (LM.drop k) T=S3) (fun _ i _=>nl-(intOf i).toNat)
     case atStart=>exact⟨0,S2,by omega,rfl,zn.refl nr.out,h4.out.1,.refl S2,h4.out.2.2,ks.out.symm⟩
     case round=>
      obtain⟨k,T,hk,rfl,hl,Hv,hz,H4,Ma⟩:=hrel;have HL:=zc hl;have Hn:=zc Hv;have Ka:=zc hz;have nw:=zc H4;have Ml:=zc Ma;clear hl Hv hz H4 Ma;have kl:p<T.ps:=by rw[Ka.out.ps,Hj.out.1];exact Kb.out
      have K4:=zc kl;have Mc:Hid (zp1 wr D e):=zc ((HL.out.2.block D Hh.out.lt H7.out).trans Hh.out);obtain⟨-,J,-,U,-,-⟩:=Mc.out.c6;rw[ht.out]at J;have A:=Mc.out.lt;by_cases Kd:k<nl
      ·have N7:(k:Int) <(nl:Int):=by omega
       have Kc:k<LM.length:=by rw[<-k9.out];exact Kd
       obtain⟨q,Y⟩:∃q,LM[k]?=some q:=⟨_,List.getElem?_eq_getElem Kc⟩
       have ko:LM.drop k=q::LM.drop (k+1):=by
        rw[List.drop_eq_getElem_cons Kc]
        congr 1
        rw[List.getElem?_eq_getElem Kc]at Y;exact Option.some.inj Y
       have H4:=nw.out;rw[ko]at H4;have mz:(q::LM.drop (k+1)).Nodup:=by rw[<-ko];exact h4.out.2.1.sublist (List.drop_sublist _ _)
       obtain⟨x,d,hx,ni,hd,nd,kh⟩:=H4 q List.mem_cons_self;have K5:=qw (b:=d) (p:=p) (by omega);have Kn:=zd0 (p:=p) kh (by omega) hf H5;have ky:=zbT (p:=p) (ns:=e.n) (r:=LM.drop (k+1)) hx hd;rw[<-ko,Ml.out]at ky;obtain⟨E,hE⟩:=zh ((d.zpn p (zZ d p) e.n).zqv p (d.left (zZ d p) e.n))
       rw[<-hE]at Kn ky;have k8:E.l.length=d.l.length:=by rw[hE,zaQ,zct]
       obtain⟨f1,n1⟩:=Hn.out.zpl (d':=E) hx hd (fun _=>Kn) k8;have Mz:=zc f1;have ny:=zc n1;have Ng:=zc ky;have mg:=zc (ziY (x':=x.zpl E) H4 mz);obtain⟨r8,na,nb,Mw⟩:=(Nn.out.zpW HL.out.2 mi.out) k (ptr (L.gb q)) (zcT Y);subst na;obtain⟨-,-,-,-,-,x5,-⟩:=(HL.out.1.gp hx).c7;have K3:=(HL.out.1.gp hx).lt;rw[hd]at x5;simp only[Option.isSome_some,if_true]at x5;have Kg:=zc (Qt.zsm p (zZ d p) e.n wr.drew (L.bb q) d ((HL.out.1.kept (w':=wr.drew) fun _ _ _=>rfl).band hx hd) (kh.small (by omega)) K5 hf H5 ((kh.zpn K5 hf H5).small (by omega)));rw[<-hE]at Kg;have HX:=zc hx;have HD:=zc hd
       obtain⟨mb,Mu⟩:=zh ((d.zpn p (zZ d p) e.n).may (d.left (zZ d p) e.n))
       rw[<-Mu]at Kg;clear Y ko H4 mz hx ni hd nd kh K5 Kn ky hE k8 f1 n1 Mu;go_wp2_with fail;go_region_with
        (
         go_at_call 100;refine Kg.out.mono ?_;rintro z w9 ⟨rfl,H,M0⟩;have n9:=zc (HL.out.then (zn.zo7 (⟨rfl,rfl,rfl,zg _,fun _ _=>rfl⟩:Below wr.heap.size wr wr.drew) ((HL.out.1.kept (w':=wr.drew) fun _ _ _=>rfl).zrF HX.out HD.out M0 H)));clear H M0 J U A x5 K3 nb Mw)
       all_goals
        go_wp2_with fail;go_roundw
        case rel=>exact⟨k+1,_,by omega,by go_num,n9.out,Mz.out,Ka.out.trans ny.out,mg.out,Ng.out.symm⟩
        case measure=>simp[intOf];omega
      ·have K1:k=nl:=by omega
       have N3:T=S3:=by rw[<-Ml.out,K1,k9.out,List.drop_length];rfl
       subst N3;have p4:Hid (zn w F s T L wr):=zc (zn.zo7 kv.out ((Q.out.then (zn.zo7 Km.out (HL.out.grow (G:=Ext F0 wv w7) fun q Y=>(Z.out q Y).1))).grow (G:=F) K6.out));obtain⟨x0,Ht,_,_,H8,_⟩:=Hn.out.1.g0;have ng:=zc Ht;have ku:T.ts[n]?=some t:=by rw[Ka.out.ts,Hj.out.2.2.1];exact HN.out
       have Md:=zc ku;obtain⟨rc,cc,Kh⟩:=HL.out.1.vc_ kl;have n7:=zc Kh;obtain⟨N,H6,R,hC⟩:=HL.out.1.ztN kl Kh;obtain⟨-,-,-,-,-,-,-,t7,-⟩:=(HL.out.1.tk ku).zq7;have o:=(HL.out.1.tk ku).lt;have s8:=HL.out.1.zrB.2.1;obtain⟨rg,Kz,Kp,Hk,f⟩:=HL.out.1.zrB.2.2 0 x0 Ht H8;rw[Kp]at s8;have Nr:0<T.gs.length:=(ze Ht).1;have B:=HL.out.1.zqq.2;have Mo:=zc (uJ 0 p x0 (b+1) wr.drew _ s T L (HL.out.1.kept (w':=wr.drew) fun _ _ _=>rfl) Hn.out.1 Ht H8 (by omega));obtain⟨lo,mo⟩:=zh (T.load 0 p)
       have kb:=Hn.out.1.load 0 p;rw[<-mo]at Mo kb Hr;obtain⟨c,hc⟩:=zh ((T.cs p).tick e.n)
       obtain⟨du,Kk⟩:=zh (c.due t.w lo)
       rw[<-hc,<-Kk]at Hr;have Mn:=(Hn.out.1.ck p kl).1.small (by omega);have N9:Hid (∀W,yj W (L.cb p) (T.cs p)->Calls prog 96 #[ptr (L.cb p),.int .u64 e.n,.int .u64 t.w,.int .u64 lo] W fun z w'=>z=.returned (.tuple #[.bool du,.int .i64 0])/\yj w' (L.cb p) c/\zo8 (fun k=>k=L.cb p) W w'):=zc (by rw[Kk,hc];exact fun W hW=>zeD e.n t.w lo W (L.cb p) (T.cs p) hW Mn hf H5 ⟨by omega,nm.2⟩ kb);have Ns:(p:Int) <(T.ps:Int):=by omega
       have Me:=zc hC;have nj:=zc Kp;clear mo hc Kk Mn Ht ku hC Kp Kh;go_wp2_with fail;go_region_held3 (fun w'=>w'.cell? ⟨s,106,none⟩=some (.slice (some ⟨rc,0,none⟩) T.ps cc)/\w'.cell? ⟨rc,p,none⟩=some (ptr (L.cb p))/\w'.cell? ⟨D,1,none⟩=some (.int .i64 p)/\w'.cell? ⟨D,3,none⟩=some (.int .i64 e.n)/\w'.cell? ⟨L.tb n,7,none⟩=some (.int .u64 t.w)/\w'.cell? ⟨s,8,none⟩=some (.slice (some ⟨rg,0,none⟩) T.gs.length Kz)/\w'.cell? ⟨rg,0,none⟩=some (ptr (L.gb 0))) (go_keep)
        (first
         | (
          go_at_call 17;refine Mo.out.mono ?_;rintro z w9 ⟨rfl,H⟩;have M6:=zc (show Below wr.heap.size wr w9 from⟨H.os,H.tape,H.output,H.size,H.block⟩);replace N:=(H.cell (p:=⟨s,106,none⟩) B).trans N;replace H6:=(H.cell (p:=⟨rc,p,none⟩) R).trans H6;replace J:=(H.cell (p:=⟨D,1,none⟩) A).trans J;replace U:=(H.cell (p:=⟨D,3,none⟩) A).trans U;replace t7:=(H.cell (p:=⟨L.tb n,7,none⟩) o).trans t7;replace s8:=(H.cell (p:=⟨s,8,none⟩) B).trans s8;replace Hk:=(H.cell (p:=⟨rg,0,none⟩) f).trans Hk;replace B:=zf B H.size;replace R:=zf R H.size;replace A:=zf A H.size
          replace o:=zf o H.size;replace f:=zf f H.size;clear H)
         | (
          go_at_call 96;refine(N9.out w9 (Me.out.of (M6.out.block _ Me.out.lt))).mono ?_;rintro z Hb ⟨rfl,k4,Hw⟩;have Kf:=HL.out.below M6.out;have I:=Kf.then (Kf.1.zsp K4.out Hw k4);have H9:=zc I;have ha:zp1 Hb D e:=(I.2.block D Hh.out.lt H7.out).trans Hh.out;clear k4 Hw Kf N H6 R J U A t7 o s8 Hk f B;obtain⟨N,H6,R,-⟩:=I.1.ztN (p:=p) K4.out n7.out;obtain⟨-,J,-,U,-,-⟩:=ha.c6;rw[ht.out]at J;have A:=ha.lt;obtain⟨-,-,-,-,-,-,-,t7,-⟩:=(I.1.tk (n:=n) (t:=t) Md.out).zq7;have o:=(I.1.tk (n:=n) (t:=t) Md.out).lt;obtain⟨s8,Hk,f⟩:=I.1.ztO (k:=0) (g:=x0) ng.out H8 nj.out
          have B:=I.1.zqq.2;have k5:=zc ha;clear I ha))
       all_goals
        clear N H6 R J U A t7 o s8 Hk f B;have Hu:Hid (zn w F s (T.zpG p c) L Hb):=zc (zn.zo7 kv.out ((Q.out.then (zn.zo7 Km.out (H9.out.grow (G:=Ext F0 wv w7) fun q Y=>(Z.out q Y).1))).grow (G:=F) K6.out));cases du with
        | false=>
         have ke:Hid (O=(T.zpG p c,(n:Int),0)):=zc (by rw[Hr.out];rfl);go_wp2;go_ret2;rw[ke.out];exact⟨rfl,Hu.out⟩
        | true=>
         obtain⟨S4,Hq⟩:=zh (T.zpG p c)
         have ke:Hid (O=((S4.zpf p (S4.hs p).yield.1).zpG p (c.begin (-1)),(n:Int),0)):=zc (by rw[Hr.out,Hq];rfl);have He:Hid (p<S4.ps):=zc (by rw[Hq];exact K4.out);have N5:Hid (S4.cs p=c):=zc (by rw[Hq];exact zy _ _ _);have I:=H9.out;rw[<-Hq]at I;have h5:=zc I;clear Hq I Hu H9;obtain⟨-,J,-,U,-,-⟩:=k5.out.c6;rw[ht.out]at J;have A:=k5.out.lt;obtain⟨r1,ma,hv⟩:=h5.out.1.zsH He.out;have Nf:=zc hv;obtain⟨V,rp,P⟩:=h5.out.1.zqF He.out hv;have B:=h5.out.1.zqq.2;obtain⟨G3,hH,hU⟩:=h5.out.1.zq5 He.out;have Nb:=zc hU;have Mt:=zc (zdB Hb.drew G3 (L.hb p) (S4.hs p) (hH.kept fun _ _ _=>rfl))
         have Nw:(p:Int) <(S4.ps:Int):=by have:=He.out;omega
         obtain⟨yv,mr⟩:=zh ((S4.hs p).yield.2)
         rw[<-mr]at Mt;clear hv hH hU mr;go_wp2_with fail;go_region_held3 (fun w'=>w'.cell? ⟨s,105,none⟩=some (.slice (some ⟨r1,0,none⟩) S4.ps ma)/\w'.cell? ⟨r1,p,none⟩=some (ptr (L.hb p))/\w'.cell? ⟨D,1,none⟩=some (.int .i64 p)) (go_keep)
          (first
           | (
            go_at_call 95;refine Mt.out.mono ?_;rintro z Hf ⟨rfl,k7⟩;have M:=zc (h5.out.then (Nb.out _ _ (yW.zo7 (F:=G3) (⟨rfl,rfl,rfl,zg _,fun _ _=>rfl⟩:Below Hb.heap.size Hb Hb.drew) k7)));clear k7 J U A V rp P B;have kd:Hid (zp1 Hf D e):=zc ((M.out.2.block D Hh.out.lt H7.out).trans Hh.out);obtain⟨-,J,-,U,-,-⟩:=kd.out.c6;rw[ht.out]at J;have A:=kd.out.lt;have B:=M.out.1.zqq.2;obtain⟨V,rp,P⟩:=M.out.1.zqF (p:=p) (n:=S4.ps) He.out Nf.out))
         all_goals
          clear V rp P B;have kz:p<(S4.zpf p (S4.hs p).yield.1).ps:=He.out;obtain⟨r5,Nt,k3⟩:=M.out.1.vc_ kz;obtain⟨N,H6,R,Kt⟩:=M.out.1.ztN kz k3;have mx:(S4.zpf p (S4.hs p).yield.1).cs p=c:=N5.out;rw[mx]at Kt;have B:=M.out.1.zqq.2;have n3:=zc (zbd (-1) Hf.drew (L.cb p) c Kt (by omega) (by omega));obtain⟨S5,M4⟩:=zh (S4.zpf p (S4.hs p).yield.1)
          rw[<-M4]at M N kz ke;have Nh:=zc kz;have Nu:(p:Int) <(S5.ps:Int):=by omega
          clear k3 Kt mx M4;go_wp2_with fail;go_region_with
           (
            go_at_call 101;refine n3.out.mono ?_;rintro z Nl ⟨⟨v12,rfl⟩,k0,k2⟩;have mc:=zc (M.out.then (zn.zo7 (⟨rfl,rfl,rfl,zg _,fun _ _=>rfl⟩:Below Hf.heap.size Hf Hf.drew) ((M.out.1.kept (w':=Hf.drew) fun _ _ _=>rfl).zsp Nh.out k2 k0)));clear k0 k2 J U A N H6 R B)
          all_goals
           have N1:Hid (zn w F s (S5.zpG p (c.begin (-1))) L Nl):=zc (zn.zo7 kv.out ((Q.out.then (zn.zo7 Km.out (mc.out.grow (G:=Ext F0 wv w7) fun q Y=>(Z.out q Y).1))).grow (G:=F) K6.out));go_wp2;go_ret2;rw[ke.out];exact⟨rfl,N1.out⟩
theorem zjp(e:Ev)(b:Nat)(w:World)(F:Nat->Prop)(s:Nat)(S:Sc)(L:Lay)(h:zq w F s S L)(ok:S.Fit b)(A:b<900):
 Calls prog 52 #[ptr s,.agg (zpu e)] w (zq1 w F s L (S.zpz e)):=by
 by_cases hp:S.zqM e.a
 ·by_cases B:e.n<0∨S.tick<e.n
  ·exact zne e b w F s S L h ok A hp B
  ·obtain⟨p,D⟩:∃p:Nat,e.a=p:=⟨e.a.toNat,by have:=hp.1;omega⟩
   have E:p<S.ps:=by have:=hp.2;omega
   by_cases G:S.running p= -1
   ·exact zlf e b w F s S L h ok A hp B p D G
   ·obtain⟨n,t,g,I,H,N,h4,M,O,J⟩:=ok.run E G;exact zlt e b w F s S L h ok A hp B p D n t g I H N M O J
 ·exact znd e b w F s S L h ok A hp
def zcX(b g:Nat)(fin T:Sc)(y:Gp)(A:Option Nat)(m:Nat):Prop:=
 T.Fit b/\T.gs[g]?=some y/\y.there=true/\y.band.isSome=true/\(A=none->T=fin)/\∀p,A=some p->p<T.ps/\y.line.length<m/\Sc.zqu g y.line (T.zpf p ((T.hs p).stop y.hi false))=fin
theorem zjq{g p:Nat}{r:List Nat}{S:Sc}{x:Gp}(A:S.gs[g]?=some x):Sc.zqu g (p::r) S=Sc.zqu g r ((S.zpd g (x.zpm r)).zpf p ((S.hs p).stop x.hi false)):=by rw[Sc.zqu,Sc.zpj A]
theorem zbV{b g:Nat}{fin T:Sc}{y:Gp}{p:Nat}{r:List Nat}(H:T.Fit b)(B:T.gs[g]?=some y)(E:y.there=true)(hb:y.band.isSome=true)(G:g≠0)(D:y.line=p::r)(I:Sc.zqu g y.line T=fin)(m:Nat)(hm:r.length<m):zcX b g fin (T.zpd g (y.zpm r)) (y.zpm r) (some p) m:=by
 have A:=(H.1.gx g y B E G).line;rw[D]at A;obtain⟨f1,n1⟩:=H.zpm (l:=r) B G fun J=>by rw[D]at J;exact zfJ J
 refine⟨f1,zK B,E,hb,fun h=>(by cases h),fun q M=>?_⟩;obtain rfl:=Option.some.inj M;refine⟨A.1 p List.mem_cons_self,hm,?_⟩;rw[D,zjq B]at I;exact I
theorem zcF{b g:Nat}{fin T:Sc}{y:Gp}(G:T.Fit b)(E:T.gs[g]?=some y)(H:y.there=true)(hb:y.band.isSome=true)(D:y.line= [])(A:Sc.zqu g y.line T=fin)(m:Nat):zcX b g fin T y none m:=by refine⟨G,E,H,hb,fun _=>?_,fun q B=>by cases B⟩;rw[D]at A;exact A
theorem zhK(e:Ev)(b:Nat)(w:World)(F:Nat->Prop)(s:Nat)(S:Sc)(L:Lay)(h:zq w F s S L)(ok:S.Fit b):
 Calls prog 43 #[ptr s,.agg (zpu e)] w (zq1 w F s L (S.zqH e)):=by
 obtain⟨w1,H⟩:=zh (w.alloc (.cells (zpu e) 35))
 have h9:Below w.heap.size w w1:=by rw[H];exact zk w _
 have h1:=h.behind h9;have hE:zp1 w1 w.heap.size e:=by rw[H];exact zp1.new w e
 have H5:Hid (zn w F s S L w1):=zc ((zn.refl h).below h9);have HG:=zc (yN e.a w1 F s S L h1 (by have:=ok.1.gl;have:=ok.1.zqg;omega));have hr:=zc (show zq w1 (fun k=>F k/\k<w.heap.size) s S L from(h.mono fun k hk hf=>⟨hf,hk⟩:zq w (fun k=>F k/\k<w.heap.size) s S L).behind h9);have kg:=zc h9;obtain⟨D,hD⟩:=zh w.heap.size
 have kj:=zc hD;rw[<-hD]at hE;have HE:=zc hE;obtain⟨-,e1,-,e3,e4,-⟩:=hE.c6;have H9:=hE.lt;clear h h1 h9 hE;obtain⟨O,hO⟩:=zh (S.zqH e)
 rw[<-hO];unfold zq1;cases hg:S.grp? e.a with
 | none=>
  have ho:O=(S,0,2):=by rw[hO];unfold Sc.zqH;rw[hg]
  subst ho;rw[hg]at HG;clear hO hg ok;go_enter func43,ntmps43;go_wp2_with fail;rw[show w.alloc (.cells (zpu e) 35)=w1 from H.symm,<-hD];clear H hD;refine HG.out.mono ?_;rintro z w2 ⟨rfl,hw⟩;obtain rfl:=hw.symm;go_wp2;go_ret2;exact⟨rfl,H5.out⟩
 | some g=>
  obtain⟨ha,x,f,h6,P⟩:=yw hg;rw[hg,show zaV L.gb (some g)=ptr (L.gb g)from rfl]at HG;have HX:=zc f;by_cases h0:e.a=0
  ·have ho:O=(S,0,1):=by rw[hO];unfold Sc.zqH;rw[hg];simp[h0]
   subst ho;rw[h0]at e1;clear hO hg ok f h6 P ha h0;go_enter func43,ntmps43;go_wp2_with fail;rw[show w.alloc (.cells (zpu e) 35)=w1 from H.symm,<-hD];clear H hD;refine HG.out.mono ?_;rintro z w2 ⟨rfl,hw⟩;obtain rfl:=hw.symm;go_wp2;go_ret2;exact⟨rfl,H5.out⟩
  ·have o:g≠0:=by omega
   obtain⟨d,hd,H6,Hk⟩:=ok.1.band f h6 o;have HD:=zc hd;obtain⟨-,-,-,-,g4,g5,g6⟩:=(hr.out.gp f).c7;have N:=(hr.out.gp f).lt;have J:x.band.isSome=true:=by rw[hd];rfl
   rw[J]at g5 g6;simp only[if_true]at g5 g6;have kn:=zc J;cases hbd:zdA e.n e.m with
   | true=>
    have v:Qt.zp2 e.n e.m:=by unfold zdA at hbd;unfold Qt.zp2;simpa using hbd
    have ho:O=(S,0,1):=by rw[hO];unfold Sc.zqH;simp only[hg,P,hd,hbd];simp[h0]
    subst ho;have H8:=zc (Qt.zta e.n e.m w1.drew (L.bb g) v);clear hO hg ok f h6 P ha hd H6 Hk J hbd v g4 g6;go_enter func43,ntmps43;go_wp2_with fail;rw[show w.alloc (.cells (zpu e) 35)=w1 from H.symm,<-hD];clear H hD;refine HG.out.mono ?_;rintro z w2 ⟨rfl,hw⟩;obtain rfl:=hw.symm;go_wp2_with fail;go_region_with
     (
      go_at_call 80;refine H8.out.mono ?_;rintro z w3 ⟨rfl,Hv⟩;have y:Hid (zn w F s S L w3):=zc (by rw[<-Hv];exact H5.out.below ⟨rfl,rfl,rfl,zg _,fun _ _=>rfl⟩);clear Hv)
    all_goals
     go_wp2;go_ret2;exact⟨rfl,y.out⟩
   | false=>
    have v:¬Qt.zp2 e.n e.m:=by intro hb;unfold Qt.zp2 at hb;unfold zdA at hbd;rw[decide_eq_true hb]at hbd;cases hbd
    obtain⟨E,h7⟩:=zh (d.zqs e.n e.m)
    have kh:=zc h7;have hq:E.l.length=S.ps:=by rw[h7,zeF];exact H6
    have Hw:xt b E:=by rw[h7];exact .zqs _ _ v
    obtain⟨B,M⟩:∃B:Gp,B={ x.zpl E with quota:=e.n }:=⟨_,rfl⟩
    have hj:B.hi=x.hi/\B.line=x.line/\B.there=true/\B.band=some E:=by rw[M];exact⟨rfl,rfl,h6,rfl⟩
    have f1:(S.zpd g B).Fit b:=ok.zpd f o (by rw[M];rfl) (by rw[M];rfl) (by rw[M];rfl) fun ht=>by obtain⟨k1,_,k3⟩:=ok.1.gx g x f ht o;rw[M];exact⟨k1,⟨E,rfl,hq,Hw⟩,k3⟩
    have k7:(S.zpd g B).gs[g]?=some B:=zK f;obtain⟨fin,I⟩:=zh (Sc.zqu g B.line (S.zpd g B))
    have ho:O=(fin,0,0):=by rw[hO];unfold Sc.zqH;simp only[hg,P,hd,hbd];rw[if_neg h0];simp only[Bool.false_eq_true,if_false];rw[I,Sc.zpj (s:=S.zpd g { x.zpl (d.zqs e.n e.m)with quota:=e.n }) (zK f),M,h7]
    subst ho;have Hl:=zc f1;have h3:=zc k7;have hn:=zc I;have c:=zc M;have j:=zc hj;have H8:=zc (Qt.ztt e.n e.m w1.drew (L.bb g) d ((hr.out.kept (w':=w1.drew) fun _ _ _=>rfl).band f hd) v);clear hO hg f h6 P ha hd H6 Hk J hbd v g4 g6 h7 hq Hw f1 k7 I M hj ok;go_enter func43,ntmps43;go_wp2_with fail;rw[show w.alloc (.cells (zpu e) 35)=w1 from H.symm,<-hD];clear H hD;refine HG.out.mono ?_;rintro z w2 ⟨rfl,hw⟩;obtain rfl:=hw.symm;go_wp2_with fail;go_region_with
     (
      go_at_call 80;refine H8.out.mono ?_;rintro z w3 ⟨rfl,H7,Hz⟩;rw[<-kh.out]at H7;have y:=zc (zn.zo7 (⟨rfl,rfl,rfl,zg _,fun _ _=>rfl⟩:Below w1.heap.size w1 w1.drew) ((hr.out.kept (w':=w1.drew) fun _ _ _=>rfl).zrF HX.out HD.out Hz H7));clear H7 Hz e1 e3 e4 H9 g5 N)
    all_goals
     have H2:zp1 w3 D e:=(y.out.2.block D HE.out.lt (fun hk=>by have:=hk.2;rw[<-kj.out]at this;omega)).trans HE.out;obtain⟨-,-,-,e3,-,-⟩:=H2.c6;have H9:=H2.lt;have Hu:=zc (zK (g':=x.zpl E) HX.out);have h4:=y.out.1.gp Hu.out;obtain⟨-,-,-,-,g4,-,g6⟩:=h4.c7;have N:=h4.lt;have ki:=h4.zpe;have H0:=y.out.then (y.out.1.zrz (g':=B) Hu.out (by rw[c.out]) (by rw[c.out]) (by rw[c.out]) (zo8.refl (fun k=>k=L.gb g) w3).one (by rw[c.out];exact zi (i:=4) (u:=.int .i64 e.n) h4));rw[yK]at H0;have Q:=zc H0;simp only[Gp.zpl,Option.isSome_some,if_true]at g6;clear h4 H2 H0;go_wp2_with fail
     obtain⟨w4,Hf⟩:=zh (w3.setCell ⟨L.gb g,4,none⟩ (.int .i64 e.n))
     rw[<-Hf]at Q ⊢;clear Hf e3 H9 g4 g6 N ki;have A:=Q.out.1.line h3.out (by rw[j.out.2.2.2];rfl);have k5:Hid (∃U:Option Nat,∃T Y,(∀(z:Ending) C,(z=.returned (.tuple #[.int .i64 (U.getD 0:Nat),.bool U.isSome])/\zG C (L.lb g) Y.line/\zo8 (fun k=>k=L.lb g) w4 C)->zn w4 (Ext (fun k=>F k/\k<w.heap.size) w1 w4) s T L C)/\zcX b g fin T Y U 100/\Calls prog 81 #[ptr (L.lb g)] w4 fun z C=>z=.returned (.tuple #[.int .i64 (U.getD 0:Nat),.bool U.isSome])/\zG C (L.lb g) Y.line/\zo8 (fun k=>k=L.lb g) w4 C):=zc (by
      have J:B.band.isSome=true:=by rw[j.out.2.2.2];rfl
      cases hln:B.line with
      | nil=>
       rw[hln]at A;refine⟨none,S.zpd g B,B,fun z C hz=>?_,zcF Hl.out h3.out j.out.2.2.1 J hln hn.out.symm 100,(vu w4 (L.lb g) A).mono ?_⟩
       ·have:=Q.out.1.zse h3.out J hz.2.2 hz.2.1;rw[show B.zpm B.line=B from rfl]at this;have h5:zn w4 (Ext (fun k=>F k/\k<w.heap.size) w1 w4) s ((S.zpd g B).zpd g B) L C:=this;rw[yK]at h5;exact h5
       ·rintro z C ⟨rfl,hw⟩;obtain rfl:=hw.symm;exact⟨rfl,by rw[hln];exact A,zo8.refl _ _⟩
      | cons p r=>
       rw[hln]at A;have hlen:(p::r).length<=64:=by obtain⟨rg,fr,f,_⟩:=A;exact f.n
       refine⟨some p,(S.zpd g B).zpd g (B.zpm r),B.zpm r,fun z C hz=>Q.out.1.zse h3.out J hz.2.2 hz.2.1,zbV Hl.out h3.out j.out.2.2.1 J o hln hn.out.symm 100 (by simp at hlen;omega),(zcb w4 (L.lb g) p r A).mono fun z C hz=>hz⟩)
     obtain⟨U,T,Y,Hq,k0,k2⟩:=k5.out;have Hb:=zc Hq;have W:=zc k0;have V:=zc k2;obtain⟨tv,Ha⟩:∃tv:Int,tv=(U.getD 0:Nat):=⟨_,rfl⟩
     obtain⟨tb,H3⟩:=zh U.isSome
     rw[<-Ha,<-H3]at V Hb;have Hr:=zc Ha;have Hn:=zc H3;clear A k5 Hq k0 k2 Ha H3;refine V.out.mono ?_;rintro z C ⟨rfl,k6,Hi⟩;have Hy:=zc (Q.out.then (Hb.out _ _ ⟨rfl,k6,Hi⟩));clear k6 Hi;go_wp2_with fail;go_loopg [8,9] 100 (fun m v8 v9 wr=>∃(U:Option Nat) (T:Sc) (Y:Gp),v8=.int .i64 (U.getD 0:Nat)/\v9=.bool U.isSome/\zn w1 (fun k=>F k/\k<w.heap.size) s T L wr/\zcX b g fin T Y U m)
     case atStart=>exact⟨U,T,Y,by rw[Hr.out],by rw[Hn.out],Hy.out,W.out⟩
     case round=>
      clear Hy W Hb V Hr Hn;obtain⟨U,T,Y,rfl,rfl,hl,hf⟩:=hrel;have HL:=zc hl;have W:=zc hf;clear hl hf;cases U with
      | none=>
       have kk:Hid (zn w F s fin L wr):=zc (zn.zo7 kg.out (by rw[<-W.out.2.2.2.2.1 rfl];exact HL.out.grow (G:=F) fun k hk=>hk.1));go_wp2;go_ret2;exact⟨rfl,kk.out⟩
      | some p=>
       obtain⟨fT,hY,hy,k4,-,Hj⟩:=W.out;obtain⟨X,Ho,I⟩:=Hj p rfl;obtain⟨yr,Hh⟩:=fT.1.gr hY hy X;have k8:=fT.1.hc p X;have He:=fT.1.credit;have Hc:=fT.1.hi0 hY hy o;have kl:=zc fT;have HY:=zc hY;have Ht:=zc hy;have h2:=zc k4;have ke:=zc X;have Hp:=zc Ho;have kf:=zc I;obtain⟨r1,cap,hv⟩:=HL.out.1.zsH X;obtain⟨Hd,rp,kd⟩:=HL.out.1.zqF X hv;obtain⟨-,g1,-,-,-,-,g6⟩:=(HL.out.1.gp hY).c7;have N:=(HL.out.1.gp hY).lt;have kc:=HL.out.1.zqq.2;obtain⟨G,hH,hU⟩:=HL.out.1.zq5 X;have HU:=zc hU;have ka:=zc (zb4 Y.hi false wr.drew G (L.hb p) (T.hs p) yr (hH.kept fun k _ _=>rfl) Hh Hc (by rw[k8];omega))
       have km:(p:Int) <(T.ps:Int):=by omega
       rw[show((some p).getD 0:Nat)=p from rfl];simp only[Option.isSome_some];clear Hh hv hU hH k8 He hY hy k4 X Ho I Hj fT g6;go_wp2_with fail;go_region_with
        (
         go_at_call 82;refine ka.out.mono ?_;rintro z w8 ⟨rfl,Hg⟩;have Z:=zc (HL.out.then (HU.out _ _ (yW.zo7 (F:=G) (⟨rfl,rfl,rfl,zg _,fun _ _=>rfl⟩:Below wr.heap.size wr wr.drew) Hg)));clear Hg Hd rp kd g1 N kc)
       all_goals
        obtain⟨T8,h8⟩:=zh (T.zpf p ((T.hs p).stop Y.hi false))
        have F8:Hid (T8.Fit b):=zc (by rw[h8];exact zax kl.out ke.out Y.hi false);have t:Hid (T8.gs[g]?=some Y):=zc (by rw[h8];exact HY.out);have hh:Hid (Sc.zqu g Y.line T8=fin):=zc (by rw[h8];exact kf.out);rw[<-h8]at Z;clear h8;obtain⟨-,-,-,-,-,-,g6⟩:=(Z.out.1.gp t.out).c7;have N:=(Z.out.1.gp t.out).lt;rw[h2.out]at g6;simp only[if_true]at g6;have A:=Z.out.1.line t.out h2.out;cases hln:Y.line with
        | nil=>
         rw[hln]at A;have V:=zc (vu w8 (L.lb g) A);have K:=zc (zcF F8.out t.out Ht.out h2.out hln hh.out 0);have R:0<gk:=by have:=Hp.out;omega
         have H4:=zc R;clear A hln R;go_wp2_with fail;refine V.out.mono ?_;rintro z w9 ⟨rfl,hw⟩;obtain rfl:=hw.symm;clear g6 N;go_wp2_with fail;go_roundg 0
         case measure=>exact H4.out
         case rel=>exact⟨none,T8,Y,rfl,rfl,Z.out,K.out⟩
        | cons q r=>
         rw[hln]at A;have V:=zc (zcb w8 (L.lb g) q r A);have K:=zc (zbV F8.out t.out Ht.out h2.out o hln hh.out (r.length+1) (by omega));have R:r.length+1<gk:=by have:=Hp.out;rw[hln]at this;simp at this;omega
         have H4:=zc R;clear A hln R;go_wp2_with fail;refine V.out.mono ?_;rintro z w9 ⟨rfl,Hs,k9⟩;have kb:=zc (Z.out.then (Z.out.1.zse t.out h2.out k9 Hs));clear Hs k9 g6 N;go_wp2_with fail;go_roundg (r.length+1)
         case measure=>exact H4.out
         case rel=>exact⟨some q,_,Y.zpm r,rfl,rfl,kb.out,K.out⟩
theorem zfZ(e:Ev)(b:Nat)(w:World)(F:Nat->Prop)(s:Nat)(S:Sc)(L:Lay)(h:zq w F s S L)(ok:S.Ok b):
 Calls prog 44 #[ptr s,.agg (zpu e)] w (zq1 w F s L (S.zpF e)):=by
 obtain⟨w1,A⟩:=zh (w.alloc (.cells (zpu e) 35))
 have U:Below w.heap.size w w1:=by rw[A];exact zk w _
 have n:=h.behind U;have Y:zp1 w1 w.heap.size e:=by rw[A];exact zp1.new w e
 have J:Hid (zn w F s S L w1):=zc ((zn.refl h).below U);have X:=zc (yN e.a w1 F s S L n (by have:=ok.gl;have:=ok.zqg;omega));have R:=zc n;obtain⟨D,N⟩:=zh w.heap.size
 rw[<-N]at Y;have HE:=zc Y;obtain⟨-,K,-,P,Q,-⟩:=Y.c6;have m:=Y.lt;clear h n U Y;obtain⟨O,T⟩:=zh (S.zpF e)
 rw[<-T];unfold zq1;cases hg:S.grp? e.a with
 | none=>
  have Z:O=(S,0,2):=by rw[T];unfold Sc.zpF;rw[hg]
  subst Z;rw[hg]at X;clear T hg ok;go_enter func44,ntmps44;go_wp2_with fail;rw[show w.alloc (.cells (zpu e) 35)=w1 from A.symm,<-N];clear A N;refine X.out.mono ?_;rintro z k ⟨rfl,hw⟩;obtain rfl:=hw.symm;go_wp2;go_ret2;exact⟨rfl,J.out⟩
 | some g=>
  obtain⟨t,x,V,c,M⟩:=yw hg;rw[hg,show zaV L.gb (some g)=ptr (L.gb g)from rfl]at X;have C:=zc V;have B:=zc (zdR w1 F s S L R.out g x V);have I:=R.out.gp V;obtain⟨g0,g1,g2,g3,g4,g5,g6⟩:=I.c7;have p:=I.lt;have H:Hid (x.limited=match x.band with | none=>false | some b=>decide (0<b.q)):=zc rfl;cases hlm:x.limited with
  | false=>
   have Z:O=(S,0,7):=by
    rw[T];unfold Sc.zpF;simp only[hg,M];have G:=H.out;rw[hlm]at G;cases hb:x.band with
    | none=>rfl
    | some b=>
     rw[hb]at G;have y:¬0<b.q:=fun h=>by simp only[h,decide_true]at G;cases G
     show(if 0<b.q then _ else _)=_;rw[if_neg y]
   subst Z;rw[hlm]at B;obtain⟨r,d⟩:=zh ((if x.band.isSome=true then some (⟨L.bb g,0,none⟩:Addr)else none))
   rw[<-d]at B g5;clear T hg ok V c M t hlm I g0 g1 g2 g3 g4 g6 d H;go_enter func44,ntmps44;go_wp2_with fail;rw[show w.alloc (.cells (zpu e) 35)=w1 from A.symm,<-N];clear A N;refine X.out.mono ?_;rintro z k ⟨rfl,hw⟩;obtain rfl:=hw.symm;go_wp2_with fail;refine B.out.mono ?_;rintro z k ⟨rfl,hw⟩;obtain rfl:=hw.symm;go_wp2;go_ret2;exact⟨rfl,J.out⟩
  | true=>
   obtain⟨bd,E,u⟩:∃bd,x.band=some bd/\0<bd.q:=by
    have G:=H.out;rw[hlm]at G;cases hb:x.band with
    | none=>rw[hb]at G;cases G
    | some b=>rw[hb]at G;exact⟨b,rfl,by simpa using G.symm⟩
   have Z:O=(S.zpd g (x.zpl bd.zpF),0,0):=by rw[T];unfold Sc.zpF;simp only[hg,M,E];simp[u]
   subst Z;rw[hlm]at B;rw[E]at B g5;simp only[Option.isSome_some,if_true]at B g5;have l:=zc E;have v:=zc (Qt.zsn w1 (L.bb g) bd (R.out.band V E));clear T hg ok V c M t hlm I g0 g1 g2 g3 g4 g6 H E;go_enter func44,ntmps44;go_wp2_with fail;rw[show w.alloc (.cells (zpu e) 35)=w1 from A.symm,<-N];clear A N;refine X.out.mono ?_;rintro z k ⟨rfl,hw⟩;obtain rfl:=hw.symm;go_wp2_with fail;refine B.out.mono ?_;rintro z k ⟨rfl,hw⟩;obtain rfl:=hw.symm;go_wp2_with fail;refine v.out.mono ?_;rintro z w3 ⟨rfl,j,f⟩;have o:=zc (J.out.then (J.out.1.zrF C.out l.out f j));clear j f K P Q m g5 p;go_wp2;go_ret2
   exact⟨rfl,o.out⟩
theorem zlb:(prog.info? 99).map (fun i=>(i.zero,i.size,i.bytes))=some (some (.pointer none),1,8):=by kernel_rfl
theorem zlc:(prog.info? 107).map (fun i=>(i.zero,i.size,i.bytes))=some (some (.pointer none),1,8):=by kernel_rfl
theorem uV(n a b:Int)(h1:a<=n)(h2:n<=b)(w:World):Calls prog 32 #[.int .i64 n,.int .i64 a,.int .i64 b] w fun z w'=>z=.returned (.bool true)/\w'=w:=by go_enter func32,ntmps32;go_wp2;go_ret;exact⟨rfl,rfl⟩
abbrev ziU(n:Nat)(tick gran credit lat:Int):Array Value:=#[.int .i64 n,.int .i64 tick,.int .i64 gran,.int .i64 credit,.int .u64 lat]
theorem zeQ(
 n:Nat) (tick gran credit lat:Int) (w:World) (hn:1<=n/\n<=64) (ht:1<=tick/\tick<=1000000000) (hg:0<=gran/\gran<=1099511627776) (hc:0<=credit/\credit<=1000000000) (hl:1<=lat/\lat<=1000000000):
 Calls prog 16 #[.agg (ziU n tick gran credit lat)] w fun z w'=>∃s L,z=.returned (.tuple #[ptr s,.int .i64 0])/\zq w' (fun k=>w.heap.size<=k) s (Sc.new n tick gran credit lat) L/\Below w.heap.size w w':=by
 obtain⟨w1,hq⟩:=zh (w.alloc (.cells (ziU n tick gran credit lat) 54))
 have k5:Below w.heap.size w w1:=by rw[hq];exact zk w _
 have O:w1.heap[w.heap.size]?=some (.cells (ziU n tick gran credit lat) 54 (0,0)):=by rw[hq];exact heap_alloc_new w _
 obtain⟨C,hC⟩:=zh w.heap.size
 rw[<-hC]at O;have H1:=zc (And.intro k5 (And.intro O hC));have c0:w1.cell? ⟨C,0,none⟩=some (.int .i64 n):=by simp[World.cell?,O]
 have c1:w1.cell? ⟨C,1,none⟩=some (.int .i64 tick):=by simp[World.cell?,O]
 have c2:w1.cell? ⟨C,2,none⟩=some (.int .i64 gran):=by simp[World.cell?,O]
 have c3:w1.cell? ⟨C,3,none⟩=some (.int .i64 credit):=by simp[World.cell?,O]
 have c4:w1.cell? ⟨C,4,none⟩=some (.int .u64 lat):=by simp[World.cell?,O]
 have A:C<w1.heap.size:=(zd O).1;clear k5 O;go_enter func16,ntmps16;go_wp2_with fail;rw[show w.alloc (.cells #[.int .i64 n,.int .i64 tick,.int .i64 gran,.int .i64 credit,.int .u64 lat] 54)=w1 from hq.symm,<-hC];clear hq hC;refine(uV n 1 64 (by omega) (by omega) w1).mono ?_;rintro z w2 ⟨rfl,Y⟩;obtain rfl:=Y.symm;go_wp2_with fail;refine(uV tick 1 1000000000 (by omega) (by omega) w1).mono ?_;rintro z w2 ⟨rfl,Y⟩;obtain rfl:=Y.symm;go_wp2_with fail;refine(uV gran 0 1099511627776 (by omega) (by omega) w1).mono ?_;rintro z w2 ⟨rfl,Y⟩;obtain rfl:=Y.symm;go_wp2_with fail
 refine(uV credit 0 1099511627776 (by omega) (by omega) w1).mono ?_;rintro z w2 ⟨rfl,Y⟩;obtain rfl:=Y.symm;go_upto_region 9 with(fail)
 go_region_held3 (fun w'=>w'.cell? ⟨C,0,none⟩=some (.int .i64 n)/\w'.cell? ⟨C,1,none⟩=some (.int .i64 tick)/\w'.cell? ⟨C,2,none⟩=some (.int .i64 gran)/\w'.cell? ⟨C,3,none⟩=some (.int .i64 credit)/\w'.cell? ⟨C,4,none⟩=some (.int .u64 lat)) (go_keep)
  (first
   | (
    go_at_call 33;refine(zmw _).mono ?_;rintro z wa ⟨t,tp,rfl,Hp,o⟩;have R:Hid (Below w1.heap.size w1 wa):=zc ⟨o.os,o.tape,o.output,o.size,o.block⟩;have l:Hid (zS wa (fun k=>w1.heap.size<=k/\k<wa.heap.size) t tp zsJ):=zc (zk7 Hp);replace c0:=(R.out.cell (p:=⟨C,0,none⟩) A).trans c0;replace c1:=(R.out.cell (p:=⟨C,1,none⟩) A).trans c1;replace c2:=(R.out.cell (p:=⟨C,2,none⟩) A).trans c2;replace c3:=(R.out.cell (p:=⟨C,3,none⟩) A).trans c3;replace c4:=(R.out.cell (p:=⟨C,4,none⟩) A).trans c4;replace A:=zf A R.out.size;clear Hp o)
   | (
    go_at_call 34;refine(zmK _).mono ?_;rintro z r ⟨bk,rfl,k4,d⟩;have I:Hid (Below wa.heap.size wa r):=zc ⟨d.os,d.tape,d.output,d.size,d.block⟩;have Hw:Hid (zM r (fun k=>wa.heap.size<=k/\k<r.heap.size) bk Bk.new):=zc (k4.mono fun k X m=>⟨m,X⟩);replace c0:=(I.out.cell (p:=⟨C,0,none⟩) A).trans c0;replace c1:=(I.out.cell (p:=⟨C,1,none⟩) A).trans c1;replace c2:=(I.out.cell (p:=⟨C,2,none⟩) A).trans c2;replace c3:=(I.out.cell (p:=⟨C,3,none⟩) A).trans c3;replace c4:=(I.out.cell (p:=⟨C,4,none⟩) A).trans c4;replace A:=zf A I.out.size;clear k4 d))
 all_goals
  go_wp2_with fail;obtain⟨s,hs⟩:=zh r.heap.size
  refine(Pi.zq8 64 _ (by omega)).mono ?_;rintro z E ⟨rfl,Hn⟩;have M:(r.alloc (.cells (xo n tick gran credit lat (some t) none bk) 66)).alloc (.cells #[.int .i64 64,.int .i64 0,.slice none 0 0,.int .i64 (-1)] 147)=E:=Hn;have k3:E.heap.size=s+2:=by rw[<-M,hs];simp
  have Z:E.heap[s]?=some (.cells (xo n tick gran credit lat (some t) none bk) 66 (0,0)):=by rw[<-M,hs];exact(Below.heap_alloc _ _ _ (by simp)).trans (heap_alloc_new r _)
  have Hq:E.heap[s+1]?=some (.cells #[.int .i64 64,.int .i64 0,.slice none 0 0,.int .i64 (-1)] 147 (0,0)):=by rw[<-M,hs];have h:=heap_alloc_new (r.alloc (.cells (xo n tick gran credit lat (some t) none bk) 66)) (.cells #[.int .i64 64,.int .i64 0,.slice none 0 0,.int .i64 (-1)] 147);rw[show(r.alloc (.cells (xo n tick gran credit lat (some t) none bk) 66)).heap.size=r.heap.size+1 by simp]at h;exact h
  have D:Below r.heap.size r E:=by rw[<-M];exact(zk r _).alloc (by simp) _
  have kj:=zc (zj I.out D I.out.size);have T:=zc (And.intro hs (And.intro M (And.intro k3 (And.intro Z (And.intro Hq D)))));have x6:E.cell? ⟨s,6,none⟩=some (.pointer none):=by simp only[World.cell?,Z];rfl
  have x8:E.cell? ⟨s,8,none⟩=some (.slice none 0 0):=by simp only[World.cell?,Z];rfl
  have x9:E.cell? ⟨s,9,none⟩=some (.pointer none):=by simp only[World.cell?,Z];rfl
  have xl:s<E.heap.size:=(zd Z).1;have xf:∀j,E.frozen? ⟨s,j,none⟩=false:=by intro j;simp[World.frozen?,Z]
  replace c0:=(D.cell (p:=⟨C,0,none⟩) A).trans c0;replace c1:=(D.cell (p:=⟨C,1,none⟩) A).trans c1;replace c2:=(D.cell (p:=⟨C,2,none⟩) A).trans c2;replace c3:=(D.cell (p:=⟨C,3,none⟩) A).trans c3;replace c4:=(D.cell (p:=⟨C,4,none⟩) A).trans c4;replace A:=zf A D.size;rw[<-hs];clear Hn M Z Hq D hs;go_upto_region 12 with(fail)
  go_region;rw[<-T.out.1];have Hr:((((E.setCell ⟨s,6,none⟩ (.pointer (some ⟨s+1,0,none⟩))).setCell ⟨s,8,none⟩ (.slice (some ⟨s+2+1,0,none⟩) 1 1)).setCell ⟨s,9,none⟩ (.pointer (some ⟨s+2,0,none⟩))).alloc (.cells #[.int .i64 0,.int .i64 0,.int .i64 0,.int .u64 0,.int .i64 0,.pointer none,.pointer none] 86)).alloc (.cells #[.pointer (some ⟨s+2,0,none⟩)] 59)=zbn E s:=rfl;rw[Hr];obtain⟨⟨L0,ks,Q,-⟩,Hv⟩:=zla (w:=w) (w1:=w1) (n:=n) (tick:=tick) (gran:=gran) (credit:=credit) (lat:=lat) H1.out.1.size R.out I.out l.out Hw.out T.out.1 T.out.2.1;have h6:=Q.same (w':=(zbn E s).drew) (zv (Below.refl _ _)) 0
  have H0:Below w1.heap.size w1 (zbn E s).drew:=zv Hv;have Hy:Hid (∀W,Below w1.heap.size w1 W->W.heap[C]?=some (.cells (ziU n tick gran credit lat) 54 (0,0))):=zc fun W hb=>(hb.block C (zd H1.out.2.1).1).trans H1.out.2.1;generalize(zbn E s).drew=w6 at h6 H0 ⊢;have Hb:=zc (And.intro h6 H0);have Hg:=Hy.out w6 H0;clear c0 c1 c2 c3 c4 A x6 x8 x9 xl xf Hr Q Hv h6 H0 R I l Hw T kj;have c0:w6.cell? ⟨C,0,none⟩=some (.int .i64 n):=by simp[World.cell?,Hg]
  have A:C<w6.heap.size:=(zd Hg).1;clear Hg;obtain⟨ih,kn,kc,kl,kg⟩:=info_parts zlb;obtain⟨it,hit,ke,km,ka⟩:=info_parts zlc;go_wp2_with fail;go_loopw [7,8,65] (fun _ _ i wr=>∃(k:Nat) (L:Lay) (tg:Nat->Nat),k<=n/\i=.int .i64 k/\SB wr (fun j=>w.heap.size<=j) s (Sc.new n tick gran credit lat) L tg k k/\Below w.heap.size w wr/\wr.heap[C]?=some (.cells (ziU n tick gran credit lat) 54 (0,0))) (fun _ _ i _=>n-(intOf i).toNat)
  case atStart=>exact⟨0,L0,_,by omega,rfl,Hb.out.1,zj H1.out.1 Hb.out.2 H1.out.1.size,Hy.out w6 Hb.out.2⟩
  case round=>
   obtain⟨k,L,tg,hk,rfl,Q,hb,H⟩:=hrel;have HS:=zc (And.intro Q (And.intro hb H));clear Q hb c0 A;have c4:wr.cell? ⟨C,4,none⟩=some (.int .u64 lat):=by simp[World.cell?,H]
   have A:C<wr.heap.size:=(zd H).1;clear H;by_cases kq:k<n
   ·have kv:(
     k:Int) <(n:Int):=by omega
    have kp:=zc (zmD lat wr hl.1 hl.2);go_wp2_with fail;refine kp.out.mono ?_;rintro z E ⟨b,rfl,Hi,Hs,D⟩;have V:=HS.out.1.same D 5;obtain⟨va,vc,hv⟩:=V.vh.len;rw[xU]at hv;have J:=V.sx.vh;rw[hv]at J;have v:=V.sx.lt;have H:=(D.block C (zd HS.out.2.2).1).trans HS.out.2.2;have kk:=zc H;have T:=zc (And.intro Hi (And.intro Hs (And.intro D (And.intro V hv))));clear c4 A Hi Hs D V hv;have c2:E.cell? ⟨C,2,none⟩=some (.int .i64 gran):=by simp[World.cell?,H]
    have c3:E.cell? ⟨C,3,none⟩=some (.int .i64 credit):=by simp[World.cell?,H]
    have A:C<E.heap.size:=(zd H).1;clear H;go_upto_region 16 with(fail)
    obtain⟨q4,M⟩:=zh E.heap.size
    have k6:=zc M;have Hf:C≠s:=fun e=>by have X:=HS.out.1.sx.ty;obtain⟨cs,X⟩:=X;have m:=HS.out.2.2;rw[e,X]at m;simp only[Option.some.injEq,Obj.cells.injEq]at m;exact absurd m.2.1 (by decide)
    have kz:s≠C:=fun e=>Hf e.symm;clear M;go_cut []from 73 to 84 (fun wx=>∃(L2:Lay) (H7:Nat->Nat),SB wx (fun j=>w.heap.size<=j) s (Sc.new n tick gran credit lat) L2 H7 (k+1) k/\yj wx b ⟨lat,-1,0,0,0⟩/\H7 b=5/\(∀p,p<k->L2.cb p≠b)/\Below w.heap.size w wx/\wx.heap[C]?=some (.cells (ziU n tick gran credit lat) 54 (0,0)))
    case first=>
     go_region_law (first
      | (
       refine step_append_lies _ (by rfl) _ _ _ (by rfl) 0 99 ih _ 1 8 underlying62 kn kc kl kg rfl (by omega) (.slice va k vc) k (yq (yo L.hb k)) (by rfl) (hr.out.alloc _)
        ⟨c.heap.size,0,none⟩ 1 1 [ptr q4] (by rfl) (by rfl) (World.news_of_block (cs:=#[ptr q4]) (t:=99) (fr:=(0,0)) (heap_alloc_new c _)) (by simp[Value.oneCell'])
        (by omega) (by unfold maxLen;omega) (by omega) (by first | omega | (simp;omega)) (c.heap.size+1) (by first | rfl | simp) ?_
       intro g2 cap2 w8 S K k2 kt;have kf:=zc S;have H8:Hid (zo8 (fun x=>(Value.slice va k vc).ownBlock=some x) c w8):=zc (((zo8.refl (fun x=>(Value.slice va k vc).ownBlock=some x) c).alloc _).grown K fun x U=>.inl U);have Hl:=zc k2;have H3:w8.heap[s]?=c.heap[s]?:=H8.out.block s v (fun e'=>by obtain⟨cs,X⟩:=hy.out.1.sx.ty;exact zz hr.out X (by decide) e');have Hh:w8.heap[C]?=c.heap[C]?:=H8.out.block C A (fun e'=>by have X:=Hd.out;exact zz hr.out X (by decide) e');replace J:w8.cell? ⟨s,105,none⟩=some (.slice va k vc):=by rw[<-J];simp[World.cell?,H3]
       replace c2:w8.cell? ⟨C,2,none⟩=some (.int .i64 gran):=by rw[<-c2];simp[World.cell?,Hh]
       replace c3:w8.cell? ⟨C,3,none⟩=some (.int .i64 credit):=by rw[<-c3];simp[World.cell?,Hh]
       have ky:∀j,w8.frozen? ⟨s,j,none⟩=false:=by intro j;obtain⟨cs,Hc⟩:=hy.out.1.sx.ty;simp[World.frozen?,H3,Hc]
       clear S K k2 H3 Hh)
      | (
       go_simp;go_at_call 37;refine(zmh credit gran _).mono ?_;rintro z c ⟨hz,Ht,q⟩;obtain rfl:z=.returned (ptr q4):=by rw[hz,k6.out];rfl
       have N:Hid (Below E.heap.size E c):=zc ⟨q.os,q.tape,q.output,q.size,q.block⟩;have y:=T.out.2.2.2.1.same N.out (k+9);have h9:zB c (Own (fun j=>w.heap.size<=j) (zD (zD tg wr 5) E (k+9)) (k+9)) q4 ((Sc.new n tick gran credit lat).hs k):=by
        rw[k6.out];refine zB.mono (show zB c (fun j=>E.heap.size<=j) E.heap.size (Hm.new credit gran)from Ht) fun j hj hf=>⟨?_,?_⟩
        ·have X:=T.out.2.2.1.size;have m:=HS.out.2.1.size;show w.heap.size<=j;omega
        ·unfold zD;rw[if_neg (by omega)]
       have hy:=zc (And.intro y h9);have Hd:=zc ((N.out.block C A).trans kk.out);have hr:Hid (c.ownsRow 0 99 1 (.slice va k vc) k (yq (yo L.hb k))):=zc (by have h:=y.vh.row;rw[T.out.2.2.2.2,xU]at h;exact h);have Ha:=N.out.size;replace J:=(N.out.cell (p:=⟨s,105,none⟩) v).trans J;replace c2:=(N.out.cell (p:=⟨C,2,none⟩) A).trans c2;replace c3:=(N.out.cell (p:=⟨C,3,none⟩) A).trans c3;replace v:=zf v Ha;replace A:=zf A Ha;clear hz Ht q y h9))
     all_goals
      go_wp2_with fail;go_meet
      case rel=>
       have ki:=HS.out.2.1.size;have k3:=T.out.2.2.1.size;have Ha:=N.out.size;have Hi:=T.out.1;have Hz:b<E.heap.size:=T.out.2.1.lt;have ku:=HS.out.1.sx.lt;have ho:yj c b ⟨lat,-1,0,0,0⟩:=T.out.2.1.of (N.out.block b Hz);obtain⟨X,m⟩:=hy.out.1.stepH (B:=q4) (g2:=g2) (cap2:=cap2) (fun j hj=>by show w.heap.size<=j;omega) hy.out.2 (by rw[T.out.2.2.2.2];exact H8.out) kf.out (by
        rw[T.out.2.2.2.2];rcases Hl.out with h3 | h3
        ·exact .inl h3
        ·exact .inr (by omega))
       have k1:∀x cs t f,c.heap[x]?=some (.cells cs t f)->t≠99->L.vh.ownBlock≠some x:=fun x cs t f U k9 e=>by rw[T.out.2.2.2.2]at e;exact zz hr.out U k9 e
       refine⟨_,_,X,ho.of (m.block b (by omega) ?_),?_,fun p hp e=>?_,?_,(m.block C A ?_).trans Hd.out⟩
       ·rintro(e | e)
        ·omega
        ·exact k1 b _ _ _ (show c.heap[b]?=some (.cells _ _ _)from ho) (by decide) e
       ·unfold zD;rw[if_pos (by omega),if_pos Hz,if_neg (by omega)]
       ·have h3:=(HS.out.1.cs.ck p hp).2.lt;have h4:L.cb p=b:=e;omega
       ·have hi:Below w.heap.size w c:=zj (zj HS.out.2.1 T.out.2.2.1 ki) N.out (by omega);refine hi.trans (m.below hi.size fun x U=>?_);rcases U with U | U
        ·rw[U];exact HS.out.1.sx.own.1
        ·exact(HS.out.1.vh.own x U).1
       ·rintro(e | e)
        ·exact Hf e
        ·exact k1 C _ _ _ Hd.out (by decide) e
    case rest=>
     rename World=>w9
     obtain⟨L2,H7,G,h8,k7,hh,Hu,k0⟩:=hcut;have g:=zc (And.intro G (And.intro h8 (And.intro k7 (And.intro hh (And.intro Hu k0)))));obtain⟨He,H6,P⟩:=G.cs.row.len;rw[xU]at P;have H2:=zc P;have h5:=G.sx.vc;rw[P]at h5;have F:=G.sx.lt;have Hk:=G.sx.zpe;have H5:Hid (w9.ownsRow 0 107 1 (.slice He k H6) k (yq (yo L2.cb k))):=zc (by have h:=G.cs.row.row;rw[P,xU]at h;exact h);clear G h8 k7 hh Hu k0 P c2 c3 A J v
     go_wp2_with (at_builtin;go_loud (refine wpList_append_own_at _ rfl _ _ 63 rfl 0 107 it (.pointer none) 1 8 underlying63 hit ke km ka rfl (by decide) _ k (yq (yo L2.cb k)) rfl (H5.out.alloc _) ⟨w9.heap.size,0,none⟩ 1 1 [ptr b] rfl rfl ?c1 ?c2 ?c3 ?c4 ?c5 ?_))
     case c1=>exact World.news_of_block (cs:=#[ptr b]) (t:=107) (fr:=(0,0)) (heap_alloc_new w9 _)
     case c2=>intro u hu;simp at hu;subst hu;rfl
     case c3=>unfold maxLen;omega
     case c4=>omega
     case c5=>omega
     intro v' wA a Ho _ ha;rcases a.2 with⟨_,h0⟩ | ⟨gA,Hj,cur,kh,_⟩
     ·omega
     subst kh;have l:Hid (zo8 (fun x=>L2.vc.ownBlock=some x) w9 wA):=zc (by rw[H2.out];exact((zo8.refl (fun x=>(Value.slice He k H6).ownBlock=some x) w9).alloc _).grown Ho fun x U=>.inl U);have ko:=zc a;have k8:Hid (L2.vc.ownBlock=some gA∨w9.heap.size<=gA):=zc (by
      rw[H2.out];rcases ha with h3 | h3
      ·exact .inl h3.symm
      ·have h4:gA=w9.heap.size+1:=Option.some.inj h3;exact .inr (by omega))
     have h7:wA.heap[s]?=w9.heap[s]?:=l.out.block s F (fun e'=>by obtain⟨cs,X⟩:=g.out.1.sx.ty;rw[H2.out]at e';exact zz H5.out X (by decide) e');have sA:wA.cell? ⟨s,106,none⟩=some (.slice He k H6):=by rw[<-h5];simp[World.cell?,h7]
     have kr:=zf F l.out.size;have kx:∀j,wA.frozen? ⟨s,j,none⟩=false:=by intro j;obtain⟨cs,Hc⟩:=g.out.1.sx.ty;simp[World.frozen?,h7,Hc]
     clear a Ho ha h7 h5 F Hk;go_wp2_with fail;go_roundw
     case rel=>
      have kb:=g.out.2.2.2.2.1.size;obtain⟨X,m⟩:=g.out.1.stepC (B:=b) (g2:=gA) (cap2:=Hj) (fun j hj=>by show w.heap.size<=j;omega) g.out.2.1 ⟨by show w.heap.size<=b;have:=T.out.1;have:=HS.out.2.1.size;omega,g.out.2.2.1⟩ g.out.2.2.2.1 l.out ko.out k8.out;refine⟨k+1,_,_,by omega,by go_num,X,?_,?_⟩
      ·refine g.out.2.2.2.2.1.trans (m.below kb fun x U=>?_);rcases U with U | U
       ·rw[U];exact g.out.1.sx.own.1
       ·exact(g.out.1.cs.row.own x U).1
      ·refine(m.block C (zd g.out.2.2.2.2.2).1 ?_).trans g.out.2.2.2.2.2;rintro(e | e)
       ·exact Hf e
       ·rw[H2.out]at e;exact zz H5.out g.out.2.2.2.2.2 (by decide) e
     case measure=>simp[intOf];omega
   ·have kd:k=n:=by omega
    subst kd;go_wp2;go_ret2;exact⟨s,L,rfl,HS.out.1.done,HS.out.2.1⟩
theorem ziV(a0 A a2 a3 a4:Int)(w:World)(h0:0<=a0/\a0<=65535)(h1:0<=A/\A<=65535)(h2:0<=a2/\a2<=65535)(h3:0<=a3/\a3<=65535)(h4:0<=a4/\a4<=65535):
 Calls prog 5 #[.agg #[.int .u16 a0,.int .u16 A,.int .u16 a2,.int .u16 a3,.int .u16 a4]] w fun z w'=>∃s L,z=.returned (ptr s)/\zq w' (fun k=>w.heap.size<=k) s (Sc.new (1+a0%8).toNat (1+A) a2 a3 (1+a4)) L/\Below w.heap.size w w':=by
 obtain⟨n,I⟩:∃n:Nat,(n:Int)=1+a0%8:=⟨(1+a0%8).toNat,by omega⟩
 have B:(1+a0%8).toNat=n:=by omega
 have hb:=zk w (.cells #[.int .u16 a0,.int .u16 A,.int .u16 a2,.int .u16 a3,.int .u16 a4] 23);have G:=zeQ n (1+A) a2 a3 (1+a4) (w.alloc (.cells #[.int .u16 a0,.int .u16 A,.int .u16 a2,.int .u16 a3,.int .u16 a4] 23)) (by omega) (by omega) (by omega) (by omega) (by omega);rw[show ziU n (1+A) a2 a3 (1+a4)=#[.int .i64 (1+a0%8),.int .i64 (1+A),.int .i64 a2,.int .i64 a3,.int .u64 (1+a4)]by rw[<-I]]at G;have N:=zc G;have E:=zc (And.intro B hb);clear G I B hb;go_enter func5,ntmps5;go_wp2_with fail;refine N.out.mono ?_;rintro z w2 ⟨s,L,rfl,hs,D⟩;have J:=zc (And.intro hs D);clear hs D;go_wp2;go_ret;have H:=E.out.2.size
 refine⟨s,L,rfl,?_,zj E.out.2 J.out.2 H⟩;rw[E.out.1];exact J.out.1.mono fun k _ M=>Nat.le_trans H M
theorem zaA{P:List Int}{c:Int}{k:Nat}{g:Int}(h:¬(0<g/\g≠c)):zrO P c k g=g:=by
 cases k with
 | zero=>rfl
 | succ k=>unfold zrO;rw[if_neg h]
theorem zd6{P:List Int}{c:Int}{m:Nat}(hd:∀k,0<k->k<m->0<=P.getD k 0/\P.getD k 0<k):∀(b g k:Nat),g<=b->g<m->g<=k->zrO P c k g=zrO P c g g
 | 0,g,k,hb,hg,hk=>by
  obtain rfl:g=0:=by omega
  rw[zaA (by omega),zaA (by omega)]
 | b+1,g,k,hb,hg,hk=>by
  by_cases h:0<(g:Int)/\(g:Int)≠c
  ·obtain⟨j,rfl⟩:∃j,g=j+1:=⟨g-1,by omega⟩
   obtain⟨A,rfl⟩:∃A,k=A+1:=⟨k-1,by omega⟩
   obtain⟨E,h2⟩:=hd (j+1) (by omega) hg;obtain⟨q,D⟩:=Int.eq_ofNat_of_zero_le E;have B:q<=j:=by omega
   show zrO P c (A+1) ((j+1:Nat):Int)=zrO P c (j+1) ((j+1:Nat):Int);unfold zrO;rw[if_pos h,if_pos h,Int.toNat_natCast,D];exact(zd6 hd b q A (by omega) (by omega) (by omega)).trans (zd6 hd b q j (by omega) (by omega) B).symm
  ·rw[zaA h,zaA h]
theorem znc{P:List Int}{c:Int}{m:Nat}(hd:∀k,0<k->k<m->0<=P.getD k 0/\P.getD k 0<k){g:Nat}(D:g<m)(h:0<(g:Int)/\(g:Int)≠c):∃q:Nat,P.getD g 0=(q:Int)/\q<g/\zrO P c g g=zrO P c q q:=by
 obtain⟨j,rfl⟩:∃j,g=j+1:=⟨g-1,by omega⟩
 obtain⟨B,h2⟩:=hd (j+1) (by omega) D;obtain⟨q,A⟩:=Int.eq_ofNat_of_zero_le B;refine⟨q,A,by omega,?_⟩;have e:zrO P c (j+1) ((j+1:Nat):Int)=zrO P c j (P.getD (j+1) 0):=by show(if 0<((j+1:Nat):Int)/\((j+1:Nat):Int)≠c then zrO P c j (P.getD ((j+1:Nat):Int).toNat 0)else _)=_;rw[if_pos h,Int.toNat_natCast]
 rw[e,A];exact zd6 hd q q j (zg _) (by omega) (by omega)
theorem ziW(P:List Int)(m:Nat)(v1:Value)(R:Option Addr)(H:Nat)(a c:Nat)(w:World)(n:∀k,k<m->w.cell? ⟨(R.map Addr.block).getD 0,k,none⟩=some (.int .i64 (P.getD k 0)))(E:∀h:0<m,∃r,R=some ⟨r,0,none⟩)(j:∀r,R=some ⟨r,0,none⟩->r<w.heap.size)(u:a<m)(hm:m<=1000)(hc:c<m)
 (hd:∀k,0<k->k<m->0<=P.getD k 0/\P.getD k 0<k) (U:∃x y z,v1=.slice x y z):
 Calls prog 14 #[.agg #[v1,.slice R m H],.int .i64 a,.int .i64 c] w fun z w'=>z=.returned (.bool (decide (zrO P c a a=c)))/\Below w.heap.size w w':=by
 obtain⟨x,y,z,rfl⟩:=U;obtain⟨r,rfl⟩:=E (by omega);have I:=j r rfl;have s:Hid (∀k,k<m->w.cell? ⟨r,k,none⟩=some (.int .i64 (P.getD k 0))):=zc n;obtain⟨w1,A⟩:=zh (w.alloc (.cells #[.slice x y z,.slice (some ⟨r,0,none⟩) m H] 45))
 have O:Below w.heap.size w w1:=by rw[A];exact zk w _
 have B:w1.heap[w.heap.size]?=some (.cells #[.slice x y z,.slice (some ⟨r,0,none⟩) m H] 45 (0,0)):=by rw[A];exact heap_alloc_new w _
 have T:=zc O;have t:w1.cell? ⟨w.heap.size,1,none⟩=some (.slice (some ⟨r,0,none⟩) m H):=by simp[World.cell?,B]
 have b:w.heap.size<w1.heap.size:=(zd B).1;obtain⟨D,X⟩:=zh w.heap.size
 rw[<-X]at t b;have Y:=zc hd;clear n E j O B hd;have J:=zc (And.intro A X);clear A X;go_enter func14,ntmps14;go_upto_region 1 with(fail)
 rw[show w.alloc (.cells #[.slice x y z,.slice (some ⟨r,0,none⟩) m H] 45)=w1 from J.out.1.symm,<-J.out.2];go_loopw [1] (fun v1 wr=>∃g:Nat,v1=.int .i64 g/\g<m/\wr=w1/\zrO P c a a=zrO P c g g) (fun v1 _=>(intOf v1).toNat)
 case atStart=>exact⟨a,rfl,u,rfl,rfl⟩
 case round=>
  obtain⟨g,rfl,d,rfl,hu⟩:=hrel;have l:=zc hu;clear hu;have Z:wr.cell? ⟨r,g,none⟩=some (.int .i64 (P.getD g 0)):=(T.out.cell (p:=⟨r,g,none⟩) I).trans (s.out g d);have h0:=zf I T.out.size;by_cases h:0<(g:Int)/\(g:Int)≠(c:Int)
  ·obtain⟨q,f,V,G⟩:=znc Y.out d h;have HS:=zc (And.intro V G);rw[f]at Z;obtain⟨M,N⟩:=h;have h3:(g:Int) <(m:Int):=by omega
   clear f G;go_wp2;go_roundw
   case rel=>exact⟨q,rfl,by omega,by first | trivial | rfl,l.out.trans HS.out.2⟩
   case measure=>have:=HS.out.1;simp[intOf];omega
  ·have hs:=zaA (P:=P) (c:=(c:Int)) (k:=g) h;have o:Hid (decide (zrO P c a a=(c:Int))=((g:Int) == (c:Int))):=zc (by
    rw[l.out,hs];by_cases e:(g:Int)=(c:Int)
    ·simp[e]
    ·simp[e])
   clear hs;by_cases M:g=0
   ·subst M;clear h;go_wp2;go_ret;exact⟨by rw[o.out];rfl,T.out⟩
   ·have N:(g:Int)=(c:Int):=by omega
    have h2:(0:Int) <(g:Int):=by omega
    have v:Hid (((g:Int) == (c:Int))=true):=zc (by rw[N];simp);clear h;go_wp2;go_ret;exact⟨by rw[o.out,v.out];rfl,T.out⟩
end
end Go.Proofs.YtmgekibncmnmiaaGreatDoor
