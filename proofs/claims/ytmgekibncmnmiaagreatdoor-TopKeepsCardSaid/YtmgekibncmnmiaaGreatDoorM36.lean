/- Parts of the proof of the law TopKeeps: contracts of the functions that it reaches, and plain laws of what they compute. Conditions: those in each statement. -/
import Derived.Test.YtmgekibncmnmiaaGreatDoorM35
set_option linter.unusedVariables false
set_option maxRecDepth 100000
set_option maxHeartbeats 4000000
open Go.Proofs.Tryz
namespace Go.Proofs.YtmgekibncmnmiaaGreatDoor
open Go Go.RowKit Go.ChangeShapes Go.WideShapes
def Hm.zrG(h:Hm)(g:Nat):Nat->Nat->Prop
 | 0,d=>d=g
 | n+1,d=>∃(c:Nat) (y:Gr),Hm.zrG h g n c/\h.gs d=some y/\y.up=c/\y.on=true
theorem zrG.trans{h:Hm}{g c n:Nat}(a:h.zrG g n c):∀(m d:Nat),h.zrG c m d->h.zrG g (n+m) d
 | 0,d,hd=>by have:d=c:=hd;subst this;exact a
 | m+1,d,⟨e,y,h1,h2⟩=>⟨e,y,zrG.trans a m e h1,h2⟩
theorem zeK:∀(k:Nat) {h:Hm} (D:h.Ok) (g:Nat),0<=(h.down zpv zpv k g).2.2->∃n,h.zrG g n (h.down zpv zpv k g).2.1/\h.even (h.down zpv zpv k g).2.1 ((h.down zpv zpv k g).2.2/2)
 | 0,h,D,g,B=>by have:(0:Int)<= -1:=B;omega
 | k+1,h,D,g,B=>by
  revert B
  unfold Hm.down;cases hx:h.gs g with
  | none=>intro B;have:(0:Int)<= -1:=B;omega
  | some x=>
   simp only;have e:(h.set g (x.zpb (zpv x.q))).set g ((x.zpb (zpv x.q)).zpb (zpv (zpv x.q)))=h:=by have J:h.set g (x.zpb (zpv x.q))=h:=xe (x:=x.zpb (zpv x.q)) hx;rw[J];exact xe (x:=(x.zpb (zpv x.q)).zpb (zpv (zpv x.q))) hx
   rw[e];have I:=(D.q g x hx).1;split
   ·rename_i R;intro B;have h4:0<=(zpv x.q).cur:=B;refine⟨0,rfl,x,hx,?_⟩;have A:x.q.has x.q.cur:=I.cur.resolve_left (by have:(zpv x.q).cur=x.q.cur:=rfl;omega);have H:2*((zpv x.q).cur/2)=x.q.cur:=by have:(zpv x.q).cur=x.q.cur:=rfl;omega
    show x.q.has (2*((zpv x.q).cur/2));rw[H];exact A
   ·rename_i R;intro B;have J:(zpv x.q).cur=x.q.cur:=rfl;have A:x.q.has x.q.cur:=I.cur.resolve_left (by omega);obtain⟨c,T⟩:∃c:Nat,x.q.cur=2*c+1:=⟨(x.q.cur/2).toNat,by omega⟩
    rw[T]at A;obtain⟨y,M,E⟩:=D.ztb g x c hx A;have G:y.on=true:=(D.on g x c y hx M E).1 A;have H:((zpv x.q).cur/2).toNat=c:=by omega
    rw[H]at B ⊢;obtain⟨n,N,O⟩:=zeK k D c B;exact⟨1+n,zrG.trans (n:=1) ⟨g,y,rfl,M,E,G⟩ n _ N,O⟩
theorem zfI{h:Hm}(B:h.Ok)(A:h.running≠ -1):∃(d n:Nat) (i:Nat),h.running=i/\h.zrG 0 n d/\h.even d i:=by
 unfold Hm.running vP at A ⊢;split at A
 ·exact absurd rfl A
 ·rename_i G;rw[if_neg G];obtain⟨n,E,D⟩:=zeK 9 B 0 (by omega);exact⟨_,n,((h.down zpv zpv 9 0).2.2/2).toNat,by omega,E,by rw[Int.toNat_of_nonneg (by omega)];exact D⟩
theorem zhd{S:Sc}{b:Nat}(ok:S.Ok b){p:Nat}(hp:p<S.ps)(G:(S.hs p).Ok):∀(n d:Nat),(S.hs p).zrG 0 n d->∀i∈zqT S.tree.l d,∃x,(S.hs p).gs i=some x/\x.on=true
 | 0,d,h,i,A=>by have:d=0:=h;subst this;rw[uq]at A;cases A
 | n+1,d,⟨c,y,h1,h2,h3,h4⟩,i,A=>by
  have hd:d≠0:=by rintro rfl;obtain⟨x,I,hu,_⟩:=G.root;rw[h2]at I;obtain rfl:=Option.some.inj I;omega
  have D:(S.pl d).isSome=true:=by rw[<-ok.hk p hp d,h2];rfl
  obtain⟨m,hm⟩:=Option.isSome_iff_exists.1 D;obtain⟨g,J,E,B⟩:=ok.pl d m hm;obtain⟨⟨q,H,hu,_⟩,_⟩:=ok.gk m g J E;rw[B]at H;rw[ur ok.tr ⟨q,H,hu⟩ hd]at A;have h0:=(ok.hu p hp d y h2 hd).1;have M:zrk S.tree.l d=c:=by omega
  rw[M]at A;rcases List.mem_append.1 A with A | A
  ·exact zhd ok hp G n c h1 i A
  ·simp at A;subst A;exact⟨y,h2,h4⟩
theorem Sc.Ok.ztD{S:Sc}{b:Nat}(ok:S.Ok b){p:Nat}(hp:p<S.ps)(G:(S.hs p).Ok){n:Nat}{t:Tk}{g:Gp}(U:S.ts[n]?=some t)(A:S.running p=n)(M:S.gs[t.zpc]?=some g):∀i∈zqT S.tree.l g.hi,∃x,(S.hs p).gs i=some x/\x.on=true:=by
 unfold Sc.running at A;have J:¬(S.hs p).running<0:=by intro h;rw[if_pos h]at A;omega
 rw[if_neg J]at A;obtain⟨d,m,a,O,I,T⟩:=zfI G (by omega);rw[O,Int.toNat_natCast]at A;obtain⟨n',u,y,hu,D,h6,H,B,E⟩:=(ok.ev p hp d a).1 T;have N:=(ok.on hu D).at_;rw[E]at N;have R:n'=n:=by omega
 subst R;rw[U]at hu;obtain rfl:=Option.some.inj hu;rw[M]at H;obtain rfl:=Option.some.inj H;rw[B];exact zhd ok hp G m d I
def Hm.zqV(h:Hm)(i:Nat):Bool:=match h.gs i with
 | none=>true
 | some x=>x.st
theorem xv{h:Hm}{g:Nat}{x y:Gr}(A:h.gs g=some x)(hs:y.st=x.st)(i:Nat):(h.set g y).zqV i=h.zqV i:=by
 unfold Hm.zqV;by_cases e:i=g
 ·subst e;rw[zw,A];exact hs
 ·rw[zo h y e]
theorem zcf:∀(n:Nat) (h:Hm) (g i:Nat),(h.settle n g).zqV i=h.zqV i
 | 0,h,g,i=>rfl
 | n+1,h,g,i=>by
  unfold Hm.settle;cases hx:h.gs g with
  | none=>rfl
  | some x=>
   simp only;split
   ·rfl
   ·cases hu:h.gs x.up.toNat with
    | none=>rfl
    | some u=>
     simp only;split
     ·rfl
     ·split
      ·rw[zcf n];by_cases e:g=x.up.toNat
       ·rw[<-e]at hu ⊢;rw[hx]at hu;obtain rfl:=Option.some.inj hu;exact(xv (x:=x.zpb (x.q.put (x.zpM x.q.min h.credit))) (y:=x.zqj x.q.min h.credit) (zw _ _ _) rfl i).trans (xv (y:=x.zpb (x.q.put (x.zpM x.q.min h.credit))) hx rfl i)
       ·exact(xv (x:=x) (y:=x.zqj u.q.min h.credit) (by rw[zo _ _ e];exact hx) rfl i).trans (xv (y:=u.zpb (u.q.put (x.zpM u.q.min h.credit))) hu rfl i)
      ·rw[zcf n];by_cases e:g=x.up.toNat
       ·rw[<-e]at hu ⊢;rw[hx]at hu;obtain rfl:=Option.some.inj hu;exact(xv (x:=x.zpb (x.q.drop (2*g+1))) (y:=x.go (x.zpX x.q g)) (zw _ _ _) rfl i).trans (xv (y:=x.zpb (x.q.drop (2*g+1))) hx rfl i)
       ·exact(xv (x:=x) (y:=x.go (x.zpX u.q g)) (by rw[zo _ _ e];exact hx) rfl i).trans (xv (y:=u.zpb (u.q.drop (2*g+1))) hu rfl i)
theorem zjM{h:Hm}{g:Nat}{x:Gr}(A:h.gs g=some x)(v:Bool)(i:Nat):(h.stop g v).zqV i=if i=g then v else h.zqV i:=by
 unfold Hm.stop;rw[A];simp only;rw[zcf];unfold Hm.zqV;by_cases e:i=g
 ·subst e;rw[zw,if_pos rfl];rfl
 ·rw[zo _ _ e,if_neg e]
theorem zjN{f b:Qu->Qu}:∀(k:Nat) (h:Hm) (g i:Nat),(h.down f b k g).1.zqV i=h.zqV i
 | 0,h,g,i=>rfl
 | k+1,h,g,i=>by
  unfold Hm.down;cases hx:h.gs g with
  | none=>rfl
  | some x=>
   simp only;have e:((h.set g (x.zpb (f x.q))).set g ((x.zpb (f x.q)).zpb (b (f x.q)))).zqV i=h.zqV i:=by exact(xv (x:=x.zpb (f x.q)) (y:=(x.zpb (f x.q)).zpb (b (f x.q))) (zw _ _ _) rfl i).trans (xv (y:=x.zpb (f x.q)) hx rfl i)
   split
   ·exact e
   ·rw[zjN k,e]
theorem zn2(h:Hm)(i:Nat):h.pick.1.zqV i=h.zqV i:=zjN _ _ _ _
theorem zcv{α:Type}{f g:α->Bool}:∀(l:List α),(∀i∈l,g i=true->f i=true)->(l.filter g).length<=(l.filter f).length/\∀j∈l,f j=true->g j=false->(l.filter g).length<(l.filter f).length
 | [],_=>⟨zg _,fun j D=>by cases D⟩
 | a::l,h=>by
  obtain⟨G,E⟩:=zcv l fun i I=>h i (List.mem_cons_of_mem _ I);have H:=h a List.mem_cons_self;simp only[List.filter_cons];cases hf:f a <;> cases hg:g a
  ·refine⟨by simpa using G,fun j D A B=>?_⟩;rcases List.mem_cons.1 D with rfl | D
   ·rw[hf]at A;cases A
   ·simpa using E j D A B
  ·rw[H hg]at hf;cases hf
  ·exact⟨by simp;omega,fun j D A B=>by simp;omega⟩
  ·refine⟨by simp;omega,fun j D A B=>?_⟩;rcases List.mem_cons.1 D with rfl | D
   ·rw[hg]at B;cases B
   ·have:=E j D A B;simp;omega
def Hm.going(h:Hm):Nat:=((List.range 32).filter fun i=>!h.zqV i).length
theorem zhe(h:Hm):h.going<=32:=by unfold Hm.going;exact Nat.le_trans (List.length_filter_le _ _) (by simp)
theorem zkR{h:Hm}{g:Nat}{x:Gr}(B:h.gs g=some x)(D:g<32)(hs:x.st=false):(h.stop g true).going<h.going:=by
 unfold Hm.going;refine(zcv (List.range 32) fun i _ A=>?_).2 g (List.mem_range.2 D) ?_ ?_
 ·rw[zjM B]at A;split at A
  ·cases A
  ·exact A
 ·unfold Hm.zqV;rw[B];simp[hs]
 ·rw[zjM B,if_pos rfl];rfl
theorem ziJ(h:Hm):h.pick.1.going=h.going:=by
 unfold Hm.going
 congr 1
 exact List.filter_congr fun i _=>by rw[zn2]
structure Sc.zpJ(S S':Sc):Prop where
 ps:S'.ps=S.ps
 tick:S'.tick=S.tick
 ts:S'.ts=S.ts
 pl:S'.pl=S.pl
 tree:S'.tree=S.tree
 at_:S'.at_=S.at_
 book:S'.book=S.book
 len:S'.gs.length=S.gs.length
 g:∀(n:Nat) (x:Gp),S.gs[n]?=some x->∃y,S'.gs[n]?=some y/\y.hi=x.hi/\y.hg=x.hg/\y.there=x.there/\y.shares=x.shares/\y.quota=x.quota
theorem Sc.zpJ.refl(S:Sc):S.zpJ S:=⟨rfl,rfl,rfl,rfl,rfl,rfl,rfl,rfl,fun n x h=>⟨x,h,rfl,rfl,rfl,rfl,rfl⟩⟩
theorem Sc.zpJ.trans{a b c:Sc}(h:a.zpJ b)(A:b.zpJ c):a.zpJ c:=
 ⟨A.ps.trans h.ps,A.tick.trans h.tick,A.ts.trans h.ts,A.pl.trans h.pl,A.tree.trans h.tree,A.at_.trans h.at_,A.book.trans h.book,A.len.trans h.len,fun n x H=>by obtain⟨y,G,I,D,J,M,B⟩:=h.g n x H;obtain⟨z,E,f1,f2,f3,f4,f5⟩:=A.g n y G;exact⟨z,E,f1.trans I,f2.trans D,f3.trans J,f4.trans M,f5.trans B⟩⟩
theorem Sc.zqw.zqD{S S':Sc}(h:S.zqw S'):S.zpJ S':=by obtain⟨hs,rfl⟩:=h;exact⟨rfl,rfl,rfl,rfl,rfl,rfl,rfl,rfl,fun n x h=>⟨x,h,rfl,rfl,rfl,rfl,rfl⟩⟩
theorem Sc.zpJ.zpf{S S':Sc}(h:S.zpJ S')(p:Nat)(x:Hm):S.zpJ (S'.zpf p x):=⟨h.ps,h.tick,h.ts,h.pl,h.tree,h.at_,h.book,h.len,h.g⟩
theorem Sc.zpJ.zpG{S S':Sc}(h:S.zpJ S')(p:Nat)(x:Ck):S.zpJ (S'.zpG p x):=⟨h.ps,h.tick,h.ts,h.pl,h.tree,h.at_,h.book,h.len,h.g⟩
theorem Sc.zpJ.zpd{S:Sc}{n:Nat}{g g':Gp}(B:S.gs[n]?=some g)(E:g'.hi=g.hi)(I:g'.hg=g.hg)(G:g'.there=g.there)(H:g'.shares=g.shares)(D:g'.quota=g.quota):S.zpJ (S.zpd n g'):=
 ⟨rfl,rfl,rfl,rfl,rfl,rfl,rfl,by show(S.gs.set n g').length=_;rw[List.length_set],fun m x A=>by
  by_cases e:m=n
  ·subst e;rw[B]at A;obtain rfl:=Option.some.inj A;exact⟨g',by show(S.gs.set m g')[m]?=_;rw[List.getElem?_set_self (ze B).1],E,I,G,H,D⟩
  ·exact⟨x,by show(S.gs.set n g')[m]?=_;rw[List.getElem?_set_ne (Ne.symm e)];exact A,rfl,rfl,rfl,rfl,rfl⟩⟩
theorem Sc.Fit.zpd{S:Sc}{b:Nat}(h:S.Fit b){n:Nat}{g g':Gp}(H:S.gs[n]?=some g)(E:n≠0)(B:g'.hi=g.hi)(G:g'.hg=g.hg)(D:g'.there=g.there)(A:g.there=true->zoO S b g'):(S.zpd n g').Fit b:=
 ⟨h.1.zpd H E B G D A,h.2⟩
theorem Sc.Fit.zpG{S:Sc}{b:Nat}(h:S.Fit b)(p:Nat){c:Ck}(A:ud b c/\c.lat=S.lat):(S.zpG p c).Fit b:=⟨h.1.zpG p A,h.2⟩
theorem Sc.Fit.zpl{S:Sc}{b:Nat}(h:S.Fit b){n:Nat}{g:Gp}{d d':zqL}(A:S.gs[n]?=some g)(hd:g.band=some d)(B:xt b d->xt b d')(M:d'.l.length=d.l.length):(S.zpd n (g.zpl d')).Fit b/\S.zpJ (S.zpd n (g.zpl d')):=by
 have E:n≠0:=by rintro rfl;obtain⟨x,G,_,_,_,hb⟩:=h.1.g0;rw[A]at G;obtain rfl:=Option.some.inj G;rw[hd]at hb;cases hb
 refine⟨h.zpd A E rfl rfl rfl fun I=>?_,.zpd A rfl rfl rfl rfl rfl⟩;obtain⟨J,⟨c,H,zre,D⟩,N⟩:=h.1.gx n g A I E;rw[hd]at H;obtain rfl:=Option.some.inj H;exact⟨J,⟨d',rfl,M.trans zre,B D⟩,N⟩
theorem Sc.Fit.zpm{S:Sc}{b:Nat}(h:S.Fit b){n:Nat}{g:Gp}(A:S.gs[n]?=some g)(B:n≠0){l:List Nat}(D:(∀p∈g.line,p<S.ps)/\g.line.Nodup->(∀p∈l,p<S.ps)/\l.Nodup):(S.zpd n (g.zpm l)).Fit b/\S.zpJ (S.zpd n (g.zpm l)):=by refine⟨h.zpd A B rfl rfl rfl fun H=>?_,.zpd A rfl rfl rfl rfl rfl⟩;obtain⟨G,E,I⟩:=h.1.gx n g A H B;exact⟨G,E,D I⟩
theorem uK{l:List Nat}{p m:Nat}(hp:p<m)(h:(∀q∈l,q<m)/\l.Nodup):(∀q∈zJ l p,q<m)/\(zJ l p).Nodup:=by
 unfold zJ;split
 ·exact h
 ·rename_i E;refine⟨fun q A=>?_,?_⟩
  ·rcases List.mem_append.1 A with A | A
   ·exact h.1 q A
   ·simp at A;omega
  ·rw[List.nodup_append];refine⟨h.2,by simp,fun a D c B=>?_⟩;simp at B;subst B;rintro rfl;exact E (.inl D)
theorem zfJ{l:List Nat}{p m:Nat}(h:(∀q∈p::l,q<m)/\(p::l).Nodup):(∀q∈l,q<m)/\l.Nodup:=
 ⟨fun q A=>h.1 q (List.mem_cons_of_mem _ A),(List.nodup_cons.1 h.2).2⟩
theorem zK{S:Sc}{n:Nat}{g g':Gp}(h:S.gs[n]?=some g):(S.zpd n g').gs[n]?=some g':=by have A:=(ze h).1;show(S.gs.set n g')[n]?=some g';rw[List.getElem?_set_self A]
theorem yK(S:Sc)(n:Nat)(g g':Gp):(S.zpd n g).zpd n g'=S.zpd n g':=by simp[Sc.zpd]
theorem Sc.Ok.band{S:Sc}{b:Nat}(ok:S.Ok b){n:Nat}{g:Gp}(D:S.gs[n]?=some g)(A:g.there=true)(B:n≠0):∃d,g.band=some d/\d.l.length=S.ps/\xt b d:=(ok.gx n g D A B).band
theorem Sc.Ok.zqc{S:Sc}{b:Nat}(ok:S.Ok b){n:Nat}{g:Gp}{d:zqL}(B:S.gs[n]?=some g)(hd:g.band=some d):n≠0:=by rintro rfl;obtain⟨x,A,_,_,_,hb⟩:=ok.g0;rw[B]at A;obtain rfl:=Option.some.inj A;rw[hd]at hb;cases hb
theorem uL{p g:Nat}{r:List Nat}{S:Sc}{x:Gp}{d:zqL}(A:S.gs[g]?=some x)(hd:x.band=some d):Sc.zpD p (g::r) S=if d.may (zZ d p)=true then Sc.zpD p r (S.zpd g (x.zpl (d.zqv p (zZ d p))))else
 ((S.zpd g ((x.zpl (d.zqv p (zZ d p))).zpm (zJ x.line p))).zpf p ((S.hs p).stop x.hi true),false):=by
 have e:S.g g=x:=Sc.zpj A;have B:(S.zpd g (x.zpl (d.zqv p (zZ d p)))).g g=x.zpl (d.zqv p (zZ d p)):=Sc.zpj (zK A);rw[Sc.zpD,e,hd];simp only;split
 ·rfl
 ·rw[B,yK];have D:(S.zpd g ((x.zpl (d.zqv p (zZ d p))).zpm (zJ (x.zpl (d.zqv p (zZ d p))).line p))).g g=(x.zpl (d.zqv p (zZ d p))).zpm (zJ (x.zpl (d.zqv p (zZ d p))).line p):=Sc.zpj (zK A);rw[D];rfl
def Sc.zrj(S:Sc)(l:List Nat):Prop:=∀g∈l,∃x d,S.gs[g]?=some x/\x.there=true/\x.band=some d
theorem Sc.zrj.zqD{S S':Sc}{b:Nat}{l:List Nat}(h:S.zrj l)(M:S.zpJ S')(ok:S.Ok b)(A:S'.Ok b):S'.zrj l:=fun g J=>by obtain⟨x,d,G,D,hd⟩:=h g J;obtain⟨y,E,_,_,H,_,_⟩:=M.g g x G;have I:=ok.zqc G hd;obtain⟨d',B,_⟩:=A.band E (by rw[H];exact D) I;exact⟨y,d',E,by rw[H];exact D,B⟩
theorem zcw{b p:Nat}:∀(l:List Nat) {S:Sc} (h:S.Fit b) (hp:p<S.ps) (D:S.zrj l),(Sc.zpD p l S).1.Fit b/\S.zpJ (Sc.zpD p l S).1
 | [],S,h,hp,D=>⟨h,.refl S⟩
 | g::r,S,h,hp,D=>by
  obtain⟨x,d,A,J,hd⟩:=D g List.mem_cons_self;have I:=h.1.zqc A hd;obtain⟨d',B,h1,h2⟩:=h.1.band A J I;rw[hd]at B;obtain rfl:=Option.some.inj B;rw[uL A hd];obtain⟨f1,H⟩:=h.zpl (d':=d.zqv p (zZ d p)) A hd (fun M=>M.zqv (qw (by omega))) (zaQ _ _ _);split
  ·obtain⟨f2,E⟩:=zcw r f1 hp (Sc.zrj.zqD (fun g' G=>D g' (List.mem_cons_of_mem _ G)) H h.1 f1.1);exact⟨f2,H.trans E⟩
  ·obtain⟨f2,E⟩:=f1.zpm (l:=zJ x.line p) (zK A) I (uK hp);rw[yK]at f2 E;exact⟨zax f2 hp x.hi true,(H.trans E).zpf _ _⟩
theorem zbQ{p:Nat}:∀(l:List Nat) {S:Sc} {b:Nat} (h:S.Fit b) (hp:p<S.ps) (G:S.zrj l),(Sc.zpD p l S).2=false->∃g x,g∈l/\S.gs[g]?=some x/\(Sc.zpD p l S).1.hs p=(S.hs p).stop x.hi true
 | [],S,b,h,hp,G,hf=>by cases hf
 | g::r,S,b,h,hp,G,hf=>by
  obtain⟨x,d,B,I,hd⟩:=G g List.mem_cons_self;have J:=h.1.zqc B hd;obtain⟨d',E,h1,h2⟩:=h.1.band B I J;rw[hd]at E;obtain rfl:=Option.some.inj E;obtain⟨f1,N⟩:=h.zpl (d':=d.zqv p (zZ d p)) B hd (fun M=>M.zqv (qw (by omega))) (zaQ _ _ _);rw[uL B hd]at hf ⊢;split at hf
  ·rename_i hm;rw[if_pos hm];obtain⟨g',y,A,H,he⟩:=zbQ r f1 hp (Sc.zrj.zqD (fun g' A=>G g' (List.mem_cons_of_mem _ A)) N h.1 f1.1) hf;by_cases e:g'=g
   ·subst e;rw[zK B]at H;obtain rfl:=Option.some.inj H;exact⟨g',x,List.mem_cons_self,B,he⟩
   ·have D:(S.gs.set g (x.zpl (d.zqv p (zZ d p))))[g']?=some y:=H;rw[List.getElem?_set_ne (Ne.symm e)]at D;exact⟨g',y,List.mem_cons_of_mem _ A,D,he⟩
  ·rename_i hm;rw[if_neg hm];exact⟨g,x,List.mem_cons_self,B,by show zpt S.hs p _ p=_;rw[zy]⟩
theorem uM{g:Gp}(h:g.limited=true):∃d,g.band=some d:=by
 unfold Gp.limited at h;cases hb:g.band with
 | none=>rw[hb]at h;cases h
 | some d=>exact⟨d,rfl⟩
theorem Sc.Ok.zqQ{S:Sc}{b:Nat}(ok:S.Ok b){n:Nat}{g:Gp}(D:S.gs[n]?=some g)(G:g.there=true):∀m∈S.zqd n,∃y,S.gs[m]?=some y/\y.there=true/\y.hi∈zqT S.tree.l g.hi:=fun m hm=>by unfold Sc.zqd at hm;rw[Sc.zpj D]at hm;obtain⟨i,E,rfl⟩:=List.mem_map.1 hm;obtain⟨_,k,y,H,I,B,A⟩:=ok.path D G E;rw[H];exact⟨y,I,B,by rw[A];exact E⟩
theorem zbR{S:Sc}{b:Nat}(ok:S.Ok b){n:Nat}{g:Gp}(G:S.gs[n]?=some g)(H:g.there=true):S.zrj (S.limited (S.zqd n)):=fun m hm=>by unfold Sc.limited at hm;obtain⟨E,B⟩:=List.mem_filter.1 hm;obtain⟨y,D,A,_⟩:=ok.zqQ G H m E;rw[Sc.zpj D]at B;obtain⟨d,hd⟩:=uM B;exact⟨y,d,D,A,hd⟩
theorem zbk{S:Sc}{b:Nat}(h:S.Fit b){p:Nat}(hp:p<S.ps):(S.zpx p).Fit b:=zmU h hp
theorem zhf(S:Sc)(p:Nat):S.zpJ (S.zpx p):=(Sc.zpJ.refl S).zpf _ _
theorem Sc.Fit.run{S:Sc}{b:Nat}(h:S.Fit b){p:Nat}(hp:p<S.ps)(G:S.running p≠ -1):∃(n:Nat) (t:Tk) (g:Gp),S.running p=n/\S.ts[n]?=some t/\t.on=true/\t.p=p/\S.gs[t.zpc]?=some g/\g.there=true/\(S.hs p).running≠ -1:=by obtain⟨n,t,H,B,D,E,I⟩:=h.1.runs hp (h.2 p hp) G;obtain⟨g,J,A⟩:=(h.1.on B D).zpc;exact⟨n,t,g,H,B,D,E,J,A,I⟩
theorem uN{S:Sc}{p:Nat}(h:(S.zpx p).running p= -1):S.choose p=((S.zpx p).zpG p (((S.zpx p).cs p).begin (-1)),true):=by unfold Sc.choose;simp only;rw[if_pos h]
theorem uO{S:Sc}{p n:Nat}{t:Tk}(h:(S.zpx p).running p=n)(B:S.ts[n]?=some t):S.choose p=(let r:=Sc.zpD p ((S.zpx p).limited ((S.zpx p).zqd t.zpc)) (S.zpx p);if r.2=true then(r.1.zpG p ((r.1.cs p).begin n),true)else(r.1,false)):=by
 unfold Sc.choose;simp only;have A:¬((S.zpx p).running p= -1):=by omega
 rw[if_neg A,h,Int.toNat_natCast];have e:(S.zpx p).t n=t:=Sc.zp0 B;rw[e]
theorem zdT{S:Sc}{b:Nat}(h:S.Fit b){p:Nat}(hp:p<S.ps):(S.choose p).1.Fit b/\S.zpJ (S.choose p).1:=by
 have f1:=zbk h hp;have D:=zhf S p;have A:p<(S.zpx p).ps:=hp;by_cases H:(S.zpx p).running p= -1
 ·rw[uN H];obtain⟨B,c2⟩:=f1.1.ck p A;exact⟨f1.zpG p ⟨B.begin (by omega) (by omega),(zcd _ _).trans c2⟩,D.zpG _ _⟩
 ·obtain⟨n,t,g,I,G,h3,h4,J,M,_⟩:=f1.run A H;rw[uO I G];simp only;obtain⟨f2,E⟩:=zcw _ f1 A (zbR f1.1 J M);have h7:n<S.ts.length:=(ze G).1;have h0:=h.1.tl;have h8:=h.1.zqg;split
  ·obtain⟨B,c2⟩:=f2.1.ck p (by rw[E.ps];exact hp);exact⟨f2.zpG p ⟨B.begin (by omega) (by omega),(zcd _ _).trans c2⟩,(D.trans E).zpG _ _⟩
  ·exact⟨f2,D.trans E⟩
theorem zhg{S:Sc}{b:Nat}(h:S.Fit b){p:Nat}(hp:p<S.ps)(E:(S.choose p).2=false):((S.choose p).1.hs p).going<(S.hs p).going:=by
 have f1:=zbk h hp;have A:p<(S.zpx p).ps:=hp;by_cases f:(S.zpx p).running p= -1
 ·rw[uN f]at E;cases E
 ·obtain⟨n,t,g,Y,X,h3,h4,R,j,_⟩:=f1.run A f;have M:=uO Y X;simp only at M;rw[M]at E ⊢;have l:=zbR f1.1 R j;split at E
  ·cases E
  ·rename_i a;rw[if_neg a];obtain⟨m,x,hm,I,he⟩:=zbQ _ f1 A l (by simpa using a);rw[he];unfold Sc.limited at hm;obtain⟨U,G⟩:=List.mem_filter.1 hm;obtain⟨y,c,H,O⟩:=f1.1.zqQ R j m U;rw[I]at c;obtain rfl:=Option.some.inj c;obtain⟨z,Z,J⟩:=f1.1.ztD A (f1.2 p A) X Y R _ O;rw[Sc.zpj I]at G;obtain⟨d,hd⟩:=uM G;have T:=f1.1.zqc I hd;have hi0:x.hi≠0:=by intro e;obtain⟨_,D⟩:=f1.1.gk m x I H;obtain⟨k,V,o,_,ztm,_⟩:=f1.1.g0;obtain⟨_,B⟩:=f1.1.gk 0 k V ztm;rw[o]at B;rw[e,B]at D;exact T (Option.some.inj D).symm
   have N:z.st=false:=by
    have:=f1.1.hf p A x.hi z Z hi0;rw[J]at this;unfold Gr.zpr at this;cases hs:z.st with
    | false=>rfl
    | true=>rw[hs]at this;simp at this
   have h0:=zkR Z (f1.1.hi I H) N;have h7:((S.zpx p).hs p).going=(S.hs p).going:=by show(zpt S.hs p (S.hs p).pick.1 p).going=_;rw[zy,ziJ]
   omega
theorem zcx{b p:Nat}:∀(k:Nat) {S:Sc} (h:S.Fit b) (hp:p<S.ps),(Sc.zpN p k S).Fit b/\S.zpJ (Sc.zpN p k S)
 | 0,S,h,hp=>⟨h,.refl S⟩
 | k+1,S,h,hp=>by
  obtain⟨f1,A⟩:=zdT h hp;unfold Sc.zpN;split
  ·exact⟨f1,A⟩
  ·obtain⟨f2,B⟩:=zcx k f1 (by rw[A.ps];exact hp);exact⟨f2,A.trans B⟩
theorem zbl{S:Sc}{b:Nat}(h:S.Fit b):∀p,p<=S.ps->(S.choice p).Fit b/\S.zpJ (S.choice p)
 | 0,_=>⟨h,.refl S⟩
 | p+1,hp=>by obtain⟨f1,A⟩:=zbl h p (by omega);obtain⟨f2,B⟩:=zcx 40 f1 (p:=p) (by rw[A.ps];omega);exact⟨f2,A.trans B⟩
theorem zmW{S:Sc}{b:Nat}(h:S.Fit b){g p:Nat}{x:Gp}{d:zqL}(B:S.gs[g]?=some x)(E:x.there=true)(hd:x.band=some d)(hp:p<S.ps):(S.zpd g (x.zpl (d.back p (zZ d p)))).Fit b/\S.zpJ (S.zpd g (x.zpl (d.back p (zZ d p)))):=by obtain⟨d',A,h1,h0⟩:=h.1.band B E (h.1.zqc B hd);rw[hd]at A;obtain rfl:=Option.some.inj A;exact h.zpl B hd (fun D=>D.back (qw (by omega))) (zmR _ _ _)
theorem zcg{S:Sc}{b:Nat}(h:S.Fit b){g:Nat}{x:Gp}(E:S.gs[g]?=some x)(D:x.there=true):∀k,k<=S.ps->(S.zqf g k).Fit b/\S.zpJ (S.zqf g k)
 | 0,_=>⟨h,.refl S⟩
 | k+1,hk=>by
  obtain⟨f1,A⟩:=zcg h E D k (by omega);obtain⟨y,B,_,_,G,_,_⟩:=A.g g x E;unfold Sc.zqf;simp only;rw[Sc.zpj B];cases hd:y.band with
  | none=>exact⟨f1,A⟩
  | some d=>
   simp only;split
   ·obtain⟨f2,H⟩:=zmW f1 B (by rw[G];exact D) hd (p:=k) (by rw[A.ps];omega);exact⟨f2,A.trans H⟩
   ·exact⟨f1,A⟩
theorem zdU{g k:Nat}{S:Sc}{x:Gp}{d:zqL}{p:Nat}{r:List Nat}(A:S.gs[g]?=some x)(hd:x.band=some d)(D:x.line=p::r)(hp:0<d.pool):Sc.serve g (k+1) S=if d.may (zZ d p)=true then Sc.serve g k ((S.zpd g ((x.zpm r).zpl (d.zqv p (zZ d p)))).zpf p ((S.hs p).stop x.hi false))
 else Sc.serve g k (S.zpd g (((x.zpm r).zpl (d.zqv p (zZ d p))).zpm (zJ r p))):=by
 have e:S.g g=x:=Sc.zpj A;have B:(S.zpd g ((x.zpm r).zpl (d.zqv p (zZ d p)))).g g=(x.zpm r).zpl (d.zqv p (zZ d p)):=Sc.zpj (zK A);rw[Sc.serve,e,hd,D];simp only;rw[if_pos hp,B];split
 ·rfl
 ·rw[yK]
theorem zch{g k:Nat}{S:Sc}{x:Gp}{d:zqL}(A:S.gs[g]?=some x)(hd:x.band=some d)(h:x.line= []∨¬0<d.pool):Sc.serve g k S=S:=by
 have e:S.g g=x:=Sc.zpj A;cases k with
 | zero=>rfl
 | succ k=>
  rw[Sc.serve,e,hd];cases hl:x.line with
  | nil=>rfl
  | cons p r=>
   simp only;rw[if_neg (h.resolve_left (by rw[hl];simp))]
theorem zdV{S:Sc}{b:Nat}(h:S.Fit b){g:Nat}{x:Gp}{d:zqL}{p:Nat}{r:List Nat}(B:S.gs[g]?=some x)(G:x.there=true)(hd:x.band=some d)(H:x.line=p::r):
 p<S.ps/\(S.zpd g (x.zpm r)).Fit b/\S.zpJ (S.zpd g (x.zpm r))/\(S.zpd g ((x.zpm r).zpl (d.zqv p (zZ d p)))).Fit b/\S.zpJ (S.zpd g ((x.zpm r).zpl (d.zqv p (zZ d p)))):=by
 have E:=h.1.zqc B hd;obtain⟨d',D,h1,h2⟩:=h.1.band B G E;rw[hd]at D;obtain rfl:=Option.some.inj D;have A:=(h.1.gx g x B G E).line;rw[H]at A;have hp:p<S.ps:=A.1 p List.mem_cons_self;obtain⟨f1,J⟩:=h.zpm (l:=r) B E fun I=>by rw[H]at I;exact zfJ I
 obtain⟨f2,M⟩:=f1.zpl (d:=d) (d':=d.zqv p (zZ d p)) (zK B) hd (fun N=>N.zqv (qw (by omega))) (zaQ _ _ _);rw[yK]at f2 M;exact⟨hp,f1,J,f2,J.trans M⟩
theorem zci{b g:Nat}:∀(k:Nat) {S:Sc} (h:S.Fit b) {x:Gp} (B:S.gs[g]?=some x) (D:x.there=true),(Sc.serve g k S).Fit b/\S.zpJ (Sc.serve g k S)
 | 0,S,h,x,B,D=>⟨h,.refl S⟩
 | k+1,S,h,x,B,D=>by
  cases hd:x.band with
  | none=>
   have e:Sc.serve g (k+1) S=S:=by rw[Sc.serve,Sc.zpj B,hd]
   rw[e];exact⟨h,.refl S⟩
  | some d=>
   by_cases A:x.line= []∨¬0<d.pool
   ·rw[zch B hd A];exact⟨h,.refl S⟩
   ·obtain⟨p,r,G⟩:∃p r,x.line=p::r:=by
     cases G:x.line with
     | nil=>exact absurd (.inl G) A
     | cons p r=>exact⟨p,r,rfl⟩
    have H:0<d.pool:=Decidable.not_not.1 fun M=>A (.inr M);obtain⟨hp,f1,n1,f2,I⟩:=zdV h B D hd G;rw[zdU B hd G H];split
    ·obtain⟨f3,E⟩:=zci k (zax f2 hp x.hi false) (x:=(x.zpm r).zpl (d.zqv p (zZ d p))) (zK B) D;exact⟨f3,(I.zpf _ _).trans E⟩
    ·obtain⟨f3,E⟩:=f2.zpm (l:=zJ r p) (zK B) (h.1.zqc B hd) (uK hp);rw[yK]at f3 E;obtain⟨f4,J⟩:=zci k f3 (x:=((x.zpm r).zpl (d.zqv p (zZ d p))).zpm (zJ r p)) (zK B) D;exact⟨f4,(I.trans E).trans J⟩
theorem zeL{S:Sc}{b:Nat}(h:S.Fit b){g:Nat}{x:Gp}(D:S.gs[g]?=some x)(B:x.there=true):(S.share g).Fit b/\S.zpJ (S.share g):=by obtain⟨f1,A⟩:=zcg h D B S.ps (zg _);obtain⟨y,G,_,_,E,_,_⟩:=A.g g x D;obtain⟨f2,H⟩:=zci 200 f1 G (by rw[E];exact B);exact⟨f2,A.trans H⟩
theorem zdW{b:Nat}:∀(l:List Nat) {S:Sc} (h:S.Fit b) (A:S.zrj l),(S.shares l).Fit b/\S.zpJ (S.shares l)
 | [],S,h,A=>⟨h,.refl S⟩
 | g::r,S,h,A=>by obtain⟨x,d,H,E,hd⟩:=A g List.mem_cons_self;obtain⟨f1,D⟩:=zeL h H E;obtain⟨f2,G⟩:=zdW r f1 (Sc.zrj.zqD (fun g' B=>A g' (List.mem_cons_of_mem _ B)) D h.1 f1.1);exact⟨f2,D.trans G⟩
theorem zhh{S:Sc}{b:Nat}(ok:S.Ok b):S.zrj (S.limited S.zrK):=fun m hm=>by unfold Sc.limited at hm;obtain⟨E,B⟩:=List.mem_filter.1 hm;unfold Sc.zrK at E;obtain⟨i,_,G⟩:=List.mem_filterMap.1 E;obtain⟨y,D,A,_⟩:=ok.pl _ _ G;rw[Sc.zpj D]at B;obtain⟨d,hd⟩:=uM B;exact⟨y,d,D,A,hd⟩
theorem zdX{S:Sc}{b:Nat}(h:S.Fit b):S.settle.Fit b/\S.zpJ S.settle:=by unfold Sc.settle;simp only;obtain⟨f1,A⟩:=zbj h 32;obtain⟨f2,B⟩:=zdW _ f1 (zhh f1.1);obtain⟨f3,D⟩:=zbl f2 _ (zg _);exact⟨f3,(A.zqD.trans B).trans D⟩
section
attribute [local go_sem ↓] Go.wp_at_zero Go.wp_at_succ
theorem vw(a:Int)(w:World)(F:Nat->Prop)(s:Nat)(S:Sc)(L:Lay)(h:zq w F s S L)(hn:S.ts.length<=100000):
 Calls prog 20 #[ptr s,.int .i64 a] w fun z w'=>z=.returned (zaV L.tb (S.tsk? a))/\w'=w:=by
 obtain⟨⟨va,vc,E⟩,H,A⟩:=h.zqi;have hl:=h.zqq.2;by_cases h0:a<0
 ·have e:S.tsk? a=none:=by unfold Sc.tsk?;rw[if_neg (by omega)]
  rw[e];rw[E]at H;clear h E e A;go_enter func20,ntmps20;go_wp2;go_ret;exact⟨rfl,rfl⟩
 ·by_cases h1:(S.ts.length:Int)<=a
  ·have e:S.tsk? a=none:=by unfold Sc.tsk?;rw[if_neg (by omega)]
   rw[e];rw[E]at H;clear h E e A;go_enter func20,ntmps20;go_wp2;go_ret;exact⟨rfl,rfl⟩
  ·obtain⟨k,rfl⟩:∃k:Nat,a=k:=⟨a.toNat,by omega⟩
   have I:k<S.ts.length:=by omega
   obtain⟨r,cap,D,hc,h4⟩:=A k I;rw[D]at H;have G:(k:Int) <(S.ts.length:Int):=by omega
   obtain⟨t,B⟩:∃t,S.ts[k]?=some t:=⟨_,List.getElem?_eq_getElem I⟩
   obtain⟨-,-,t2,-⟩:=(h.tk B).zq7;have h2:=(h.tk B).lt;have e:S.tsk? (k:Int)=if t.dead=true then none else some k:=by
    unfold Sc.tsk?;rw[Int.toNat_natCast,Sc.zp0 B];by_cases hd:t.dead=true
    ·rw[if_pos hd,if_neg];rintro⟨_,_,M⟩;rw[hd]at M;cases M
    ·rw[if_neg hd,if_pos ⟨by omega,G,by simpa using hd⟩]
   rw[e];clear E D A e h;by_cases hd:t.dead=true
   ·rw[if_pos hd];rw[hd]at t2;clear hd B;go_enter func20,ntmps20;go_wp2;go_ret;exact⟨rfl,rfl⟩
   ·rw[if_neg hd];have J:t.dead=false:=by simpa using hd
    rw[J]at t2;clear hd B J;go_enter func20,ntmps20;go_wp2;go_ret;exact⟨rfl,rfl⟩
abbrev zpu(e:Ev):Array Value:=#[.int .i64 e.kind,.int .i64 e.a,.int .i64 e.b,.int .i64 e.n,.int .i64 e.m,.int .u64 e.mask]
theorem zmX(w:World)(e:Ev):(w.alloc (.cells (zpu e) 35)).cell? ⟨w.heap.size,1,none⟩=some (.int .i64 e.a):=by have h:=heap_alloc_new w (.cells (zpu e) 35);unfold World.cell?;show(match(w.alloc (.cells (zpu e) 35)).heap[w.heap.size]? with | some (.cells c _ _)=>c[1]? | _=>none)=_;rw[h];rfl
theorem zbS(e:Ev)(w:World)(F:Nat->Prop)(s:Nat)(S:Sc)(L:Lay)(h:zq w F s S L):
 Calls prog 93 #[ptr s,.agg (zpu e)] w fun z w'=>z=.returned (.tuple #[.int .i64 (S.zph e.a).1,.int .i64 (S.zph e.a).2])/\Below w.heap.size w w':=by
 obtain⟨w1,A⟩:=zh (w.alloc (.cells (zpu e) 35))
 have H:Below w.heap.size w w1:=by rw[A];exact zk w _
 have T:=h.behind H;have N:w1.cell? ⟨w.heap.size,1,none⟩=some (.int .i64 e.a):=by rw[A];exact zmX w e
 have E:=World.block_lt_of_cell? w1 _ N;have V:=zc (qm e.a w1 F s S L T);have O:=zc (yp e.a w1 F s S L T);have G:=zc H;obtain⟨D,J⟩:=zh w.heap.size
 have h0:=zc J;by_cases hp:S.zqM e.a
 ·have hd:decide (S.zqM e.a)=true:=by simp[hp]
  rw[hd]at V;rw[if_pos hp]at O;by_cases U:S.running e.a.toNat= -1
  ·have B:S.zph e.a=(0,7):=by unfold Sc.zph;rw[if_neg (by simpa using hp),if_pos U]
   rw[B];rw[U]at O;clear U B hd hp h T H;go_enter func93,ntmps93;go_wp2_with fail;rw[show w.alloc (.cells (zpu e) 35)=w1 from A.symm];clear A;rw[<-J]at N E ⊢;clear J;refine V.out.mono ?_;rintro z Y ⟨rfl,hw⟩;obtain rfl:=hw.symm;go_wp2_with fail;refine O.out.mono ?_;rintro z Z ⟨rfl,I⟩;have M:=zc (zj G.out I G.out.size);clear I N E;go_wp2;go_ret2;exact⟨rfl,M.out⟩
  ·have B:S.zph e.a=(S.running e.a.toNat,0):=by unfold Sc.zph;rw[if_neg (by simpa using hp),if_neg U]
   rw[B];obtain⟨X,R⟩:=zh (S.running e.a.toNat)
   rw[<-R]at O U ⊢;clear B hd hp h T H R;go_enter func93,ntmps93;go_wp2_with fail;rw[show w.alloc (.cells (zpu e) 35)=w1 from A.symm];clear A;rw[<-J]at N E ⊢;clear J;refine V.out.mono ?_;rintro z Y ⟨rfl,hw⟩;obtain rfl:=hw.symm;go_wp2_with fail;refine O.out.mono ?_;rintro z Z ⟨rfl,I⟩;have M:=zc (zj G.out I G.out.size);clear I N E;go_wp2;go_ret2;exact⟨rfl,M.out⟩
 ·have hd:decide (S.zqM e.a)=false:=by simp[hp]
  rw[hd]at V;have B:S.zph e.a=(0,1):=by unfold Sc.zph;rw[if_pos (by simpa using hp)]
  rw[B];clear B hd hp h T H O;go_enter func93,ntmps93;go_wp2_with fail;rw[show w.alloc (.cells (zpu e) 35)=w1 from A.symm];clear A;rw[<-J]at N E ⊢;clear J;refine V.out.mono ?_;rintro z Y ⟨rfl,hw⟩;obtain rfl:=hw.symm;clear N E;go_wp2;go_ret2;exact⟨rfl,G.out⟩
theorem uP(n:Int)(w:World):Calls prog 71 #[.int .i64 n] w fun z w'=>z=.returned (.bool (xg n))/\w'=w:=by
 unfold xg;by_cases B:2<=n
 ·by_cases A:n<=262144
  ·rw[decide_eq_true ⟨B,A⟩];go_enter func71,ntmps71;go_wp2;go_ret;exact⟨rfl,rfl⟩
  ·rw[decide_eq_false (fun h=>A h.2)];go_enter func71,ntmps71;go_wp2;go_ret;exact⟨rfl,rfl⟩
 ·rw[decide_eq_false (fun h=>B h.1)];go_enter func71,ntmps71;go_wp2;go_ret;exact⟨rfl,rfl⟩
theorem yw{S:Sc}{a:Int}{g:Nat}(h:S.grp? a=some g):a=g/\∃x,S.gs[g]?=some x/\x.there=true/\S.g g=x:=by
 unfold Sc.grp? at h;split at h
 ·rename_i B;obtain rfl:=Option.some.inj h;obtain⟨x,A⟩:∃x,S.gs[a.toNat]?=some x:=⟨_,List.getElem?_eq_getElem (by omega)⟩
  refine⟨by omega,x,A,?_,Sc.zpj A⟩;have:=B.2.2;rw[Sc.zpj A]at this;exact this
 ·cases h
def zp1(w:World)(D:Nat)(e:Ev):Prop:=w.heap[D]?=some (.cells (zpu e) 35 (0,0))
theorem zp1.new(w:World)(e:Ev):zp1 (w.alloc (.cells (zpu e) 35)) w.heap.size e:=heap_alloc_new w _
theorem zp1.lt{w:World}{D:Nat}{e:Ev}(h:zp1 w D e):D<w.heap.size:=(zd h).1
theorem zp1.behind{w w':World}{D:Nat}{e:Ev}(h:zp1 w D e)(hb:Below w.heap.size w w'):zp1 w' D e:=(hb.block D h.lt).trans h
theorem zp1.c6{w:World}{D:Nat}{e:Ev}(h:zp1 w D e):w.cell? ⟨D,0,none⟩=some (.int .i64 e.kind)/\w.cell? ⟨D,1,none⟩=some (.int .i64 e.a)/\w.cell? ⟨D,2,none⟩=some (.int .i64 e.b)/\w.cell? ⟨D,3,none⟩=some (.int .i64 e.n)/\w.cell? ⟨D,4,none⟩=some (.int .i64 e.m)/\w.cell? ⟨D,5,none⟩=some (.int .u64 e.mask):=by unfold zp1 at h;refine⟨?_,?_,?_,?_,?_,?_⟩ <;> simp[World.cell?,h]
def zq1(w:World)(F:Nat->Prop)(s:Nat)(L:Lay)(o:Out)(z:Ending)(w':World):Prop:=z=.returned (.tuple #[.int .i64 o.2.1,.int .i64 o.2.2])/\zn w F s o.1 L w'
theorem zfK(e:Ev)(b:Nat)(w:World)(F:Nat->Prop)(s:Nat)(S:Sc)(L:Lay)(h:zq w F s S L)(ok:S.Ok b):
 Calls prog 42 #[ptr s,.agg (zpu e)] w (zq1 w F s L (S.zp3 e)):=by
 obtain⟨w1,A⟩:=zh (w.alloc (.cells (zpu e) 35))
 have N:Below w.heap.size w w1:=by rw[A];exact zk w _
 have c:=h.behind N;have U:zp1 w1 w.heap.size e:=by rw[A];exact zp1.new w e
 have E:Hid (zn w F s S L w1):=zc ((zn.refl h).below N);have R:=zc (yN e.a w1 F s S L c (by have:=ok.gl;have:=ok.zqg;omega));have Y:=zc (uP e.n);have Z:=zc c;obtain⟨D,H⟩:=zh w.heap.size
 rw[<-H]at U;have HE:=zc U;obtain⟨-,l,-,e3,-,-⟩:=U.c6;have h3:=U.lt;clear h c N U;obtain⟨O,G⟩:=zh (S.zp3 e)
 have HO:=zc G;rw[<-G];unfold zq1;cases hg:S.grp? e.a with
 | none=>
  have J:O=(S,0,2):=by rw[G];unfold Sc.zp3;rw[hg]
  subst J;rw[hg]at R;clear G hg ok;go_enter func42,ntmps42;go_wp2_with fail;rw[show w.alloc (.cells (zpu e) 35)=w1 from A.symm,<-H];clear A H;refine R.out.mono ?_;rintro z X ⟨rfl,hw⟩;obtain rfl:=hw.symm;go_wp2;go_ret2;exact⟨rfl,E.out⟩
 | some g=>
  obtain⟨f,x,V,M,I⟩:=yw hg;rw[hg,show zaV L.gb (some g)=ptr (L.gb g)from rfl]at R;have j:=zc V;by_cases T:e.a=0
  ·have J:O=(S,0,1):=by rw[G];unfold Sc.zp3;rw[hg];simp[T]
   subst J;rw[T]at l;clear G hg ok V M I f T;go_enter func42,ntmps42;go_wp2_with fail;rw[show w.alloc (.cells (zpu e) 35)=w1 from A.symm,<-H];clear A H;refine R.out.mono ?_;rintro z X ⟨rfl,hw⟩;obtain rfl:=hw.symm;go_wp2;go_ret2;exact⟨rfl,E.out⟩
  ·cases hwb:xg e.n with
   | false=>
    have J:O=(S,0,4):=by rw[G];unfold Sc.zp3;rw[hg];simp[T,hwb]
    subst J;rw[hwb]at Y;clear G hg ok V M I f hwb;go_enter func42,ntmps42;go_wp2_with fail;rw[show w.alloc (.cells (zpu e) 35)=w1 from A.symm,<-H];clear A H;refine R.out.mono ?_;rintro z X ⟨rfl,hw⟩;obtain rfl:=hw.symm;go_wp2_with fail;refine(Y.out _).mono ?_;rintro z X ⟨rfl,hw⟩;obtain rfl:=hw.symm;go_wp2;go_ret2;exact⟨rfl,E.out⟩
   | true=>
    have J:O=(S.zpd g { x with shares:=e.n },0,0):=by rw[G];unfold Sc.zp3;rw[hg];simp[T,hwb,I]
    subst J;have hn:2<=e.n/\e.n<=262144:=by unfold xg at hwb;simpa using hwb
    rw[hwb]at Y;have h4:IntKind.u64.wrap e.n=e.n:=by simp only[IntKind.wrap,IntKind.signed,IntKind.bits];simp;omega
    have B:=Z.out.gp V;obtain⟨g0,g1,g2,g3,g4,g5,g6⟩:=B.c7;have h5:=B.lt;have h2:=B.zpe;have d:=zc (E.out.then (E.out.1.zrz (g':={ x with shares:=e.n }) j.out rfl rfl rfl (zo8.refl (fun k=>k=L.gb g) w1).one (zi (i:=3) (u:=.int .u64 e.n) B)));clear G hg ok V M I f hwb B g0 g1 g2 g4 g5 g6;go_enter func42,ntmps42;go_wp2_with fail;rw[show w.alloc (.cells (zpu e) 35)=w1 from A.symm,<-H];clear A H;refine R.out.mono ?_;rintro z X ⟨rfl,hw⟩;obtain rfl:=hw.symm;go_wp2_with fail;refine(Y.out _).mono ?_;rintro z X ⟨rfl,hw⟩;obtain rfl:=hw.symm;go_wp2;go_ret2;exact⟨rfl,d.out⟩
theorem zkS:(prog.info? 4).map (fun i=>(i.zero,i.size,i.bytes))=some (some (.bool false),1,1):=by kernel_rfl
theorem zkT(f:Nat->Bool)(k:Nat):zs5 ((List.range (k+1)).map f)=zs5 ((List.range k).map f)++ [.bool (f k)]:=by rw[List.range_succ];simp[zs5]
theorem ym.zsw{w:World}{base:Nat}{e:TypeId}{a:Option Addr}{n c:Nat}{A:List Value}(B:w.ownsRow base e 1 (.slice a n c) n A):ym w a A:=by obtain⟨a',c',e,h⟩:=ym.zqA B;simp only[Value.slice.injEq]at e;rw[e.1];exact h
def ztl:Option Nat->Ending
 | none=>.returned (.tuple #[.int .i64 0,.bool false])
 | some p=>.returned (.tuple #[.int .i64 (p:Nat),.bool true])
theorem vy(prev:Int)(mask:Int)(b:Nat)(w:World)(F:Nat->Prop)(s:Nat)(S:Sc)(L:Lay)(h:zq w F s S L)(ok:S.Ok b)(hm:0<=mask)(Y:mask<=18446744073709551615)(hp:prev= -1∨∃p:Nat,prev=p/\p<S.ps):
 Calls prog 86 #[ptr s,.int .i64 prev,.int .u64 mask] w fun z w'=>z=ztl (S.free prev mask)/\Below w.heap.size w w':=by
 obtain⟨i0,hi,h3,h9,h5⟩:=info_parts zkS;have HH:=zc h;have h7:=zc ok;have HP:=zc hp;have HM:=zc hm;have ha:=zc Y;obtain⟨s0,h2⟩:=h.zqq;have Z:=ok.ps.2;obtain⟨f,hf⟩:∃f:Nat->Bool,f=fun p=>decide (S.running p≠ -1):=⟨_,rfl⟩
 have U:S.runs=(List.range S.ps).map f:=by unfold Sc.runs;rw[hf]
 have HF:=zc hf;obtain⟨n,hN⟩:=zh S.ps
 have K:=zc hN;rw[<-hN]at s0 Z U;have X:=zc U;obtain⟨O,W⟩:=zh (S.free prev mask)
 have h6:=zc W;rw[<-W];clear h ok hN hp hm Y hf U W;go_enter func86,ntmps86;go_wp2_with fail;clear s0 h2;go_loopw [8,9,17] (fun v _ i wr=>∃(k:Nat) (d:Option Addr) (x:Nat),k<=n/\i=.int .i64 k/\v=.slice d k x/\wr.ownsRow w.heap.size 4 1 (.slice d k x) k (zs5 ((List.range k).map f))/\Below w.heap.size w wr) (fun _ _ i _=>n-(intOf i).toNat)
 case atStart=>exact⟨0,none,0,by omega,rfl,rfl,by simpa[zs5]using World.ownsRow_nil _ _ _ _,Below.refl _ _⟩
 case round=>
  obtain⟨k,d,x,hk,rfl,rfl,M,hb⟩:=hrel;have C:=zc M;have P:=zc hb;have HS:=zc (HH.out.behind hb);clear M hb;by_cases Q:k<n
  ·have N:=zc (yp k wr F s S L HS.out);have J:S.zqM (k:Int):=⟨by omega,by rw[<-K.out];omega⟩
   rw[if_pos J,Int.toNat_natCast]at N;have I:=zc (zkT f k);obtain⟨y,hy⟩:=zh (S.running k)
   obtain⟨ys,m⟩:=zh (zs5 ((List.range k).map f))
   have o:f k=(y != -1):=by rw[HF.out,hy];by_cases e:S.running k= -1 <;> simp[e]
   rw[o]at I;rw[<-hy]at N;rw[<-m]at C I;have hg:(k:Int) <(n:Int):=by omega
   obtain⟨yb,R⟩:=zh ((y != -1))
   have h4:=zc R;rw[<-R]at I;clear hy m o J R;go_wp2_with fail;refine N.out.mono ?_;rintro z c ⟨rfl,E⟩;have a:=zc (yY C.out E);have D:=zc (zj P.out E P.out.size);clear E N;have hc:=D.out.size;go_wp2_with (at_builtin;go_loud (refine wpList_append_own _ rfl _ _ 230 rfl w.heap.size 4 i0 (.bool false) 1 1 underlying230 hi h3 h9 h5 rfl (by decide) _ k ys rfl (a.out.alloc _) ⟨c.heap.size,0,none⟩ 1 1 [.bool (y != -1)] rfl rfl ?c1 ?c2 ?c3 ?c4 ?c5 ?_))
   case c1=>exact World.news_of_block (cs:=#[.bool (y != -1)]) (t:=4) (fr:=(0,0)) (heap_alloc_new c _)
   case c2=>intro u hu;simp at hu;subst hu;rfl
   case c3=>unfold maxLen;omega
   case c4=>omega
   case c5=>simp;omega
   intro v' w5 A r _;rw[<-h4.out]at A;have B:Below w.heap.size w w5:=(D.out.alloc hc _).grown r (by simp;omega) fun j hj=>(a.out.lt j hj).1;have H:=zc B;have h1:=zc A;rcases A.2 with⟨_,h0⟩ | ⟨g,cap,cur,hv,_⟩
   ·omega
   subst hv;clear B A r;go_wp2_with fail;go_roundw
   case rel=>exact⟨k+1,_,_,by omega,by go_num,rfl,by rw[I.out];exact h1.out,H.out⟩
   case measure=>simp[intOf];omega
  ·have T:k=n:=by omega
   have HK:=zc T;rw[T]at C;have l:=zc (zcu b wr F s S L HS.out h7.out);rw[<-K.out]at l;clear Q;subst T;go_wp2_with fail;refine l.out.mono ?_;rintro z c ⟨la,lc,rfl,G,E⟩;have V:LR c S.zqm S.runs la d k:=⟨by rw[K.out];simp[Sc.zqm],by rw[X.out];simp,Z,ym.zsw G,by rw[X.out];exact ym.zsw (yY C.out E)⟩
   have N:=zc (zfD prev c S.zqm S.runs la k lc d x mask V HM.out ha.out (by rw[K.out];exact HP.out));have D:=zc (zj P.out E P.out.size);have h8:Hid (O=yS S.zqm S.runs prev mask):=zc h6.out;rw[<-h8.out]at N;clear G E V;cases O with
   | none=>
    go_wp2_with fail;refine N.out.mono ?_;rintro z w5 ⟨rfl,B⟩;have H:=zc (zj D.out B D.out.size);clear B;go_wp2;go_ret2;exact⟨rfl,H.out⟩
   | some q=>
    go_wp2_with fail;refine N.out.mono ?_;rintro z w5 ⟨rfl,B⟩;have H:=zc (zj D.out B D.out.size);clear B;go_wp2;go_ret2;exact⟨rfl,H.out⟩
theorem zdY{l:List Int}{run:List Bool}{prev mask:Int}{p:Nat}(h:yS l run prev mask=some p):p<l.length:=by
 unfold yS at h;cases hl:uc l mask with
 | none=>rw[hl]at h;cases h
 | some least=>
  rw[hl]at h;simp only at h;split at h
  ·rename_i A;obtain rfl:=Option.some.inj h;unfold xc at A;simp at A;omega
  ·split at h
   ·rename_i q B;obtain rfl:=Option.some.inj h;exact List.mem_range.1 (List.mem_of_find?_eq_some B)
   ·split at h
    ·rename_i hc;obtain rfl:=Option.some.inj h;omega
    ·obtain rfl:=Option.some.inj h;exact zaO hl
theorem qB{S:Sc}{a:Int}{n:Nat}(h:S.tsk? a=some n):a=n/\∃t,S.ts[n]?=some t/\t.dead=false/\S.t n=t:=by
 unfold Sc.tsk? at h;split at h
 ·rename_i B;obtain rfl:=Option.some.inj h;obtain⟨t,A⟩:∃t,S.ts[a.toNat]?=some t:=⟨_,List.getElem?_eq_getElem (by omega)⟩
  refine⟨by omega,t,A,?_,Sc.zp0 A⟩;have:=B.2.2;rw[Sc.zp0 A]at this;exact this
 ·cases h
def vz(x:Option Nat):Nat:=x.getD 0
def zcy(x:Option Nat):Bool:=x.isSome
theorem uw(x:Option Nat):ztl x=.returned (.tuple #[.int .i64 (vz x),.bool (zcy x)]):=by cases x <;> rfl
theorem zdZ{S:Sc}{b:Nat}(ok:S.Ok b)(prev mask:Int):vz (S.free prev mask) <S.ps:=by
 unfold vz;cases h:S.free prev mask with
 | none=>have:=ok.ps;show 0<_;omega
 | some p=>
  have:=zdY h;rw[ok.zqm.2]at this;exact this
theorem zjO{S:Sc}{e:Ev}{n:Nat}{t:Tk}(h:S.tsk? e.a=some n)(B:S.t n=t)(A:t.on=false):S.zrb e=(S.put n (vz (S.free t.p t.mask)) true,((vz (S.free t.p t.mask):Nat):Int),0):=by unfold Sc.zrb;simp only[h,B];rw[if_neg (by rw[A];decide)];unfold vz;cases S.free t.p t.mask <;> rfl
theorem ziK(e:Ev)(b:Nat)(w:World)(F:Nat->Prop)(s:Nat)(S:Sc)(L:Lay)(h:zq w F s S L)(ok:S.Ok b):
 Calls prog 46 #[ptr s,.agg (zpu e)] w (zq1 w F s L (S.zrb e)):=by
 obtain⟨w1,B⟩:=zh (w.alloc (.cells (zpu e) 35))
 have E:Below w.heap.size w w1:=by rw[B];exact zk w _
 have I:=h.behind E;have J:Hid (zn w F s S L w1):=zc ((zn.refl h).below E);have O:=zc (vw e.a w1 F s S L I (by have:=ok.tl;have:=ok.zqg;omega));have h3:=zc I;unfold zq1;cases hg:S.tsk? e.a with
 | none=>
  have T:S.zrb e=(S,0,2):=by unfold Sc.zrb;rw[hg]
  rw[T];rw[hg]at O;clear T hg ok h I E;go_enter func46,ntmps46;go_wp2_with fail;rw[show w.alloc (.cells (zpu e) 35)=w1 from B.symm];clear B;refine O.out.mono ?_;rintro z X ⟨rfl,hw⟩;obtain rfl:=hw.symm;go_wp2;go_ret2;exact⟨rfl,J.out⟩
 | some n=>
  obtain⟨j,t,M,hd,H⟩:=qB hg;rw[hg,show zaV L.tb (some n)=ptr (L.tb n)from rfl]at O;obtain⟨-,-,-,t3,t4,-,-,-,t8,-⟩:=(I.tk M).zq7;have D:=(I.tk M).lt;cases hon:t.on with
  | true=>
   have T:S.zrb e=(S,0,7):=by unfold Sc.zrb;simp only[hg,H];rw[if_pos hon]
   rw[T];rw[hon]at t3;clear T hg ok h I E j M hd H t4 t8 hon;go_enter func46,ntmps46;go_wp2_with fail;rw[show w.alloc (.cells (zpu e) 35)=w1 from B.symm];clear B;refine O.out.mono ?_;rintro z X ⟨rfl,hw⟩;obtain rfl:=hw.symm;go_wp2;go_ret2;exact⟨rfl,J.out⟩
  | false=>
   rw[zjO hg H hon];have Y:=ok.tk n t M hd;have U:=zdZ ok t.p t.mask;have G:=zc (vy t.p t.mask b w1.drew F s S L (I.kept fun k _ _=>rfl) ok Y.mask.1 Y.mask.2 (.inr ⟨t.p,rfl,Y.zqN⟩));rw[uw]at G;obtain⟨q,g⟩:=zh (vz (S.free t.p t.mask))
   obtain⟨f,R⟩:=zh (zcy (S.free t.p t.mask))
   rw[<-g]at G U ⊢;rw[<-R]at G;have Z:=zc (fun X d (m:zq X d s S L)=>zaR n q true t b X d s S L m ok M hd hon U);rw[hon]at t3;have h0:q<1000:=by have:=ok.ps.2;omega
   clear hg ok h I E j M hd H hon Y g R;go_enter func46,ntmps46;go_wp2_with fail;rw[show w.alloc (.cells (zpu e) 35)=w1 from B.symm];clear B;refine O.out.mono ?_;rintro z X ⟨rfl,hw⟩;obtain rfl:=hw.symm;go_wp2_with fail;go_region_held3 (fun w'=>w'.cell? ⟨L.tb n,4,none⟩=some (.int .i64 t.p)/\w'.cell? ⟨L.tb n,8,none⟩=some (.int .u64 t.mask)) (go_keep)
    (first
     | (
      go_at_call 86;refine G.out.mono ?_;rintro z l ⟨rfl,A⟩;have V:=zc (J.out.below (show Below w1.heap.size w1 l from⟨A.os,A.tape,A.output,A.size,A.block⟩));replace t4:=(A.cell (p:=⟨L.tb n,4,none⟩) D).trans t4;replace t8:=(A.cell (p:=⟨L.tb n,8,none⟩) D).trans t8;replace D:=zf D A.size;clear A t3))
   all_goals
    go_wp2_with fail;refine(Z.out _ _ V.out.1).mono ?_;rintro z w5 ⟨⟨v,rfl⟩,N⟩;have c:=zc (V.out.then N);clear N t4 t8 D;go_wp2;go_ret2;exact⟨rfl,c.out⟩
end
theorem Sc.Ok.more{S:Sc}{b:Nat}(ok:S.Ok b)(hb:b<900):S.Ok (b+1):=
 ⟨hb,ok.ps,ok.tick,ok.credit,ok.lat,ok.tr,ok.tok.more,ok.zsf.more,Nat.le_succ_of_le ok.tl,⟨ok.gl.1,by have:=ok.gl.2;omega⟩,ok.g0,ok.gk,ok.pl,ok.gu,
  fun n g I E H=>by obtain⟨D,⟨d,hd,B,A⟩,G⟩:=ok.gx n g I E H;exact⟨D,⟨d,hd,B,A.more⟩,G⟩,
  ok.tk,ok.dead,ok.hk,ok.hu,ok.hc,ok.hf,ok.ev,fun p hp=>⟨(ok.ck p hp).1.more,(ok.ck p hp).2⟩,
  ⟨ok.bk.bt,ok.bk.bg,⟨ok.bk.total.1,by have:=ok.bk.total.2;omega⟩,by have:=ok.bk.many;omega⟩⟩
theorem Sc.Fit.more{S:Sc}{b:Nat}(h:S.Fit b)(hb:b<900):S.Fit (b+1):=⟨h.1.more hb,h.2⟩
theorem Sc.Ok.zps{S:Sc}{b:Nat}(ok:S.Ok b){n:Nat}{t t':Tk}(H:S.ts[n]?=some t)(R:t'.on=t.on)(U:t'.p=t.p)(V:t'.zpc=t.zpc)(X:t'.hi=t.hi)(T:t'.dead=t.dead)(O:t.dead=false->zdN S n t->zdN S n t'):(S.zps n t').Ok b:=by
 have h4:=(ze H).1;refine⟨ok.zqg,ok.ps,ok.tick,ok.credit,ok.lat,ok.tr,ok.tok,ok.zsf,?_,ok.gl,ok.g0,ok.gk,ok.pl,ok.gu,?_,?_,?_,ok.hk,ok.hu,ok.hc,ok.hf,?_,ok.ck,ok.bk⟩
 ·show(S.ts.set n t').length<=b;rw[List.length_set];exact ok.tl
 ·intro k y G N Z;obtain⟨a,Y,c⟩:=ok.gx k y G N Z;exact⟨a,Y,c⟩
 ·intro k u hu M;rcases zT hu with⟨rfl,rfl⟩ | ⟨I,hu⟩
  ·have hd:t.dead=false:=by rw[<-T];exact M
   exact(O hd (ok.tk k t H hd)).of rfl rfl rfl rfl
  ·exact(ok.tk k u hu M).of rfl rfl rfl rfl
 ·intro k u hu J;rcases zT hu with⟨rfl,rfl⟩ | ⟨I,hu⟩
  ·rw[T];exact ok.dead k t H (by rw[<-R];exact J)
  ·exact ok.dead k u hu J
 ·intro p hp i k;rw[show((S.zps n t').hs p).even i k↔(S.hs p).even i k from Iff.rfl,ok.ev p hp i k];constructor
  ·rintro⟨m,u,y,hu,D,A,G,B,E⟩;by_cases e:m=n
   ·subst e;rw[H]at hu;obtain rfl:=Option.some.inj hu;exact⟨m,t',y,xu H,R.trans D,U.trans A,by rw[V];exact G,B,by rw[X];exact E⟩
   ·exact⟨m,u,y,by show(S.ts.set n t')[m]?=_;rw[List.getElem?_set_ne (Ne.symm e)];exact hu,D,A,G,B,E⟩
  ·rintro⟨m,u,y,hu,D,A,G,B,E⟩;rcases zT hu with⟨rfl,rfl⟩ | ⟨I,hu⟩
   ·exact⟨m,t,y,H,R.symm.trans D,U.symm.trans A,by rw[<-V];exact G,B,by rw[<-X];exact E⟩
   ·exact⟨m,u,y,hu,D,A,G,B,E⟩
theorem Sc.Fit.zps{S:Sc}{b:Nat}(h:S.Fit b){n:Nat}{t t':Tk}(I:S.ts[n]?=some t)(D:t'.on=t.on)(H:t'.p=t.p)(E:t'.zpc=t.zpc)(G:t'.hi=t.hi)(B:t'.dead=t.dead)(A:t.dead=false->zdN S n t->zdN S n t'):(S.zps n t').Fit b:=
 ⟨h.1.zps I D H E G B A,h.2⟩
theorem Sc.Ok.kill{S:Sc}{b:Nat}(ok:S.Ok b)(hb:b<900){n:Nat}{t:Tk}(I:S.ts[n]?=some t)(G:t.on=false)(hd:t.dead=false):({ S.zps n { t with dead:=true }with pool:=S.pool.zsC t.hi t.hg }:Sc).Ok (b+1):=by
 have hm:=ok.more hb;have h4:=(ze I).1;have a:=ok.tk n t I hd;obtain⟨q0,N,T,U⟩:=a.pool;have V:S.pool.find t.hi t.hg=some t.hi:=by unfold Pi.Ps.find;rw[Int.toNat_natCast,N];simp[T,U]
 refine⟨hm.zqg,ok.ps,ok.tick,ok.credit,ok.lat,ok.tr,hm.tok,?_,?_,hm.gl,ok.g0,ok.gk,ok.pl,ok.gu,?_,?_,?_,ok.hk,ok.hu,ok.hc,ok.hf,?_,hm.ck,hm.bk⟩
 ·exact ok.zsf.zsC _ _
 ·show(S.ts.set n _).length<=b+1;rw[List.length_set];exact hm.tl
 ·intro k y d R Y;obtain⟨c,X,f⟩:=hm.gx k y d R Y;exact⟨c,X,f⟩
 ·intro k u hu D;rcases zT hu with⟨rfl,rfl⟩ | ⟨B,hu⟩
  ·cases D
  ·have h:=ok.tk k u hu D;refine⟨h.zpc,?_,h.hi,h.at_,h.zqN,h.wt,h.mask,h.e,h.nice,h.min⟩;obtain⟨q,Z,J,M⟩:=h.pool;have H:t.hi≠u.hi:=fun e=>B (ok.one hu D I hd e.symm);refine⟨q,?_,J,M⟩;show(S.pool.zsC t.hi t.hg).l[u.hi]?=some q;unfold Pi.Ps.zsC;rw[V];simp only;rw[List.getElem?_set_ne H];exact Z
 ·intro k u hu E;rcases zT hu with⟨rfl,rfl⟩ | ⟨B,hu⟩
  ·rw[show t.on=true from E]at G;cases G
  ·exact ok.dead k u hu E
 ·intro p hp i k;rw[show(({ S.zps n { t with dead:=true }with pool:=S.pool.zsC t.hi t.hg }:Sc).hs p).even i k↔(S.hs p).even i k from Iff.rfl,ok.ev p hp i k];constructor
  ·rintro⟨m,u,y,hu,A,O⟩;have e:m≠n:=by rintro rfl;rw[I]at hu;obtain rfl:=Option.some.inj hu;rw[G]at A;cases A
   exact⟨m,u,y,by show(S.ts.set n _)[m]?=_;rw[List.getElem?_set_ne (Ne.symm e)];exact hu,A,O⟩
  ·rintro⟨m,u,y,hu,A,O⟩;rcases zT hu with⟨rfl,rfl⟩ | ⟨B,hu⟩
   ·rw[show t.on=true from A]at G;cases G
   ·exact⟨m,u,y,hu,A,O⟩
theorem zmY{S:Sc}{b:Nat}(h:S.Fit b)(hb:b<900){n:Nat}{t:Tk}(B:S.ts[n]?=some t)(A:t.on=false)(hd:t.dead=false):({ S.zps n { t with dead:=true }with pool:=S.pool.zsC t.hi t.hg }:Sc).Fit (b+1):=⟨h.1.kill hb B A hd,h.2⟩
theorem qn{S:Sc}{n:Nat}{t:Tk}(A:S.ts[n]?=some t):∃t1,(S.leave n).ts[n]?=some t1/\t1.on=false/\t1.dead=t.dead/\t1.hi=t.hi/\t1.hg=t.hg/\t1.mask=t.mask/\t1.p=t.p/\t1.zpc=t.zpc:=by
 have B:=(ze A).1;have hs:=Sc.zp0 A;refine⟨{ S.t n with min:=S.least n (S.t n).p,e:=(S.hs (S.t n).p).gone (S.g (S.t n).zpc).hi (S.t n).hi,on:=false },?_,rfl,?_,?_,?_,?_,?_,?_⟩
 ·show(S.ts.set n _)[n]?=_;rw[List.getElem?_set_self B]
 all_goals rw[hs]
theorem zcV{S:Sc}{b:Nat}(ok:S.Ok b){prev mask:Int}{p:Nat}(h:S.free prev mask=some p):p<S.ps:=by have:=zdY h;rw[ok.zqm.2]at this;exact this
theorem vA{S:Sc}{b:Nat}(h:S.Fit b){a:Int}(B:(S.zph a).2=0):∃(p n:Nat) (t:Tk),a=p/\p<S.ps/\S.zph a=((n:Int),0)/\S.running p=(n:Nat)/\S.ts[n]?=some t/\t.on=true/\t.p=p/\(S.hs p).running≠ -1:=by
 unfold Sc.zph at B ⊢;by_cases hp:S.zqM a
 ·rw[if_neg (by simpa using hp)]at B ⊢;obtain⟨p,rfl⟩:∃p:Nat,a=p:=⟨a.toNat,by have:=hp.1;omega⟩
  have A:p<S.ps:=by have:=hp.2;omega
  rw[Int.toNat_natCast]at B ⊢;by_cases D:S.running p= -1
  ·rw[if_pos D]at B;cases B
  ·rw[if_neg D];obtain⟨n,t,E,J,H,I,G⟩:=h.1.runs A (h.2 p A) D;exact⟨p,n,t,rfl,A,by rw[E],E,J,H,I,G⟩
 ·rw[if_pos (by simpa using hp)]at B;cases B
theorem zkU{S:Sc}{b:Nat}(h:S.Fit b)(e:Ev):(S.block e).1.Fit b:=by
 unfold Sc.block;split
 ·rename_i D;obtain⟨p,n,t,_,_,A,_,E,B,_,_⟩:=vA h D;rw[A,Int.toNat_natCast];exact qY h E B
 ·exact h
theorem zmZ{S:Sc}{b:Nat}(h:S.Fit b)(hb:b<900)(e:Ev):(S.exit e).1.Fit (b+1):=by
 unfold Sc.exit;split
 ·rename_i H;obtain⟨p,n,t,_,_,B,_,A,E,_,_⟩:=vA h H;rw[B,Int.toNat_natCast];obtain⟨t1,D,G,I,h4,h5,_⟩:=qn A;simp only;rw[Sc.zp0 D];exact zmY (qY h A E) hb D G (by rw[I];exact h.1.dead n t A E)
 ·exact h.more hb
theorem ziL{S:Sc}{b:Nat}(h:S.Fit b)(e:Ev):(S.zqz e).1.Fit b:=by
 unfold Sc.zqz;split
 ·rename_i B;obtain⟨p,n,t,A,hp,_⟩:=vA h B;rw[A,Int.toNat_natCast];exact zeJ h hp
 ·exact h
theorem zm0{S:Sc}{b:Nat}(h:S.Fit b)(e:Ev):(S.zrb e).1.Fit b:=by
 cases hg:S.tsk? e.a with
 | none=>unfold Sc.zrb;rw[hg];exact h
 | some n=>
  obtain⟨ha,t,B,hd,A⟩:=qB hg;cases ho:t.on with
  | true=>
   have:S.zrb e=(S,0,7):=by unfold Sc.zrb;simp only[hg,A];rw[if_pos ho]
   rw[this];exact h
  | false=>
   rw[zjO hg A ho];exact zbP h B hd ho (zdZ h.1 _ _) true
theorem zkV{S:Sc}{b:Nat}(h:S.Fit b)(e:Ev):(S.zqI e).1.Fit b:=by
 unfold Sc.zqI;cases hg:S.tsk? e.a with
 | none=>exact h
 | some n=>
  obtain⟨ha,t,E,hd,D⟩:=qB hg;simp only;split
  ·exact h
  ·rename_i B;have A: -20<=e.n/\e.n<=19:=by unfold qI at B;simpa using B
   have hw:=zbI A.1 A.2;rw[D];split
   ·rename_i G;have H:=h.1.on E G;have I:=zmV h H.zqN (S.g t.zpc).hi t.hi (xq e.n);exact I.zps (t:=t) E rfl rfl rfl rfl rfl fun _ k=>⟨k.zpc,k.pool,k.hi,k.at_,k.zqN,hw,k.mask,k.e,A,k.min⟩
   ·refine h.zps (t:=t) E rfl rfl rfl rfl rfl fun _ k=>⟨k.zpc,k.pool,k.hi,k.at_,k.zqN,hw,k.mask,⟨⟨k.e.1.id,hw,k.e.1.v,?_⟩,k.e.2⟩,A,k.min⟩
    exact zfo k.e.1.rem.1 k.e.1.rem.2 (by omega)
theorem zkW{S:Sc}{b:Nat}(h:S.Fit b)(e:Ev)(hm:0<=e.mask/\e.mask<=18446744073709551615):(S.zqE e).1.Fit b:=by
 unfold Sc.zqE;cases hg:S.tsk? e.a with
 | none=>exact h
 | some n=>
  obtain⟨ha,t,H,hd,E⟩:=qB hg;simp only;split
  ·exact h
  ·rw[E];have G:(S.zps n { t with mask:=e.mask }).Fit b:=h.zps H rfl rfl rfl rfl rfl fun _ k=>⟨k.zpc,k.pool,k.hi,k.at_,k.zqN,k.wt,hm,k.e,k.nice,k.min⟩
   have B:=xu (t':={ t with mask:=e.mask }) H;split
   ·rename_i I;have D:=qY G B I.1;obtain⟨t2,g1,g2,g3,g4,g5,_⟩:=qn B;have A:t2.dead=false:=g3.trans hd;split
    ·exact zbP D g1 A g2 (by have:=D.1.ps;omega) false
    ·rename_i p hp;exact zbP D g1 A g2 (zcV D.1 hp) false
   ·exact G
theorem zhi{S:Sc}{b:Nat}(h:S.Fit b)(e:Ev):(S.zp3 e).1.Fit b:=by
 unfold Sc.zp3;cases hg:S.grp? e.a with
 | none=>exact h
 | some g=>
  obtain⟨ha,x,D,h4,B⟩:=yw hg;simp only;split
  ·exact h
  ·rename_i h0;split
   ·exact h
   ·rename_i hw;have A:2<=e.n/\e.n<=262144:=by unfold xg at hw;simpa using hw
    rw[B];refine h.zpd D (by omega) rfl rfl rfl fun G=>?_;obtain⟨h1,E,H⟩:=h.1.gx g x D G (by omega);exact⟨A,E,H⟩
theorem ziM{S:Sc}{b:Nat}(h:S.Fit b)(e:Ev):(S.zpF e).1.Fit b:=by
 unfold Sc.zpF;cases hg:S.grp? e.a with
 | none=>exact h
 | some g=>
  obtain⟨ha,x,D,h0,A⟩:=yw hg;simp only;rw[A];cases hd:x.band with
  | none=>exact h
  | some d=>
   simp only;split
   ·exact(h.zpl D hd (fun B=>B.zpF) (ziG _)).1
   ·exact h
theorem zeM{b g:Nat}:∀(l:List Nat) {S:Sc} (h:S.Fit b) {x:Gp} (A:S.gs[g]?=some x) (B:g≠0) (D:x.line=l),(∀p∈l,p<S.ps)->(Sc.zqu g l S).Fit b/\S.zpJ (Sc.zqu g l S)
 | [],S,h,x,A,B,D,hp=>⟨h,.refl S⟩
 | p::r,S,h,x,A,B,D,hp=>by
  unfold Sc.zqu;rw[Sc.zpj A];obtain⟨f1,H⟩:=h.zpm (l:=r) A B fun E=>by rw[D]at E;exact zfJ E
  have f2:=zax f1 (hp p List.mem_cons_self) x.hi false;obtain⟨f3,I⟩:=zeM r f2 (x:=x.zpm r) (zK A) B rfl fun q G=>hp q (List.mem_cons_of_mem _ G);exact⟨f3,(H.zpf _ _).trans I⟩
theorem zkX{S:Sc}{b:Nat}(h:S.Fit b)(e:Ev):(S.zqH e).1.Fit b:=by
 unfold Sc.zqH;cases hg:S.grp? e.a with
 | none=>exact h
 | some g=>
  obtain⟨ha,x,D,H,I⟩:=yw hg;simp only;rw[I];split
  ·exact h
  ·rename_i h0;cases hd:x.band with
   | none=>exact h
   | some d=>
    simp only;split
    ·exact h
    ·rename_i hb;have G:¬Qt.zp2 e.n e.m:=by unfold zdA at hb;unfold Qt.zp2;simpa using hb
     have A:g≠0:=by omega
     have f1:(S.zpd g { x.zpl (d.zqs e.n e.m)with quota:=e.n }).Fit b:=h.zpd D A rfl rfl rfl fun M=>by obtain⟨N,⟨c,J,zre,h2⟩,O⟩:=h.1.gx g x D M A;rw[hd]at J;obtain rfl:=Option.some.inj J;exact⟨N,⟨_,rfl,(zeF _ _ _).trans zre,.zqs _ _ G⟩,O⟩
     have B:=zK (g':={ x.zpl (d.zqs e.n e.m)with quota:=e.n }) D;rw[Sc.zpj B];have E:=(h.1.gx g x D H A).line.1;exact(zeM x.line f1 B A rfl E).1
theorem Sc.Ok.zqo{S:Sc}{b:Nat}(ok:S.Ok b)(hb:b<900)(hq:∀p,p<S.ps->(S.hs p).Ok){g p:Nat}{x:Gp}(W:S.gs[g]?=some x)(L:x.there=true)(hp:p<S.ps){e:Ev}(K: -20<=e.n/\e.n<=19)(hm:0<=e.mask/\e.mask<=18446744073709551615)(o:S.pool.zqe 64=0):
 (S.zqo g p e).Ok (b+1)/\∃t,(S.zqo g p e).ts[S.ts.length]?=some t/\t.dead=false/\t.on=false:=by
 have E:=ok.more hb;have hw:=zbI K.1 K.2;have Y: -9223372036854775808<=(S.hs p).minOf x.hi/\(S.hs p).minOf x.hi<=9223372036854775807:=by
  unfold Hm.minOf;cases s:(S.hs p).gs x.hi with
  | none=>exact⟨by show(-9223372036854775808:Int)<=0;omega,by show(0:Int)<=_;omega⟩
  | some y=>exact((hq p hp).q _ _ s).1.min
 obtain⟨I,P⟩:=zh (S.pool.zp8 64)
 obtain⟨G,Q⟩:=zh (S.pool.zqC 64)
 have d:(∃q,(S.pool.put 64 S.ts.length).l[I]?=some q/\q.used=true/\q.gen=G)/\I<64/\∀(i:Nat) q,S.pool.l[i]?=some q->q.used=true->i≠I/\(S.pool.put 64 S.ts.length).l[i]?=some q:=by
  have h4:=ok.zsf.room;have H:=ok.zsf.many;have M:¬S.pool.many=64:=by intro h;unfold Pi.Ps.zqe at o;rw[if_pos h]at o;cases o
  rw[P,Q];unfold Pi.Ps.put Pi.Ps.zp8 Pi.Ps.zqC;rw[if_neg M,if_neg M,if_neg M];have hc:=ok.zsf.chain;cases hst:S.pool.st with
  | nil=>
   rw[hst]at H;simp at H;refine⟨⟨⟨S.ts.length,0,true,-1⟩,by simp,rfl,rfl⟩,by show S.pool.l.length<64;omega,fun i q V hu=>?_⟩;have C:=(ze V).1;exact⟨by show i≠S.pool.l.length;omega,by show(S.pool.l++_)[i]?=_;rw[List.getElem?_append_left C];exact V⟩
  | cons k st=>
   rw[hst]at hc;obtain⟨_,q0,a,F,_⟩:=hc;have j:=(ze a).1;refine⟨⟨⟨S.ts.length,(S.pool.l.getD k ⟨0,0,false,0⟩).gen,true,-1⟩,by show(S.pool.l.set k _)[k]?=_;rw[List.getElem?_set_self j],rfl,rfl⟩,by show k<64;omega,fun i q V hu=>?_⟩;have X:i≠k:=by rintro rfl;rw[a]at V;obtain rfl:=Option.some.inj V;rw[F]at hu;cases hu
   exact⟨X,by show(S.pool.l.set k _)[i]?=_;rw[List.getElem?_set_ne (Ne.symm X)];exact V⟩
 obtain⟨hP,f,hold⟩:=d;obtain⟨t,B⟩:∃t:Tk,t=⟨I,G,false,false,p,g,e.n,xq e.n,e.mask,⟨I,xq e.n,(S.hs p).minOf x.hi,0⟩,0⟩:=⟨_,rfl⟩
 have c:S.zqo g p e={ S with pool:=S.pool.put 64 S.ts.length,ts:=S.ts++ [t],at_:=zpt S.at_ I S.ts.length }:=by unfold Sc.zqo;rw[Sc.zpj W,B,P,Q]
 have T:∀(n:Nat) (u:Tk),S.ts[n]?=some u->u.dead=false->u.hi≠I:=fun n u hu J=>by obtain⟨q,Z,U,_⟩:=(ok.tk n u hu J).pool;exact(hold _ _ Z U).1
 rw[c];have O:(S.ts++ [t])[S.ts.length]?=some t:=by simp
 have A:∀(k:Nat) (u:Tk),(S.ts++ [t])[k]?=some u->(k=S.ts.length/\u=t)∨S.ts[k]?=some u:=fun k u hu=>by
  by_cases hk:k<S.ts.length
  ·rw[List.getElem?_append_left hk]at hu;exact .inr hu
  ·rw[List.getElem?_append_right (by omega)]at hu;have:k-S.ts.length=0:=by have:=(ze hu).1;simpa using this
   rw[this]at hu;simp at hu;exact .inl ⟨by omega,hu.symm⟩
 refine⟨⟨E.zqg,ok.ps,ok.tick,ok.credit,ok.lat,ok.tr,E.tok,ok.zsf.put _,?_,E.gl,ok.g0,ok.gk,ok.pl,ok.gu,?_,?_,?_,ok.hk,ok.hu,ok.hc,ok.hf,?_,E.ck,E.bk⟩,t,O,by rw[B],by rw[B]⟩
 ·show(S.ts++ [t]).length<=b+1;have:=ok.tl;simp;omega
 ·intro k y s v h0;obtain⟨Z,U,z⟩:=E.gx k y s v h0;exact⟨Z,U,z⟩
 ·intro k u hu J;rcases A k u hu with⟨rfl,rfl⟩ | hu
  ·refine⟨?_,?_,?_,?_,?_,?_,?_,?_,?_,?_⟩
   ·rw[B];exact⟨x,W,L⟩
   ·rw[B];exact hP
   ·rw[B];exact f
   ·rw[B];exact zy _ _ _
   ·rw[B];exact hp
   ·rw[B];exact hw
   ·rw[B];exact hm
   ·rw[B];exact⟨⟨by show 0<=(I:Int)/\(I:Int)<=1000000;omega,hw,Y,by show(0:Int)<=0/\(0:Int) <xq e.n;omega⟩,rfl⟩
   ·rw[B];exact K
   ·rw[B];exact⟨by show(-9223372036854775808:Int)<=0;omega,by show(0:Int)<=_;omega⟩
  ·have h:=ok.tk k u hu J;obtain⟨q,Z,U,z⟩:=h.pool;exact⟨h.zpc,⟨q,(hold _ _ Z U).2,U,z⟩,h.hi,(zA _ _ (T k u hu J)).trans h.at_,h.zqN,h.wt,h.mask,h.e,h.nice,h.min⟩
 ·intro k u hu N;rcases A k u hu with⟨rfl,rfl⟩ | hu
  ·rw[B]at N;cases N
  ·exact ok.dead k u hu N
 ·intro r hr i k;show(S.hs r).even i k↔∃(n':Nat) (t':Tk) (g':Gp),(S.ts++ [t])[n']?=some t'/\_;rw[ok.ev r hr i k];constructor
  ·rintro⟨m,u,y,hu,D⟩;exact⟨m,u,y,by rw[List.getElem?_append_left (ze hu).1];exact hu,D⟩
  ·rintro⟨m,u,y,hu,R,D⟩;rcases A m u hu with⟨rfl,rfl⟩ | hu
   ·rw[B]at R;cases R
   ·exact⟨m,u,y,hu,R,D⟩
theorem zhj{S:Sc}{b:Nat}(h:S.Fit b)(hb:b<900){g p:Nat}{x:Gp}(G:S.gs[g]?=some x)(A:x.there=true)(hp:p<S.ps){e:Ev}(H: -20<=e.n/\e.n<=19)(hm:0<=e.mask/\e.mask<=18446744073709551615)(B:S.pool.zqe 64=0):
 (S.zqo g p e).Fit (b+1)/\∃t,(S.zqo g p e).ts[S.ts.length]?=some t/\t.dead=false/\t.on=false:=by
 obtain⟨E,D⟩:=h.1.zqo hb h.2 G A hp H hm B;exact⟨⟨E,h.2⟩,D⟩
theorem zkY{S:Sc}{b:Nat}(h:S.Fit b)(hb:b<900)(e:Ev)(hm:0<=e.mask/\e.mask<=18446744073709551615):(S.spawn e).1.Fit (b+1):=by
 unfold Sc.spawn;cases hg:S.grp? e.a with
 | none=>exact h.more hb
 | some g=>
  obtain⟨ha,x,J,E,h0⟩:=yw hg;simp only;split
  ·exact h.more hb
  ·rename_i A;have D: -20<=e.n/\e.n<=19:=by unfold qI at A;simpa using A
   cases hf:S.free (-1) e.mask with
   | none=>exact h.more hb
   | some p=>
    simp only;split
    ·exact h.more hb
    ·rename_i H;have B:S.pool.zqe 64=0:=Decidable.not_not.1 H;obtain⟨f1,t,G,hd,I⟩:=zhj h hb J E (zcV h.1 hf) D hm B;exact zbP f1 G hd I (zcV h.1 hf) false
theorem zn3{l:List Pl}(h:Tr l):∀k,zr1 l k->(∀i∈zqT l k,dep l i<=dep l k)/\(zqT l k).Nodup/\∀i∈zqT l k,i≠0:=
 h.induct (by rw[uq];exact⟨fun i A=>by(cases A),List.nodup_nil,fun i A=>by(cases A)⟩) (fun k hu B ih=>by
  obtain⟨D,H,I⟩:=ih;have hd:=(h.up hu B).2;rw[ur h hu B];refine⟨fun i A=>?_,?_,fun i A=>?_⟩
  ·rcases List.mem_append.1 A with A | A
   ·have:=D i A;omega
   ·simp at A;subst A;exact zg _
  ·rw[List.nodup_append];refine⟨H,by simp,fun a G c E=>?_⟩;simp at E;subst E;rintro rfl;have:=D a G;omega
  ·rcases List.mem_append.1 A with A | A
   ·exact I i A
   ·simp at A;subst A;exact B)
theorem zeN{f:Nat->Nat}:∀(l:List Nat),l.Nodup->(∀i∈l,∀j∈l,f i=f j->i=j)->(l.map f).Nodup
 | [],_,_=>List.nodup_nil
 | a::l,h,hi=>by obtain⟨G,E⟩:=List.nodup_cons.1 h;rw[List.map_cons,List.nodup_cons];refine⟨fun hm=>?_,zeN l E fun i A j D=>hi i (List.mem_cons_of_mem _ A) j (List.mem_cons_of_mem _ D)⟩;obtain⟨c,B,e⟩:=List.mem_map.1 hm;have:=hi c (List.mem_cons_of_mem _ B) a List.mem_cons_self e;subst this;exact G B
theorem Sc.Ok.zrZ{S:Sc}{b:Nat}(ok:S.Ok b){n:Nat}{g:Gp}(A:S.gs[n]?=some g)(D:g.there=true):(S.zqd n).Nodup/\(∀m∈S.zqd n,m≠0)/\(S.zqd n).length<=8:=by
 obtain⟨⟨q,H,hu,_⟩,_⟩:=ok.gk n g A D;obtain⟨h1,N,R⟩:=zn3 ok.tr g.hi ⟨q,H,hu⟩;have hw:S.zqd n=(zqT S.tree.l g.hi).map fun i=>(S.pl i).getD 0:=by unfold Sc.zqd;rw[Sc.zpj A]
 rw[hw];refine⟨zeN _ N fun i E j U e=>?_,fun m hm=>?_,?_⟩
 ·obtain⟨_,a,y,J,I,_,G⟩:=ok.path A D E;obtain⟨_,c,z,V,M,_,h0⟩:=ok.path A D U;rw[J,V]at e;have O:a=c:=e;subst O;rw[I]at M;obtain rfl:=Option.some.inj M;omega
 ·obtain⟨i,E,rfl⟩:=List.mem_map.1 hm;obtain⟨_,a,y,J,I,h4,G⟩:=ok.path A D E;rw[J];rintro rfl;obtain⟨x,T,h5,_⟩:=ok.g0;have B:S.gs[0]?=some y:=I;rw[T]at B;obtain rfl:=Option.some.inj B;exact R i E (by omega)
 ·rw[List.length_map,zds ok.tr _ ⟨q,H,hu⟩];have:=ok.tr.dp H hu;omega
theorem zbm(p:Nat)(ns:Int):∀(l:List Nat) (S:Sc),(Sc.zpE p ns l S).cs=S.cs
 | [],S=>rfl
 | g::r,S=>by
  unfold Sc.zpE;split
  ·exact zbm p ns r S
  ·rw[zbm p ns r];rfl
theorem zbT{p g:Nat}{ns:Int}{r:List Nat}{S:Sc}{x:Gp}{d:zqL}(A:S.gs[g]?=some x)(hd:x.band=some d):Sc.zpE p ns (g::r) S=Sc.zpE p ns r (S.zpd g (x.zpl ((d.zpn p (zZ d p) ns).zqv p (d.left (zZ d p) ns)))):=by rw[Sc.zpE,Sc.zpj A,hd]
theorem zd0{k p:Nat}{d:zqL}(h:xt k d)(hp:p<d.l.length){ns:Int}(B:0<=ns)(A:ns<=1000000000):xt (k+1) ((d.zpn p (zZ d p) ns).zqv p (d.left (zZ d p) ns)):=
 (h.zpn (qw hp) B A).zqv (Qt.Bd.zrl ns (qw hp))
def Sc.zrM(S:Sc)(b:Nat)(l:List Nat):Prop:=∀g∈l,∃x d,S.gs[g]?=some x/\x.there=true/\x.band=some d/\d.l.length=S.ps/\xt b d
theorem zcz{b p:Nat}{ns:Int}(J:0<=ns)(M:ns<=1000000000):∀(l:List Nat) {S:Sc} (h:S.Fit (b+1)) (hp:p<S.ps) (A:l.Nodup) (E:S.zrM b l),(Sc.zpE p ns l S).Fit (b+1)/\S.zpJ (Sc.zpE p ns l S)
 | [],S,h,hp,A,E=>⟨h,.refl S⟩
 | g::r,S,h,hp,A,E=>by
  obtain⟨x,d,N,ht,hd,h2,I⟩:=E g List.mem_cons_self;obtain⟨U,V⟩:=List.nodup_cons.1 A;rw[zbT N hd];have H:=zd0 (p:=p) I (by omega) J M;obtain⟨f1,T⟩:=h.zpl (d':=(d.zpn p (zZ d p) ns).zqv p (d.left (zZ d p) ns)) N hd (fun _=>H) (by rw[zaQ,zct]);obtain⟨f2,O⟩:=zcz J M r f1 hp V fun g' D=>by
   obtain⟨y,c,R,B⟩:=E g' (List.mem_cons_of_mem _ D);have G:g≠g':=by rintro rfl;exact U D
   exact⟨y,c,by show(S.gs.set g _)[g']?=_;rw[List.getElem?_set_ne G];exact R,B⟩
  exact⟨f2,T.trans O⟩
theorem Sc.Ok.zsU{S:Sc}{b:Nat}(ok:S.Ok b){x:Bk}(I:zmS x b):({ S with book:=x }:Sc).Ok b:=
 ⟨ok.zqg,ok.ps,ok.tick,ok.credit,ok.lat,ok.tr,ok.tok,ok.zsf,ok.tl,ok.gl,ok.g0,ok.gk,ok.pl,ok.gu,
  fun n g H A G=>by obtain⟨D,B,E⟩:=ok.gx n g H A G;exact⟨D,B,E⟩,
  fun n t A hd=>(ok.tk n t A hd).of rfl rfl rfl rfl,ok.dead,ok.hk,ok.hu,ok.hc,ok.hf,ok.ev,ok.ck,I⟩
theorem zmS.credit{k:Bk}{b:Nat}(h:zmS k b){path:List Nat}{n:Nat}{ns:Int}(h0:0<=ns)(h1:ns<=1000000000)(hl:path.length<=12):zmS (k.credit path n ns) (b+1):=by
 obtain⟨t1,t2⟩:=h.total;have hm:=h.many;refine⟨fun m=>?_,fun g=>?_,?_,?_⟩
 ·have a:=h.bt m;have c:=h.bt n;show 0<=zpt k.bt n (k.bt n+ns) m/\zpt k.bt n (k.bt n+ns) m<=k.total+ns;unfold zpt;split <;> omega
 ·have a:=h.bg g;show 0<=(if g∈path then k.bg g+ns else k.bg g)/\(if g∈path then k.bg g+ns else k.bg g)<=k.total+ns;split <;> omega
 ·show 0<=k.total+ns/\k.total+ns<=_;omega
 ·show k.n+path.length+1<=_;omega
theorem zaZ{S:Sc}{l:List Nat}(h:l.Nodup):(S.limited l).Nodup:=List.Pairwise.filter _ h
theorem zm1{S:Sc}{b:Nat}(ok:S.Ok b){n:Nat}{g:Gp}(G:S.gs[n]?=some g)(E:g.there=true):S.zrM b (S.limited (S.zqd n)):=fun m hm=>by obtain⟨x,d,D,A,hd⟩:=zbR ok G E m hm;obtain⟨d',B,I,H⟩:=ok.band D A (ok.zqc D hd);rw[hd]at B;obtain rfl:=Option.some.inj B;exact⟨x,d,D,A,hd,I,H⟩
def Sc.zqa(S:Sc)(p n:Nat)(zpc:Nat)(ns:Int):Sc:=Sc.zpE p ns (S.limited (S.zqd zpc)) (({ S with book:=S.book.credit (0::S.zqd zpc) n ns }:Sc).zpf p ((S.hs p).zpg ns))
theorem zd1{S:Sc}{b:Nat}(h:S.Fit b)(hb:b<900){p:Nat}(hp:p<S.ps){n zpc:Nat}{g:Gp}(E:S.gs[zpc]?=some g)(B:g.there=true){ns:Int}(D:0<=ns)(G:ns<=1000000000):(S.zqa p n zpc ns).Fit (b+1)/\(S.zqa p n zpc ns).cs=S.cs/\S.ps=(S.zqa p n zpc ns).ps:=by
 obtain⟨w1,w2,w3⟩:=h.1.zrZ E B;have I:(({ S with book:=S.book.credit (0::S.zqd zpc) n ns }:Sc)).Fit (b+1):=⟨(h.1.more hb).zsU (h.1.bk.credit D G (by rw[List.length_cons];omega)),h.2⟩
 have A:=zdS I hp ns;obtain⟨f3,H⟩:=zcz D G (S.limited (S.zqd zpc)) A hp (zaZ w1) (zm1 h.1 E B);exact⟨f3,zbm _ _ _ _,H.ps.symm⟩
theorem uQ{S:Sc}{e:Ev}(hp:S.zqM e.a)(B:¬(e.n<0∨S.tick<e.n))(A:S.running e.a.toNat= -1):S.zpz e=(S.zpG e.a.toNat ((S.cs e.a.toNat).tick e.n),-1,0):=by unfold Sc.zpz;rw[if_neg (by simpa using hp),if_neg B];simp only;rw[if_pos A];rfl
theorem uR{S:Sc}{e:Ev}{n:Nat}{t:Tk}(hp:S.zqM e.a)(B:¬(e.n<0∨S.tick<e.n))(A:S.running e.a.toNat=n)(D:S.ts[n]?=some t):S.zpz e=
 (
  show Out from let s3:=S.zqa e.a.toNat n t.zpc e.n
  let c:=(s3.cs e.a.toNat).tick e.n
  let s4:=s3.zpG e.a.toNat c
  if c.due t.w (s3.load 0 e.a.toNat)=true then((s4.zpf e.a.toNat (s4.hs e.a.toNat).yield.1).zpG e.a.toNat (c.begin (-1)),(n:Int),0)else(s4,(n:Int),0)):=by
 unfold Sc.zpz;rw[if_neg (by simpa using hp),if_neg B];simp only;rw[if_neg (by omega),A,Int.toNat_natCast,Sc.zp0 D];unfold Ck.due;simp only[decide_eq_true_eq];rfl
theorem ud.tick{k:Nat}{c:Ck}(h:ud k c){ns:Int}(B:0<=ns)(A:ns<=1000000000):ud (k+1) (c.tick ns)/\(c.tick ns).lat=c.lat:=by
 unfold Ck.tick;split
 ·exact⟨h.rest B A,rfl⟩
 ·exact⟨h.serve B A,rfl⟩
theorem zkZ{S:Sc}{b:Nat}(h:S.Fit b)(hb:b<900)(e:Ev):(S.zpz e).1.Fit (b+1):=by
 by_cases hp:S.zqM e.a
 ·by_cases G:e.n<0∨S.tick<e.n
  ·have:S.zpz e=(S,0,8):=by unfold Sc.zpz;rw[if_neg (by simpa using hp),if_pos G]
   rw[this];exact h.more hb
  ·have A:e.a.toNat<S.ps:=by have:=hp.1;have:=hp.2;omega
   have h2:=h.1.tick;have H:0<=e.n:=by omega
   have D:e.n<=1000000000:=by omega
   by_cases M:S.running e.a.toNat= -1
   ·rw[uQ hp G M];obtain⟨I,c2⟩:=h.1.ck _ A;obtain⟨E,J⟩:=I.tick H D;exact(h.more hb).zpG _ ⟨E,J.trans c2⟩
   ·obtain⟨n,t,g,T,R,e3,e4,N,O,_⟩:=h.run A M;rw[uR hp G T R];obtain⟨f1,f2,f3⟩:=zd1 h hb A (n:=n) N O H D;obtain⟨I,c2⟩:=h.1.ck _ A;obtain⟨E,J⟩:=I.tick H D;simp only;rw[f2];have B:((S.cs e.a.toNat).tick e.n).lat=(S.zqa e.a.toNat n t.zpc e.n).lat:=by have D:=(f1.1.ck e.a.toNat (by rw[<-f3];exact A)).2;rw[f2]at D;rw[J];exact D
    have f4:=f1.zpG e.a.toNat ⟨E,B⟩;split
    ·have f5:=zeJ f4 (p:=e.a.toNat) (by show _<(S.zqa e.a.toNat n t.zpc e.n).ps;rw[<-f3];exact A);exact f5.zpG _ ⟨E.begin (by omega) (by omega),(zcd _ _).trans B⟩
    ·exact f4
 ·have:S.zpz e=(S,0,1):=by unfold Sc.zpz;rw[if_pos (by simpa using hp)]
  rw[this];exact h.more hb
theorem zn4{s:Ps}{b:Nat}(h:s.Ok 32 b)(H:s.zqe 32=0)(x:zrf):(∃q,(s.put 32 x).l[s.zp8 32]?=some q/\q.used=true/\q.gen=s.zqC 32/\q.x=x)/\s.zp8 32<32/\(∀(i:Nat) q,s.l[i]?=some q->q.used=true->i≠s.zp8 32)/\∀i,i≠s.zp8 32->(s.put 32 x).l[i]?=s.l[i]?:=by
 have h0:=h.room;have A:=h.many;have D:¬s.many=32:=by intro h;unfold Ps.zqe at H;rw[if_pos h]at H;cases H
 unfold Ps.put Ps.zp8 Ps.zqC;rw[if_neg D,if_neg D,if_neg D];have J:=h.chain;cases hst:s.st with
 | nil=>
  rw[hst]at A;simp at A;refine⟨⟨⟨x,0,true,-1⟩,by simp,rfl,rfl,rfl⟩,by show s.l.length<32;omega,fun i q B hu=>?_,fun i B=>?_⟩
  ·have h2:=(ze B).1;show i≠s.l.length;omega
  ·show(s.l++_)[i]?=_;have h1:i≠s.l.length:=B;by_cases M:i<s.l.length
   ·rw[List.getElem?_append_left M]
   ·rw[List.getElem?_eq_none (by simp;omega),List.getElem?_eq_none (by omega)]
 | cons k st=>
  rw[hst]at J;obtain⟨_,q0,E,I,_⟩:=J;have G:=(ze E).1;refine⟨⟨⟨x,(s.l.getD k ⟨.zero,0,false,0⟩).gen,true,-1⟩,by show(s.l.set k _)[k]?=_;rw[List.getElem?_set_self G],rfl,rfl,rfl⟩,by show k<32;omega,fun i q B hu=>?_,fun i B=>?_⟩
  ·show i≠k;rintro rfl;rw[E]at B;obtain rfl:=Option.some.inj B;rw[I]at hu;cases hu
  ·show(s.l.set k _)[i]?=_;rw[List.getElem?_set_ne (Ne.symm B)]
theorem zfL{l A:List Pl}{i:Nat}(h:A[i]?=l[i]?):zrk A i=zrk l i/\dep A i=dep l i:=by unfold zrk dep;rw[List.getD_eq_getElem?_getD,List.getD_eq_getElem?_getD,h];exact⟨rfl,rfl⟩
structure Grew(S:Sc)(u:Nat)(y:Gp):Prop where
 ne0:S.tree.zqx y.hi y.hg≠0
 lt:S.tree.zqx y.hi y.hg<32
 none:S.pl (S.tree.zqx y.hi y.hg)=none
 dp:dep S.tree.l y.hi<8
 place:∃q,(S.tree.zrq y.hi y.hg).l[S.tree.zqx y.hi y.hg]?=some q/\q.used=true/\q.gen=S.tree.zro y.hi y.hg/\q.x=⟨y.hi,y.hi,y.hg,dep S.tree.l y.hi+1⟩
 zsK:∀i,i≠S.tree.zqx y.hi y.hg->(S.tree.zrq y.hi y.hg).l[i]?=S.tree.l[i]?
theorem Sc.Ok.ztE{S:Sc}{b:Nat}(ok:S.Ok b){u:Nat}{y:Gp}(O:S.gs[u]?=some y)(E:y.there=true)(D:S.tree.zq3 y.hi y.hg=0):Grew S u y:=by
 obtain⟨⟨q,X,hu,h0⟩,h4⟩:=ok.gk u y O E;have B:=ok.find O E;have h3:=ok.tr.dp X hu;unfold Ps.zq3 at D;rw[B]at D;simp only at D;have A:¬dep S.tree.l y.hi=8:=by intro h;rw[if_pos h]at D;cases D
 rw[if_neg A]at D;obtain⟨c,V,N,T⟩:=zn4 ok.tok D ⟨y.hi,y.hi,y.hg,dep S.tree.l y.hi+1⟩;have G:S.tree.zqx y.hi y.hg=S.tree.zp8 32:=by unfold Ps.zqx;rw[B];simp only;rw[if_neg A]
 have Z:S.tree.zro y.hi y.hg=S.tree.zqC 32:=by unfold Ps.zro;rw[B];simp only;rw[if_neg A]
 have R:S.tree.zrq y.hi y.hg=S.tree.put 32 ⟨y.hi,y.hi,y.hg,dep S.tree.l y.hi+1⟩:=by unfold Ps.zrq;rw[B];simp only;rw[if_neg A]
 refine⟨?_,by rw[G];exact V,?_,by omega,by rw[G,Z,R];exact c,by rw[G,R];exact T⟩
 ·rw[G];obtain⟨U,I,H,_⟩:=ok.tr.root;exact fun h=>N 0 U I H h.symm
 ·rw[G];cases hp:S.pl (S.tree.zp8 32)with
  | none=>rfl
  | some m=>
   obtain⟨z,a,M,J⟩:=ok.pl _ _ hp;obtain⟨⟨Y,I,H,_⟩,_⟩:=ok.gk m z a M;exact absurd J (N _ Y I H)
theorem Sc.Ok.zpO{S:Sc}{b:Nat}(ok:S.Ok b)(hb:b<900)(hq:∀p,p<S.ps->(S.hs p).Ok){u:Nat}{y:Gp}(hy:S.gs[u]?=some y)(C:y.there=true)(hE:S.tree.zq3 y.hi y.hg=0){n:Int}(hn:2<=n/\n<=262144):(S.zpO u n).Fit (b+1):=by
 have G:=ok.ztE hy C hE;have V:=ok.more hb;obtain⟨I,hI⟩:=zh (S.tree.zqx y.hi y.hg)
 obtain⟨T,hT⟩:=zh (S.tree.zrq y.hi y.hg)
 obtain⟨q,f,hl,h8,H0⟩:=G.place;have a:=G.ne0;have L:=G.lt;have M:=G.none;have hold:=G.zsK;have h5:=ok.tr.zrq ok.tok (y.hi:Int) y.hg;have K:=ok.tok.zrq (y.hi:Int) y.hg;rw[<-hT,<-hI]at f;rw[<-hI]at a L M;rw[<-hT,<-hI]at hold;rw[<-hT]at h5 K;obtain⟨g',N⟩:∃g':Gp,g'=⟨I,S.tree.zro y.hi y.hg,n,0,some ⟨0,0,0,0,List.replicate S.ps 0⟩,[],true⟩:=⟨_,rfl⟩
 have W:S.zpO u n={ S with tree:=T,gs:=S.gs++ [g'],pl:=zpt S.pl I (some S.gs.length),hs:=fun p=>if p<S.ps then(S.hs p).link I y.hi else S.hs p }:=by unfold Sc.zpO;rw[Sc.zpj hy,N,hI,hT]
 have U:∀(k:Nat) (z:Gp),(S.gs++ [g'])[k]?=some z->(k=S.gs.length/\z=g')∨S.gs[k]?=some z:=fun k z B=>by
  by_cases hk:k<S.gs.length
  ·rw[List.getElem?_append_left hk]at B;exact .inr B
  ·rw[List.getElem?_append_right (by omega)]at B;have:k-S.gs.length=0:=by have:=(ze B).1;simpa using this
   rw[this]at B;simp at B;exact .inl ⟨by omega,B.symm⟩
 have H:∀(k:Nat) (z:Gp),S.gs[k]?=some z->(S.gs++ [g'])[k]?=some z:=fun k z B=>by rw[List.getElem?_append_left (ze B).1];exact B
 have v:∀(k:Nat) (z:Gp),S.gs[k]?=some z->z.there=true->z.hi≠I:=fun k z B E e=>by have:=(ok.gk k z B E).2;rw[e,M]at this;cases this
 have h9:=(ok.gk u y hy C).2;have h6:∀p,p<S.ps->∃J:Gr,(S.hs p).gs y.hi=some J/\(S.hs p).gs I=none/\J.deep<8/\J.deep=dep S.tree.l y.hi:=fun p hp=>by
  have R:=ok.hk p hp y.hi;rw[h9]at R;obtain⟨J,Y⟩:=Option.isSome_iff_exists.1 R;have O:=ok.hk p hp I;rw[M]at O;have ha:(S.hs p).gs I=none:=by
   cases hh:(S.hs p).gs I with
   | none=>rfl
   | some z=>rw[hh]at O;cases O
  have hd:J.deep=dep S.tree.l y.hi:=by
   by_cases o:y.hi=0
   ·obtain⟨r,c,_,hj⟩:=(hq p hp).root;rw[o]at Y ⊢;rw[Y]at c;obtain rfl:=Option.some.inj c;rw[hj,(ok.tr.zr2 ok.tr.ztp).2.2 rfl];rfl
   ·exact(ok.hu p hp _ J Y o).2
  have:=G.dp;exact⟨J,Y,ha,by omega,hd⟩
 rw[W];have Q:∀p,p<S.ps->((S.hs p).link I y.hi).Ok/\(∀k i,((S.hs p).link I y.hi).even k i↔(S.hs p).even k i)/\∃J:Gr,J.deep=dep S.tree.l y.hi/\(S.hs p).link I y.hi=(S.hs p).set I (zam I y.hi J.deep):=fun p hp=>by obtain⟨J,R,O,F,h4⟩:=h6 p hp;obtain⟨k1,k2,k3⟩:=zjC (hq p hp) a L O R F;exact⟨k1,k2,J,h4,k3⟩
 refine⟨⟨V.zqg,ok.ps,ok.tick,ok.credit,ok.lat,h5,K,V.zsf,V.tl,?_,?_,?_,?_,?_,?_,?_,ok.dead,?_,?_,?_,?_,?_,V.ck,V.bk⟩,?_⟩
 ·show 1<=(S.gs++ [g']).length/\(S.gs++ [g']).length<=b+1+1;have:=ok.gl;simp;omega
 ·obtain⟨x,hx,c⟩:=ok.g0;exact⟨x,H 0 x hx,c⟩
 ·intro k z B E;rcases U k z B with⟨rfl,rfl⟩ | B
  ·exact⟨⟨q,by rw[N];exact f,hl,by rw[N];exact h8⟩,by rw[N];exact zy _ _ _⟩
  ·obtain⟨⟨q1,R,O,F⟩,h4⟩:=ok.gk k z B E;have s:=v k z B E;exact⟨⟨q1,(hold _ s).trans R,O,F⟩,(zA _ _ s).trans h4⟩
 ·intro i m hm;have Z:zpt S.pl I (some S.gs.length) i=some m:=hm;by_cases e:i=I
  ·subst e;rw[zy]at Z;obtain rfl:=Option.some.inj Z;exact⟨g',by show(S.gs++ [g'])[S.gs.length]?=_;simp,by rw[N],by rw[N]⟩
  ·rw[zA _ _ e]at Z;obtain⟨z,B,R,O⟩:=ok.pl i m Z;exact⟨z,H m z B,R,O⟩
 ·intro i q1 R O;show ∃m,zpt S.pl I (some S.gs.length) i=some m;by_cases e:i=I
  ·subst e;exact⟨_,zy _ _ _⟩
  ·rw[zA _ _ e];exact ok.gu i q1 ((hold i e).symm.trans R) O
 ·intro k z B E o;rcases U k z B with⟨rfl,rfl⟩ | B
  ·rw[N];exact⟨hn,⟨_,rfl,by simp,xt.new _ _⟩,⟨fun p hp=>(by cases hp),List.nodup_nil⟩⟩
  ·obtain⟨R,O,F⟩:=V.gx k z B E o;exact⟨R,O,F⟩
 ·intro k t j hd;have h:=ok.tk k t j hd;obtain⟨z,B,E⟩:=h.zpc;exact⟨⟨z,H _ z B,E⟩,h.pool,h.hi,h.at_,h.zqN,h.wt,h.mask,h.e,h.nice,h.min⟩
 ·intro p hp i;have A:p<S.ps:=hp;obtain⟨_,_,J,_,D⟩:=Q p A;show((if p<S.ps then(S.hs p).link I y.hi else S.hs p).gs i).isSome=(zpt S.pl I (some S.gs.length) i).isSome;rw[if_pos A,D];by_cases e:i=I
  ·subst e;rw[zw,zy];rfl
  ·rw[zo _ _ e,zA _ _ e];exact ok.hk p A i
 ·intro p hp i x hx o;have A:p<S.ps:=hp;obtain⟨_,_,J,h7,D⟩:=Q p A;have X:(if p<S.ps then(S.hs p).link I y.hi else S.hs p).gs i=some x:=hx;rw[if_pos A,D]at X;by_cases e:i=I
  ·subst e;rw[zw]at X;obtain rfl:=Option.some.inj X;show(y.hi:Int)=zrk T.l i/\J.deep+1=dep T.l i;have hg:=zbG f;unfold zrk dep;rw[hg,H0];simp only;omega
  ·rw[zo _ _ e]at X;obtain⟨R,O⟩:=ok.hu p A i x X o;obtain⟨e1,e2⟩:=zfL (hold i e);exact⟨by rw[e1];exact R,by rw[e2];exact O⟩
 ·intro p hp;have A:p<S.ps:=hp;obtain⟨_,_,J,h7,D⟩:=Q p A;show(if p<S.ps then(S.hs p).link I y.hi else S.hs p).credit=S.credit;rw[if_pos A,D];exact ok.hc p A
 ·intro p hp;have A:p<S.ps:=hp;show(if p<S.ps then(S.hs p).link I y.hi else S.hs p).zpC;rw[if_pos A];exact zkN (ok.hf p A) _ _
 ·intro p hp i k;have A:p<S.ps:=hp;obtain⟨_,hv,_⟩:=Q p A;show(if p<S.ps then(S.hs p).link I y.hi else S.hs p).even i k↔∃(n:Nat) (t:Tk) (g:Gp),S.ts[n]?=some t/\t.on=true/\t.p=p/\(S.gs++ [g'])[t.zpc]?=some g/\g.hi=i/\t.hi=k;rw[if_pos A,hv,ok.ev p A i k];constructor
  ·rintro⟨m,t,z,j,ho,d,B,c⟩;exact⟨m,t,z,j,ho,d,H _ z B,c⟩
  ·rintro⟨m,t,z,j,ho,d,B,c⟩;obtain⟨z',P,_⟩:=(ok.on j ho).zpc;have:=H _ z' P;rw[B]at this;obtain rfl:=Option.some.inj this;exact⟨m,t,z,j,ho,d,P,c⟩
 ·intro p hp;have A:p<S.ps:=hp;show(if p<S.ps then(S.hs p).link I y.hi else S.hs p).Ok;rw[if_pos A];exact(Q p A).1
theorem zm2{S:Sc}{b:Nat}(h:S.Fit b)(hb:b<900)(e:Ev):(S.grow e).1.Fit (b+1):=by
 unfold Sc.grow;cases hg:S.grp? e.a with
 | none=>exact h.more hb
 | some u=>
  obtain⟨ha,y,G,B,D⟩:=yw hg;simp only;split
  ·exact h.more hb
  ·rename_i hw;rw[D];split
   ·exact h.more hb
   ·rename_i E;have A:2<=e.n/\e.n<=262144:=by unfold xg at hw;simpa using hw
    exact h.1.zpO hb h.2 G B (Decidable.not_not.1 E) A
def Sc.zrn(S:Sc)(g:Nat):Nat->Int
 | 0=>0
 | k+1=>S.zrn g k+if S.sub (S.t k).zpc g=true then S.book.bt k else 0
structure Sc.Kp(S:Sc)(P:List Int):Prop where
 all:∀(n:Nat) (x:Gp),S.gs[n]?=some x->x.there=true
 len:P.length=S.gs.length
 p0:P[0]?=some (-1)
 par:∀(n:Nat) (x:Gp),n≠0->S.gs[n]?=some x->∃(m:Nat) (y:Gp),P[n]?=some (m:Int)/\m<n/\S.gs[m]?=some y/\zrk S.tree.l x.hi=y.hi
 zpc:∀(n:Nat) (t:Tk),S.ts[n]?=some t->t.zpc<S.gs.length
 bt0:∀n,S.ts.length<=n->S.book.bt n=0
 bg0:∀g,S.gs.length<=g->S.book.bg g=0
 sum:∀g,g<S.gs.length->S.book.bg g=S.zrn g S.ts.length
structure Sc.zqr(S S':Sc):Prop where
 gl:S'.gs.length=S.gs.length
 g:∀(n:Nat) (x:Gp),S.gs[n]?=some x->∃y,S'.gs[n]?=some y/\y.hi=x.hi/\y.there=x.there
 tl:S'.ts.length=S.ts.length
 t:∀(n:Nat) (x:Tk),S.ts[n]?=some x->∃y,S'.ts[n]?=some y/\y.zpc=x.zpc
 tree:S'.tree=S.tree
 book:S'.book=S.book
theorem Sc.zqr.refl(S:Sc):S.zqr S:=⟨rfl,fun n x h=>⟨x,h,rfl,rfl⟩,rfl,fun n x h=>⟨x,h,rfl⟩,rfl,rfl⟩
theorem Sc.zqr.trans{a b c:Sc}(h:a.zqr b)(A:b.zqr c):a.zqr c:=
 ⟨A.gl.trans h.gl,fun n x E=>by
  obtain⟨y,D,B,H⟩:=h.g n x E;obtain⟨z,G,f1,f2⟩:=A.g n y D;exact⟨z,G,f1.trans B,f2.trans H⟩,A.tl.trans h.tl,fun n x E=>by
  obtain⟨y,D,B⟩:=h.t n x E;obtain⟨z,G,f1⟩:=A.t n y D;exact⟨z,G,f1.trans B⟩,A.tree.trans h.tree,A.book.trans h.book⟩
theorem Sc.zpJ.zrH{S S':Sc}(h:S.zpJ S'):S.zqr S':=
 ⟨h.len,fun n x A=>by obtain⟨y,E,B,_,D,_⟩:=h.g n x A;exact⟨y,E,B,D⟩,by rw[h.ts],fun n x A=>⟨x,by rw[h.ts];exact A,rfl⟩,h.tree,h.book⟩
theorem Sc.zqr.zsZ{S S':Sc}(h:S.zqr S'){n:Nat}{y:Gp}(A:S'.gs[n]?=some y):∃x,S.gs[n]?=some x/\y.hi=x.hi/\y.there=x.there:=by
 have G:=(ze A).1;obtain⟨x,B⟩:∃x,S.gs[n]?=some x:=⟨_,List.getElem?_eq_getElem (by rw[<-h.gl];exact G)⟩
 obtain⟨z,D,E,H⟩:=h.g n x B;rw[A]at D;obtain rfl:=Option.some.inj D;exact⟨x,B,E,H⟩
theorem Sc.zqr.ztF{S S':Sc}(h:S.zqr S'){n:Nat}{y:Tk}(A:S'.ts[n]?=some y):∃x,S.ts[n]?=some x/\y.zpc=x.zpc:=by
 have G:=(ze A).1;obtain⟨x,B⟩:∃x,S.ts[n]?=some x:=⟨_,List.getElem?_eq_getElem (by rw[<-h.tl];exact G)⟩
 obtain⟨z,D,E⟩:=h.t n x B;rw[A]at D;obtain rfl:=Option.some.inj D;exact⟨x,B,E⟩
theorem Sc.zqr.sub{S S':Sc}(h:S.zqr S'){a c:Nat}(H:a<S.gs.length)(I:c<S.gs.length):S'.sub a c=S.sub a c:=by
 obtain⟨x,E⟩:∃x,S.gs[a]?=some x:=⟨_,List.getElem?_eq_getElem H⟩
 obtain⟨y,D⟩:∃y,S.gs[c]?=some y:=⟨_,List.getElem?_eq_getElem I⟩
 obtain⟨x',A,G,_⟩:=h.g a x E;obtain⟨y',B,f1,_⟩:=h.g c y D;unfold Sc.sub;rw[Sc.zpj E,Sc.zpj D,Sc.zpj A,Sc.zpj B,G,f1,h.tree]
theorem zaS{S S':Sc}{g:Nat}:∀k,(∀n,n<k->S'.sub (S'.t n).zpc g=S.sub (S.t n).zpc g/\S'.book.bt n=S.book.bt n)->S'.zrn g k=S.zrn g k
 | 0,_=>rfl
 | k+1,h=>by unfold Sc.zrn;obtain⟨B,A⟩:=h k (by omega);rw[zaS k fun n hn=>h n (by omega),B,A]
theorem Sc.Kp.zrH{S S':Sc}{P:List Int}(h:S.Kp P)(A:S.zqr S'):S'.Kp P:=by
 refine⟨fun n x J=>?_,h.len.trans A.gl.symm,h.p0,fun n x H J=>?_,fun n t E=>?_,?_,?_,?_⟩
 ·obtain⟨x',B,_,e⟩:=A.zsZ J;rw[e];exact h.all n x' B
 ·obtain⟨x',B,e,_⟩:=A.zsZ J;obtain⟨m,y,O,M,T,N⟩:=h.par n x' H B;obtain⟨R,I,f,_⟩:=A.g m y T;exact⟨m,R,O,M,I,by rw[A.tree,e,f];exact N⟩
 ·obtain⟨t',D,e⟩:=A.ztF E;rw[A.gl,e];exact h.zpc n t' D
 ·intro n H;rw[A.book];exact h.bt0 n (by rw[<-A.tl];exact H)
 ·intro g G;rw[A.book];exact h.bg0 g (by rw[<-A.gl];exact G)
 ·intro g G;rw[A.book,A.tl];rw[A.gl]at G;rw[h.sum g G];refine(zaS _ fun n H=>?_).symm;obtain⟨t,E⟩:∃t,S.ts[n]?=some t:=⟨_,List.getElem?_eq_getElem H⟩
  obtain⟨t',D,e⟩:=A.t n t E;rw[Sc.zp0 E,Sc.zp0 D,e,A.book];exact⟨A.sub (h.zpc n t E) G,rfl⟩
theorem zn5{S:Sc}{b:Nat}(ok:S.Ok b){n:Nat}{x:Gp}(M:S.gs[n]?=some x)(G:x.there=true){g:Nat}{y:Gp}(J:S.gs[g]?=some y)(O:y.there=true):g∈0::S.zqd n↔S.sub n g=true:=by
 obtain⟨⟨q,X,hu,_⟩,_⟩:=ok.gk n x M G;obtain⟨_,B⟩:=ok.gk g y J O;obtain⟨z0,D,A,_,H,_⟩:=ok.g0;obtain⟨_,E⟩:=ok.gk 0 z0 D H;rw[A]at E;have hw:S.zqd n=(zqT S.tree.l x.hi).map fun i=>(S.pl i).getD 0:=by unfold Sc.zqd;rw[Sc.zpj M]
 have hs:S.sub n g=zsj S.tree.l x.hi y.hi:=by unfold Sc.sub;rw[Sc.zpj M,Sc.zpj J]
 have R:∀k,zr1 S.tree.l k->∀c,zsj S.tree.l k c=true↔c=0∨c∈zqT S.tree.l k:=
  ok.tr.induct (fun c=>by rw[un,uq];simp) (fun k hu T ih c=>by
   rw[uo ok.tr hu T,ur ok.tr hu T];simp only[Bool.or_eq_true,decide_eq_true_eq,List.mem_append,List.mem_singleton];rw[ih c];constructor
   ·rintro(h | h | h)
    ·exact .inr (.inr h)
    ·exact .inl h
    ·exact .inr (.inl h)
   ·rintro(h | h | h)
    ·exact .inr (.inl h)
    ·exact .inr (.inr h)
    ·exact .inl h)
 rw[hs,R x.hi ⟨q,X,hu⟩,List.mem_cons,hw];constructor
 ·rintro(h | h)
  ·subst h;have I:S.gs[0]?=some y:=J;rw[D]at I;obtain rfl:=Option.some.inj I;exact .inl A
  ·obtain⟨i,V,e⟩:=List.mem_map.1 h;obtain⟨_,m,z,hm,U,_,N⟩:=ok.path M G V;rw[hm]at e;have Y:m=g:=e;subst Y;rw[J]at U;obtain rfl:=Option.some.inj U;rw[N];exact .inr V
 ·rintro(h | h)
  ·rw[h,E]at B;exact .inl (Option.some.inj B).symm
  ·exact .inr (List.mem_map.2 ⟨y.hi,h,by rw[B];rfl⟩)
theorem zd2{S S':Sc}{g n:Nat}{ns:Int}(hs:∀k,S'.sub (S'.t k).zpc g=S.sub (S.t k).zpc g)(hb:∀k,S'.book.bt k=if k=n then S.book.bt k+ns else S.book.bt k):∀k,S'.zrn g k=S.zrn g k+if n<k/\S.sub (S.t n).zpc g=true then ns else 0
 | 0=>by rw[if_neg (by omega)];rfl
 | k+1=>by
  unfold Sc.zrn;rw[zd2 hs hb k,hs k,hb k];by_cases e:k=n
  ·subst e;rw[if_pos rfl];by_cases A:S.sub (S.t k).zpc g=true
   ·simp only[A,and_true,if_true];rw[if_neg (Nat.lt_irrefl k),if_pos (Nat.lt_succ_self k)];omega
   ·simp[A]
  ·rw[if_neg e];by_cases A:S.sub (S.t n).zpc g=true
   ·simp only[A,and_true];by_cases B:n<k
    ·rw[if_pos B,if_pos (show n<k+1 by omega)];omega
    ·rw[if_neg B,if_neg (show ¬n<k+1 by omega)];omega
   ·simp[A]
theorem Sc.Kp.credit{S:Sc}{b:Nat}(ok:S.Ok b){P:List Int}(h:S.Kp P){n:Nat}{t:Tk}(R:S.ts[n]?=some t){ns:Int}:({ S with book:=S.book.credit (0::S.zqd t.zpc) n ns }:Sc).Kp P:=by
 have J:=(ze R).1;have T:=h.zpc n t R;obtain⟨x,O⟩:∃x,S.gs[t.zpc]?=some x:=⟨_,List.getElem?_eq_getElem T⟩
 have E:=h.all _ x O;have D:∀g,g∈0::S.zqd t.zpc->g<S.gs.length:=fun g B=>by
  rcases List.mem_cons.1 B with rfl | B
  ·have:=ok.gl;omega
  ·obtain⟨y,G,_⟩:=ok.zqQ O E g B;exact(ze G).1
 refine⟨h.all,h.len,h.p0,h.par,h.zpc,fun m hm=>?_,fun g B=>?_,fun g B=>?_⟩
 ·show zpt S.book.bt n (S.book.bt n+ns) m=0;have I:S.ts.length<=m:=hm;rw[zA _ _ (by omega)];exact h.bt0 m I
 ·show(if g∈0::S.zqd t.zpc then S.book.bg g+ns else S.book.bg g)=0;have A:S.gs.length<=g:=B;rw[if_neg fun hm=>by have:=D g hm;omega];exact h.bg0 g A
 ·have A:g<S.gs.length:=B;obtain⟨y,G⟩:∃y,S.gs[g]?=some y:=⟨_,List.getElem?_eq_getElem A⟩
  have N:=h.all _ y G;show(if g∈0::S.zqd t.zpc then S.book.bg g+ns else S.book.bg g)=_;have U:=zd2 (S:=S) (S':=({ S with book:=S.book.credit (0::S.zqd t.zpc) n ns }:Sc)) (g:=g) (n:=n) (ns:=ns) (fun _=>rfl) (fun k=>by
   show zpt S.book.bt n (S.book.bt n+ns) k=_;unfold zpt;split
   ·rename_i e;rw[e]
   ·rfl) S.ts.length
  rw[show({ S with book:=S.book.credit (0::S.zqd t.zpc) n ns }:Sc).ts.length=S.ts.length from rfl,U,<-h.sum g A,Sc.zp0 R];have hm:=zn5 ok O E G N;by_cases H:S.sub t.zpc g=true
  ·rw[if_pos (hm.2 H),if_pos ⟨J,H⟩]
  ·rw[if_neg fun M=>H (hm.1 M),if_neg fun M=>H M.2];omega
theorem Sc.Kp.zqo{S S':Sc}{P:List Int}(h:S.Kp P){t:Tk}(B:S'.gs=S.gs)(A:S'.ts=S.ts++ [t])(I:t.zpc<S.gs.length)(E:S'.tree=S.tree)(hb:S'.book=S.book):S'.Kp P:=by
 have G:∀a c,S'.sub a c=S.sub a c:=fun a c=>by unfold Sc.sub Sc.g;rw[B,E]
 refine⟨by rw[B];exact h.all,by rw[B];exact h.len,h.p0,by rw[B,E];exact h.par,?_,?_,by rw[B,hb];exact h.bg0,?_⟩
 ·intro n u hu;rw[B];rw[A]at hu;by_cases D:n<S.ts.length
  ·rw[List.getElem?_append_left D]at hu;exact h.zpc n u hu
  ·rw[List.getElem?_append_right (by omega)]at hu;have:n-S.ts.length=0:=by have:=(ze hu).1;simpa using this
   rw[this]at hu;simp at hu;rw[<-hu];exact I
 ·intro n D;rw[hb];rw[A]at D;simp at D;exact h.bt0 n (by omega)
 ·intro g H;rw[B]at H;rw[hb,A,List.length_append];show S.book.bg g=S'.zrn g S.ts.length+if S'.sub (S'.t S.ts.length).zpc g=true then S'.book.bt S.ts.length else 0
  rw[hb,h.bt0 S.ts.length (zg _),h.sum g H];have:S'.zrn g S.ts.length=S.zrn g S.ts.length:=zaS _ fun n D=>by
   have e:S'.t n=S.t n:=by unfold Sc.t;rw[A,List.getD_eq_getElem?_getD,List.getD_eq_getElem?_getD,List.getElem?_append_left D]
   rw[e,hb];exact⟨G _ _,rfl⟩
  rw[this];split <;> omega
theorem Sc.Kp.zpO{S:Sc}{b:Nat}(ok:S.Ok b)(hb:b<900)(hq:∀p,p<S.ps->(S.hs p).Ok){P:List Int}(h:S.Kp P){u:Nat}{y:Gp}(L:S.gs[u]?=some y)(h6:y.there=true)(hE:S.tree.zq3 y.hi y.hg=0){n:Int}(hn:2<=n/\n<=262144):(S.zpO u n).Kp (P++ [(u:Int)]):=by
 have G:=ok.ztE L h6 hE;obtain⟨F1,F2⟩:=ok.zpO hb hq L h6 hE hn;obtain⟨q,ho,H3,H2,H0⟩:=G.place;have hr:=(ze L).1;have A:(S.zpO u n).gs=S.gs++ [⟨S.tree.zqx (S.g u).hi (S.g u).hg,S.tree.zro (S.g u).hi (S.g u).hg,n,0,some ⟨0,0,0,0,List.replicate S.ps 0⟩,[],true⟩]:=rfl;obtain⟨g',C⟩:∃g':Gp,g'=⟨S.tree.zqx (S.g u).hi (S.g u).hg,S.tree.zro (S.g u).hi (S.g u).hg,n,0,some ⟨0,0,0,0,List.replicate S.ps 0⟩,[],true⟩:=⟨_,rfl⟩
 rw[<-C]at A;have r:g'.hi=S.tree.zqx y.hi y.hg:=by rw[C,Sc.zpj L]
 have I:(S.zpO u n).tree=S.tree.zrq y.hi y.hg:=by unfold Sc.zpO;rw[Sc.zpj L]
 have R:∀(k:Nat) (z:Gp),(S.gs++ [g'])[k]?=some z->(k=S.gs.length/\z=g')∨S.gs[k]?=some z:=fun k z D=>by
  by_cases f:k<S.gs.length
  ·rw[List.getElem?_append_left f]at D;exact .inr D
  ·rw[List.getElem?_append_right (by omega)]at D;have:k-S.gs.length=0:=by have:=(ze D).1;simpa using this
   rw[this]at D;simp at D;exact .inl ⟨by omega,D.symm⟩
 have B:∀(k:Nat) (z:Gp),S.gs[k]?=some z->(S.gs++ [g'])[k]?=some z:=fun k z D=>by rw[List.getElem?_append_left (ze D).1];exact D
 have hold:∀(k:Nat) (z:Gp),S.gs[k]?=some z->(S.tree.zrq y.hi y.hg).l[z.hi]?=S.tree.l[z.hi]?:=fun k z D=>G.zsK _ fun e=>by have:=(ok.gk k z D (h.all k z D)).2;rw[e,G.none]at this;cases this
 have hP:(P++ [(u:Int)])[S.gs.length]?=some (u:Int):=by rw[<-h.len];simp
 have W:∀k,k<S.gs.length->(P++ [(u:Int)])[k]?=P[k]?:=fun k f=>List.getElem?_append_left (by rw[h.len];exact f);have hj:∀(k:Nat) (z:Gp),k≠0->(S.gs++ [g'])[k]?=some z->∃(m:Nat) (v:Gp),(P++ [(u:Int)])[k]?=some (m:Int)/\m<k/\(S.gs++ [g'])[m]?=some v/\zrk (S.tree.zrq y.hi y.hg).l z.hi=v.hi:=fun k z f D=>by
  rcases R k z D with⟨rfl,rfl⟩ | D
  ·refine⟨u,y,hP,hr,B u y L,?_⟩;rw[r];unfold zrk;rw[zbG ho,H0];simp
  ·obtain⟨m,v,h1,h2,h3,h4⟩:=h.par k z f D;exact⟨m,v,by rw[W k (ze D).1];exact h1,h2,B m v h3,by rw[(zfL (hold k z D)).1];exact h4⟩
 have h5:∀a c,a<S.gs.length->c<S.gs.length->(S.zpO u n).sub a c=S.sub a c:=by
  have T:∀k a,a<=k->a<S.gs.length->∀c,c<S.gs.length->(S.zpO u n).sub a c=S.sub a c:=by
   intro k
   induction k with
   | zero=>
    intro a ha M c o;obtain rfl:a=0:=by omega
    obtain⟨z0,H,E,_⟩:=ok.g0;obtain⟨v,Q⟩:∃v,S.gs[c]?=some v:=⟨_,List.getElem?_eq_getElem o⟩
    unfold Sc.sub;rw[Sc.zpj (s:=S.zpO u n) (n:=0) (g:=z0) (by rw[A];exact B 0 z0 H),Sc.zpj (s:=S.zpO u n) (n:=c) (g:=v) (by rw[A];exact B c v Q),Sc.zpj H,Sc.zpj Q,E,un,un]
   | succ k ih=>
    intro a ha M c o;by_cases hle:a<=k
    ·exact ih a hle M c o
    ·obtain⟨x,J⟩:∃x,S.gs[a]?=some x:=⟨_,List.getElem?_eq_getElem M⟩
     obtain⟨v,Q⟩:∃v,S.gs[c]?=some v:=⟨_,List.getElem?_eq_getElem o⟩
     have X:a≠0:=by omega
     obtain⟨m,z,_,hm,D,K⟩:=h.par a x X J;obtain⟨⟨qa,Z,Y,_⟩,O⟩:=ok.gk a x J (h.all a x J);have d:x.hi≠0:=by intro e;obtain⟨z0,H,E,_,U,_⟩:=ok.g0;have:=(ok.gk 0 z0 H U).2;rw[E]at this;rw[e,this]at O;exact X (Option.some.inj O).symm
     have N:=ih m (by omega) (by omega) c o;have e1:=Sc.zpj (s:=S.zpO u n) (n:=a) (g:=x) (by rw[A];exact B a x J);have e2:=Sc.zpj (s:=S.zpO u n) (n:=c) (g:=v) (by rw[A];exact B c v Q);have e3:=Sc.zpj (s:=S.zpO u n) (n:=m) (g:=z) (by rw[A];exact B m z D);unfold Sc.sub at N ⊢;rw[e3,e2,Sc.zpj D,Sc.zpj Q,I]at N;rw[e1,e2,Sc.zpj J,Sc.zpj Q,I];have F:Tr (S.tree.zrq y.hi y.hg).l:=by rw[<-I];exact F1.tr
     rw[uo F (a:=x.hi) ⟨qa,(hold a x J).trans Z,Y⟩ d,uo ok.tr ⟨qa,Z,Y⟩ d,(zfL (hold a x J)).1,K,N]
  exact fun a c ha o=>T a a (zg _) ha c o
 have h9:(S.zpO u n).book=S.book:=rfl;have hl:(S.zpO u n).ts=S.ts:=rfl;have h0:∀(k:Nat) (z:Gp),(S.gs++ [g'])[k]?=some z->z.there=true:=fun k z D=>by
  rcases R k z D with⟨rfl,rfl⟩ | D
  ·rw[C]
  ·exact h.all k z D
 refine⟨by rw[A];exact h0,by rw[A];simp[h.len],?_,by rw[A,I];exact hj,?_,?_,?_,?_⟩
 ·rw[W 0 (by have:=ok.gl;omega)];exact h.p0
 ·intro k t j;have:=h.zpc k t j;rw[A];simp;omega
 ·exact h.bt0
 ·intro g hg;rw[A]at hg;simp at hg;exact h.bg0 g (by omega)
 ·intro g hg;rw[h9,hl];by_cases h8:g<S.gs.length
  ·rw[h.sum g h8];refine(zaS _ fun k f=>?_).symm;obtain⟨t,j⟩:∃t,S.ts[k]?=some t:=⟨_,List.getElem?_eq_getElem f⟩
   have e:(S.zpO u n).t k=S.t k:=rfl;rw[e,h9,Sc.zp0 j];exact⟨h5 _ _ (h.zpc k t j) h8,rfl⟩
  ·rw[A]at hg;simp at hg;obtain rfl:g=S.gs.length:=by omega
   rw[h.bg0 _ (zg _)];have D:∀k,k<=S.ts.length->(S.zpO u n).zrn S.gs.length k=0:=by
    intro k
    induction k with
    | zero=>intro _;rfl
    | succ k ih=>
     intro f;unfold Sc.zrn;rw[ih (by omega)];obtain⟨t,j⟩:∃t,S.ts[k]?=some t:=⟨_,List.getElem?_eq_getElem (by omega)⟩
     have e:(S.zpO u n).t k=t:=Sc.zp0 j;rw[e];have h7:=h.zpc k t j;obtain⟨x,J⟩:∃x,S.gs[t.zpc]?=some x:=⟨_,List.getElem?_eq_getElem h7⟩
     have hf:(S.zpO u n).sub t.zpc S.gs.length=false:=by
      have V:(S.zpO u n).gs[S.gs.length]?=some g':=by rw[A];simp
      have T:∀k a,a<=k->a<S.gs.length->(S.zpO u n).sub a S.gs.length=false:=by
       intro k
       induction k with
       | zero=>
        intro a ha M;obtain rfl:a=0:=by omega
        obtain⟨z0,H,E,_⟩:=ok.g0;unfold Sc.sub;rw[Sc.zpj (s:=S.zpO u n) (n:=0) (g:=z0) (by rw[A];exact B 0 z0 H),Sc.zpj V,E,un,r];simpa using G.ne0
       | succ k ih=>
        intro a ha M;by_cases hle:a<=k
        ·exact ih a hle M
        ·obtain⟨x,J⟩:∃x,S.gs[a]?=some x:=⟨_,List.getElem?_eq_getElem M⟩
         have X:a≠0:=by omega
         obtain⟨m,z,_,hm,D,K⟩:=h.par a x X J;obtain⟨⟨qa,Z,Y,_⟩,O⟩:=ok.gk a x J (h.all a x J);have d:x.hi≠0:=by intro e;obtain⟨z0,H,E,_,U,_⟩:=ok.g0;have:=(ok.gk 0 z0 H U).2;rw[E]at this;rw[e,this]at O;exact X (Option.some.inj O).symm
         have N:=ih m (by omega) (by omega);have e1:=Sc.zpj (s:=S.zpO u n) (n:=a) (g:=x) (by rw[A];exact B a x J);have e3:=Sc.zpj (s:=S.zpO u n) (n:=m) (g:=z) (by rw[A];exact B m z D);have e2:=Sc.zpj V;unfold Sc.sub at N ⊢;rw[e3,e2,I]at N;rw[e1,e2,I];have F:Tr (S.tree.zrq y.hi y.hg).l:=by rw[<-I];exact F1.tr
         rw[uo F (a:=x.hi) ⟨qa,(hold a x J).trans Z,Y⟩ d,(zfL (hold a x J)).1,K,N,r];have hh:S.tree.zqx y.hi y.hg≠x.hi:=by intro e;rw[<-e,G.none]at O;cases O
         simpa using hh
      exact T _ _ (zg _) h7
     rw[hf];simp
   exact(D _ (zg _)).symm
theorem ux{S:Sc}{n:Nat}{t t':Tk}(B:S.ts[n]?=some t)(e:t'.zpc=t.zpc):S.zqr (S.zps n t'):=
 ⟨rfl,fun m x h=>⟨x,h,rfl,rfl⟩,by show(S.ts.set n t').length=_;rw[List.length_set],fun m x A=>by
  by_cases he:m=n
  ·subst he;rw[B]at A;obtain rfl:=Option.some.inj A;exact⟨t',xu B,e⟩
  ·exact⟨x,by show(S.ts.set n t')[m]?=_;rw[List.getElem?_set_ne (Ne.symm he)];exact A,rfl⟩,rfl,rfl⟩
theorem zay{S:Sc}{n:Nat}{g g':Gp}(B:S.gs[n]?=some g)(D:g'.hi=g.hi)(E:g'.there=g.there):S.zqr (S.zpd n g'):=
 ⟨by
  show(S.gs.set n g').length=_;rw[List.length_set],fun m x A=>by
  by_cases he:m=n
  ·subst he;rw[B]at A;obtain rfl:=Option.some.inj A;exact⟨g',zK B,D,E⟩
  ·exact⟨x,by show(S.gs.set n g')[m]?=_;rw[List.getElem?_set_ne (Ne.symm he)];exact A,rfl,rfl⟩,rfl,fun m x h=>⟨x,h,rfl⟩,rfl,rfl⟩
theorem Sc.zqr.zpf{S S':Sc}(h:S.zqr S')(p:Nat)(x:Hm):S.zqr (S'.zpf p x):=⟨h.gl,h.g,h.tl,h.t,h.tree,h.book⟩
theorem Sc.zqr.zpG{S S':Sc}(h:S.zqr S')(p:Nat)(x:Ck):S.zqr (S'.zpG p x):=⟨h.gl,h.g,h.tl,h.t,h.tree,h.book⟩
theorem Sc.zqr.pool{S S':Sc}(h:S.zqr S')(x:Pi.Ps):S.zqr { S' with pool:=x }:=⟨h.gl,h.g,h.tl,h.t,h.tree,h.book⟩
theorem zaT{S:Sc}{n:Nat}{t:Tk}(A:S.ts[n]?=some t):S.zqr (S.leave n):=by have h:=ux (S:=S) (t':={ S.t n with min:=S.least n (S.t n).p,e:=(S.hs (S.t n).p).gone (S.g (S.t n).zpc).hi (S.t n).hi,on:=false }) A (by rw[Sc.zp0 A]);exact h.zpf _ _
theorem zcW{S:Sc}{n:Nat}{t:Tk}(A:S.ts[n]?=some t)(p:Nat)(woke:Bool):S.zqr (S.put n p woke):=by have h:=ux (S:=S) (t':=(S.t n).zqj p (S.zqP n p woke)) A (by rw[Sc.zp0 A];rfl);exact h.zpf _ _
theorem zeO{g:Nat}:∀(l:List Nat) {S:Sc} {x:Gp} (A:S.gs[g]?=some x),S.zqr (Sc.zqu g l S)
 | [],S,x,A=>.refl S
 | p::r,S,x,A=>by unfold Sc.zqu;rw[Sc.zpj A];have B:=zay (g':=x.zpm r) A rfl rfl;exact((B.zpf p _)).trans (zeO r (S:=(S.zpd g (x.zpm r)).zpf p ((S.hs p).stop x.hi false)) (x:=x.zpm r) (zK A))
theorem zk0{S:Sc}{b:Nat}(h:S.Fit b)(e:Ev):S.zqr (S.block e).1:=by
 unfold Sc.block;split
 ·rename_i B;obtain⟨p,n,t,_,_,A,_,D,_⟩:=vA h B;rw[A,Int.toNat_natCast];exact zaT D
 ·exact .refl S
theorem zm3{S:Sc}{b:Nat}(h:S.Fit b)(e:Ev):S.zqr (S.exit e).1:=by
 unfold Sc.exit;split
 ·rename_i E;obtain⟨p,n,t,_,_,A,_,D,ho,_,_⟩:=vA h E;rw[A,Int.toNat_natCast];obtain⟨t1,B,_⟩:=qn D;simp only;rw[Sc.zp0 B];exact((zaT D).trans (ux (t':={ t1 with dead:=true }) B rfl)).pool _
 ·exact .refl S
theorem ziN(S:Sc)(e:Ev):S.zqr (S.zqz e).1:=by
 unfold Sc.zqz;split
 ·exact(Sc.zqr.refl S).zpf _ _
 ·exact .refl S
theorem zm4{S:Sc}(e:Ev):S.zqr (S.zrb e).1:=by
 unfold Sc.zrb;cases hg:S.tsk? e.a with
 | none=>exact .refl S
 | some n=>
  obtain⟨ha,t,A,hd,h0⟩:=qB hg;simp only;split
  ·exact .refl S
  ·split <;> exact zcW A _ _
theorem zk1{S:Sc}(e:Ev):S.zqr (S.zqI e).1:=by
 unfold Sc.zqI;cases hg:S.tsk? e.a with
 | none=>exact .refl S
 | some n=>
  obtain⟨ha,t,B,hd,A⟩:=qB hg;simp only;split
  ·exact .refl S
  ·rw[A];split
   ·exact((Sc.zqr.refl S).zpf t.p ((S.hs t.p).nice (S.g t.zpc).hi t.hi (xq e.n))).trans (ux (S:=S.zpf t.p ((S.hs t.p).nice (S.g t.zpc).hi t.hi (xq e.n))) (t:=t) B rfl)
   ·exact ux B rfl
theorem zk2{S:Sc}(e:Ev):S.zqr (S.zqE e).1:=by
 unfold Sc.zqE;cases hg:S.tsk? e.a with
 | none=>exact .refl S
 | some n=>
  obtain⟨ha,t,E,hd,B⟩:=qB hg;simp only;split
  ·exact .refl S
  ·rw[B];have D:S.zqr (S.zps n { t with mask:=e.mask }):=ux E rfl;have A:=xu (t':={ t with mask:=e.mask }) E;split
   ·have G:=D.trans (zaT A);obtain⟨t2,g1,_⟩:=qn A;split <;> exact G.trans (zcW g1 _ _)
   ·exact D
theorem zhk{S:Sc}(e:Ev):S.zqr (S.zp3 e).1:=by
 unfold Sc.zp3;cases hg:S.grp? e.a with
 | none=>exact .refl S
 | some g=>
  obtain⟨ha,x,B,h0,A⟩:=yw hg;simp only;split
  ·exact .refl S
  ·split
   ·exact .refl S
   ·rw[A];exact zay B rfl rfl
theorem ziO{S:Sc}(e:Ev):S.zqr (S.zpF e).1:=by
 unfold Sc.zpF;cases hg:S.grp? e.a with
 | none=>exact .refl S
 | some g=>
  obtain⟨ha,x,B,h0,A⟩:=yw hg;simp only;rw[A];cases hd:x.band with
  | none=>exact .refl S
  | some d=>
   simp only;split
   ·exact zay B rfl rfl
   ·exact .refl S
theorem zk3{S:Sc}(e:Ev):S.zqr (S.zqH e).1:=by
 unfold Sc.zqH;cases hg:S.grp? e.a with
 | none=>exact .refl S
 | some g=>
  obtain⟨ha,x,B,h0,A⟩:=yw hg;simp only;rw[A];split
  ·exact .refl S
  ·cases hd:x.band with
   | none=>exact .refl S
   | some d=>
    simp only;split
    ·exact .refl S
    ·exact(zay (g':={ x.zpl (d.zqs e.n e.m)with quota:=e.n }) B rfl rfl).trans (zeO _ (zK B))
def Sc.zsx(S:Sc)(o:Out):Prop:=(∃f:Int,f≠0/\o=(S,0,f))∨∃(n:Nat) (t:Tk) (p:Nat),S.ts[n]?=some t/\t.on=true/\p<S.ps/\o=((S.leave n).put n p false,(n:Int),0)
theorem zhl{S:Sc}{b:Nat}(h:S.Fit b){o:Out}(G:S.zsx o):o.1.Fit b/\S.zqr o.1:=by
 rcases G with⟨f,_,rfl⟩ | ⟨n,t,p,B,A,hp,rfl⟩
 ·exact⟨h,.refl S⟩
 ·obtain⟨t1,D,E,H,_⟩:=qn B;have hd:t1.dead=false:=H.trans (h.1.dead n t B A);exact⟨zbP (qY h B A) D hd E hp false,(zaT B).trans (zcW D p false)⟩
theorem zaz{p:Nat}{ns:Int}:∀(l:List Nat) {S:Sc} (B:∀g∈l,g<S.gs.length),S.zqr (Sc.zpE p ns l S)
 | [],S,B=>.refl S
 | g::r,S,B=>by
  obtain⟨x,E⟩:∃x,S.gs[g]?=some x:=⟨_,List.getElem?_eq_getElem (B g List.mem_cons_self)⟩
  unfold Sc.zpE;rw[Sc.zpj E];cases hd:x.band with
  | none=>exact zaz r fun g' A=>B g' (List.mem_cons_of_mem _ A)
  | some d=>
   have D:=zay (S:=S) (g':=x.zpl ((d.zpn p (zZ d p) ns).zqv p (d.left (zZ d p) ns))) E rfl rfl;exact D.trans (zaz r fun g' A=>by rw[D.gl];exact B g' (List.mem_cons_of_mem _ A))
theorem zm5{S:Sc}{b:Nat}(h:S.Fit b){P:List Int}(B:S.Kp P)(e:Ev):(S.zpz e).1.Kp P:=by
 by_cases hp:S.zqM e.a
 ·by_cases D:e.n<0∨S.tick<e.n
  ·have:S.zpz e=(S,0,8):=by unfold Sc.zpz;rw[if_neg (by simpa using hp),if_pos D]
   rw[this];exact B
  ·have E:e.a.toNat<S.ps:=by have:=hp.1;have:=hp.2;omega
   by_cases I:S.running e.a.toNat= -1
   ·rw[uQ hp D I];exact B.zrH ((Sc.zqr.refl S).zpG _ _)
   ·obtain⟨n,t,g,R,H,e3,e4,M,N,_⟩:=h.run E I;rw[uR hp D R H];have J:=B.credit h.1 H (ns:=e.n);have G:(S.zqa e.a.toNat n t.zpc e.n).Kp P:=by unfold Sc.zqa;refine(J.zrH ((Sc.zqr.refl _).zpf e.a.toNat ((S.hs e.a.toNat).zpg e.n))).zrH (zaz _ fun g' A=>?_);unfold Sc.limited at A;obtain⟨y,O,_⟩:=h.1.zqQ M N g' (List.mem_filter.1 A).1;exact(ze O).1
    simp only;split
    ·exact G.zrH ((((Sc.zqr.refl _).zpG _ _).zpf _ _).zpG _ _)
    ·exact G.zrH ((Sc.zqr.refl _).zpG _ _)
 ·have:S.zpz e=(S,0,1):=by unfold Sc.zpz;rw[if_pos (by simpa using hp)]
  rw[this];exact B
def Sc.zrN(S:Sc)(A B:Sc->Ev->Out->Prop)(e:Ev)(o:Out):Prop:=
 (e.kind=1/\o=S.grow e)∨(e.kind=2/\A S e o)∨(e.kind=3/\B S e o)∨(e.kind=4/\o=S.zp3 e)∨(e.kind=5/\o=S.zqH e)∨(e.kind=6/\o=S.spawn e)∨(e.kind=7/\o=S.zrb e)∨
 (e.kind=8/\o=S.block e)∨(e.kind=9/\o=S.zqz e)∨(e.kind=10/\o=S.exit e)∨(e.kind=11/\o=S.zpz e)∨(e.kind=12/\o=S.zpF e)∨(e.kind=13/\S.zsx o)∨(e.kind=14/\o=S.zqI e)∨(e.kind=15/\o=S.zqE e)
def Sc.ztG(S:Sc)(A B:Sc->Ev->Out->Prop)(e:Ev)(S':Sc)(n f:Int):Prop:=
 (¬(1<=e.kind/\e.kind<=15)/\S'=S/\n=0/\f=1)∨∃o,S.zrN A B e o/\((o.2.2=0/\S'=o.1.settle/\n=o.2.1/\f=0)∨(o.2.2≠0/\S'=o.1/\n=0/\f=o.2.2))
def Ev.Ok(e:Ev):Prop:=0<=e.mask/\e.mask<=18446744073709551615
theorem zfM{S:Sc}{b:Nat}{D M:Sc->Ev->Out->Prop}(E:∀e o,D S e o->o.1.Fit (b+1))(B:∀e o,M S e o->o.1.Fit (b+1))(h:S.Fit b)(hb:b<900){e:Ev}(he:e.Ok){o:Out}(A:S.zrN D M e o):o.1.Fit (b+1):=by
 rcases A with⟨_,rfl⟩ | ⟨_,A⟩ | ⟨_,A⟩ | ⟨_,rfl⟩ | ⟨_,rfl⟩ | ⟨_,rfl⟩ | ⟨_,rfl⟩ | ⟨_,rfl⟩ | ⟨_,rfl⟩ | ⟨_,rfl⟩ | ⟨_,rfl⟩ | ⟨_,rfl⟩ | ⟨_,A⟩ | ⟨_,rfl⟩ | ⟨_,rfl⟩
 ·exact zm2 h hb e
 ·exact E e o A
 ·exact B e o A
 ·exact(zhi h e).more hb
 ·exact(zkX h e).more hb
 ·exact zkY h hb e he
 ·exact(zm0 h e).more hb
 ·exact(zkU h e).more hb
 ·exact(ziL h e).more hb
 ·exact zmZ h hb e
 ·exact zkZ h hb e
 ·exact(ziM h e).more hb
 ·exact(zhl h A).1.more hb
 ·exact(zkV h e).more hb
 ·exact(zkW h e he).more hb
theorem zoP{S:Sc}{b:Nat}{D M:Sc->Ev->Out->Prop}(E:∀e o,D S e o->o.1.Fit (b+1))(B:∀e o,M S e o->o.1.Fit (b+1))(h:S.Fit b)(hb:b<900){e:Ev}(he:e.Ok){S':Sc}{n f:Int}(A:S.ztG D M e S' n f):S'.Fit (b+1):=by
 rcases A with⟨_,rfl,_⟩ | ⟨o,A,⟨_,rfl,_⟩ | ⟨_,rfl,_⟩⟩
 ·exact h.more hb
 ·exact(zdX (zfM E B h hb he A)).1
 ·exact zfM E B h hb he A
def Ev.more(e:Ev)(f:Int)(P:List Int):List Int:=if e.kind=1/\f=0 then P++ [e.a]else P
def Ev.zqJ(e:Ev)(f:Int)(T:List Int):List Int:=if e.kind=6/\f=0 then T++ [e.a]else T
def Sc.zpV(S:Sc):List Int:=S.ts.map fun t=>(t.zpc:Int)
theorem zd3{S S':Sc}(h:S.zqr S'):S'.zpV=S.zpV:=by
 unfold Sc.zpV;refine List.ext_getElem? fun n=>?_;rw[List.getElem?_map,List.getElem?_map];cases hx:S.ts[n]? with
 | none=>
  have:S'.ts[n]?=none:=by rw[List.getElem?_eq_none_iff,h.tl];exact List.getElem?_eq_none_iff.1 hx
  rw[this]
 | some x=>
  obtain⟨y,A,e⟩:=h.t n x hx;rw[A];show some (y.zpc:Int)=some (x.zpc:Int);rw[e]
theorem zk4(S:Sc)(p n zpc:Nat)(ns:Int):(S.zqa p n zpc ns).ts=S.ts:=by
 have:∀(l:List Nat) (S:Sc),(Sc.zpE p ns l S).ts=S.ts:=by
  intro l
  induction l with
  | nil=>intro S;rfl
  | cons g r ih=>
   intro S;unfold Sc.zpE;split
   ·exact ih S
   ·rw[ih];rfl
 unfold Sc.zqa;rw[this];rfl
theorem zm6{S:Sc}{b:Nat}(h:S.Fit b)(e:Ev):(S.zpz e).1.ts=S.ts:=by
 by_cases hp:S.zqM e.a
 ·by_cases D:e.n<0∨S.tick<e.n
  ·have:S.zpz e=(S,0,8):=by unfold Sc.zpz;rw[if_neg (by simpa using hp),if_pos D]
   rw[this]
  ·have A:e.a.toNat<S.ps:=by have:=hp.1;have:=hp.2;omega
   by_cases E:S.running e.a.toNat= -1
   ·rw[uQ hp D E];rfl
   ·obtain⟨n,t,g,G,H,_⟩:=h.run A E;have B:=zk4 S e.a.toNat n t.zpc e.n;rw[uR hp D G H];generalize S.zqa e.a.toNat n t.zpc e.n=T at B ⊢;simp only;split
    ·exact B
    ·exact B
 ·have:S.zpz e=(S,0,1):=by unfold Sc.zpz;rw[if_pos (by simpa using hp)]
  rw[this]
theorem zoY{S:Sc}{b:Nat}{D M:Sc->Ev->Out->Prop}(h:S.Fit b)(hb:b<900){e:Ev}(he:e.Ok){o:Out}(I:S.zrN D M e o)(X:e.kind≠2)(c:e.kind≠3){P:List Int}(B:S.Kp P):o.1.Kp (e.more o.2.2 P)/\o.1.zpV=e.zqJ o.2.2 S.zpV:=by
 have zrH:∀(k:Int) (o:Out),e.kind=k->k≠1->k≠6->S.zqr o.1->o.1.Kp (e.more o.2.2 P)/\o.1.zpV=e.zqJ o.2.2 S.zpV:=fun k o G Y j E=>by unfold Ev.more Ev.zqJ;rw[if_neg (by rw[G];exact fun h=>Y h.1),if_neg (by rw[G];exact fun h=>j h.1)];exact⟨B.zrH E,zd3 E⟩
 rcases I with⟨A,rfl⟩ | ⟨A,I⟩ | ⟨A,I⟩ | ⟨A,rfl⟩ | ⟨A,rfl⟩ | ⟨A,rfl⟩ | ⟨A,rfl⟩ | ⟨A,rfl⟩ | ⟨A,rfl⟩ | ⟨A,rfl⟩ | ⟨A,rfl⟩ | ⟨A,rfl⟩ | ⟨A,I⟩ | ⟨A,rfl⟩ | ⟨A,rfl⟩
 ·unfold Ev.more Ev.zqJ;rw[if_neg (show ¬(e.kind=6/\_)by rw[A];exact fun h=>by omega)];unfold Sc.grow;cases hg:S.grp? e.a with
  | none=>simp only;rw[if_neg (fun h=>by cases h.2)];exact⟨B,by first | rfl | trivial⟩
  | some u=>
   obtain⟨T,y,Z,R,N⟩:=yw hg;simp only;split
   ·rw[if_neg (fun h=>by cases h.2)];exact⟨B,by first | rfl | trivial⟩
   ·rename_i hw;rw[N];split
    ·rename_i O;rw[if_neg (fun h=>O h.2)];exact⟨B,rfl⟩
    ·rename_i O;rw[if_pos ⟨A,rfl⟩];have J:2<=e.n/\e.n<=262144:=by unfold xg at hw;simpa using hw
     have:=B.zpO h.1 hb h.2 Z R (Decidable.not_not.1 O) J;rw[T];exact⟨this,rfl⟩
 ·exact absurd A X
 ·exact absurd A c
 ·exact zrH _ _ A (by omega) (by omega) (zhk e)
 ·exact zrH _ _ A (by omega) (by omega) (zk3 e)
 ·unfold Ev.more Ev.zqJ;rw[if_neg (show ¬(e.kind=1/\_)by rw[A];exact fun h=>by omega)];unfold Sc.spawn;cases hg:S.grp? e.a with
  | none=>simp only;rw[if_neg (fun h=>by cases h.2)];exact⟨B,by first | rfl | trivial⟩
  | some g=>
   obtain⟨T,x,d,h4,h5⟩:=yw hg;simp only;split
   ·rw[if_neg (fun h=>by cases h.2)];exact⟨B,by first | rfl | trivial⟩
   ·rename_i h0;cases hf:S.free (-1) e.mask with
    | none=>simp only;rw[if_neg (fun h=>by cases h.2)];exact⟨B,by first | rfl | trivial⟩
    | some p=>
     simp only;split
     ·rw[if_neg (fun h=>by cases h.2)];exact⟨B,by first | rfl | trivial⟩
     ·rw[if_pos ⟨A,rfl⟩];have U:=(ze d).1;obtain⟨t,H⟩:∃t,(S.zqo g p e).ts=S.ts++ [t]/\t.zpc=g:=⟨_,rfl,rfl⟩
      have l:=B.zqo (S':=S.zqo g p e) (t:=t) rfl H.1 (by rw[H.2];exact U) rfl rfl;have f:(S.zqo g p e).ts[S.ts.length]?=some t:=by rw[H.1];simp
      have V:=zcW f p false;refine⟨l.zrH V,?_⟩;rw[zd3 V];unfold Sc.zpV;rw[H.1,List.map_append,T];simp[H.2]
 ·exact zrH _ _ A (by omega) (by omega) (zm4 e)
 ·exact zrH _ _ A (by omega) (by omega) (zk0 h e)
 ·exact zrH _ _ A (by omega) (by omega) (ziN S e)
 ·exact zrH _ _ A (by omega) (by omega) (zm3 h e)
 ·unfold Ev.more Ev.zqJ;rw[if_neg (show ¬(e.kind=1/\_)by rw[A];exact fun h=>by omega),if_neg (show ¬(e.kind=6/\_)by rw[A];exact fun h=>by omega)];exact⟨zm5 h B e,by unfold Sc.zpV;rw[zm6 h]⟩
 ·exact zrH _ _ A (by omega) (by omega) (ziO e)
 ·exact zrH _ _ A (by omega) (by omega) (zhl h I).2
 ·exact zrH _ _ A (by omega) (by omega) (zk1 e)
 ·exact zrH _ _ A (by omega) (by omega) (zk2 e)
section
attribute [local go_sem ↓] Go.wp_at_zero Go.wp_at_succ
theorem zcj{w:World}{F:Nat->Prop}{s:Nat}{S:Sc}{L:Lay}{b:Nat}(h:zq w F s S L)(ok:S.Ok b){a:Int}(B:(S.zph a).2=0):∃(p n:Nat) (t:Tk),a=p/\p<S.ps/\S.zph a=((n:Int),0)/\S.running p=(n:Nat)/\S.ts[n]?=some t/\t.on=true/\t.p=p/\(S.hs p).running≠ -1:=by
 unfold Sc.zph at B ⊢;by_cases hp:S.zqM a
 ·rw[if_neg (by simpa using hp)]at B ⊢;obtain⟨p,rfl⟩:∃p:Nat,a=p:=⟨a.toNat,by have:=hp.1;omega⟩
  have A:p<S.ps:=by have:=hp.2;omega
  rw[Int.toNat_natCast]at B ⊢;by_cases D:S.running p= -1
  ·rw[if_pos D]at B;cases B
  ·rw[if_neg D];obtain⟨G,J,_⟩:=h.zq5 A;obtain⟨n,t,E,I,M,N,H⟩:=ok.runs A J.2 D;exact⟨p,n,t,rfl,A,by rw[E],E,I,M,N,H⟩
 ·rw[if_pos (by simpa using hp)]at B;cases B
theorem zck{S:Sc}{a:Int}(A:(S.zph a).2≠0):S.zph a=(0,(S.zph a).2):=by
 unfold Sc.zph at A ⊢;split
 ·rfl
 ·rename_i D;rw[if_neg D]at A;split
  ·rfl
  ·rename_i B;rw[if_neg B]at A;exact absurd rfl A
theorem zcA(e:Ev)(b:Nat)(w:World)(F:Nat->Prop)(s:Nat)(S:Sc)(L:Lay)(h:zq w F s S L)(ok:S.Ok b):
 Calls prog 49 #[ptr s,.agg (zpu e)] w (zq1 w F s L (S.block e)):=by
 obtain⟨w1,D⟩:=zh (w.alloc (.cells (zpu e) 35))
 have H:Below w.heap.size w w1:=by rw[D];exact zk w _
 have U:=h.behind H;have T:Hid (zn w F s S L w1):=zc ((zn.refl h).below H);have M:=zc (zbS e w1 F s S L U);have Z:=zc U;unfold zq1;by_cases O:(S.zph e.a).2=0
 ·obtain⟨p,n,t,K,hp,B,X,l,u,k,Y⟩:=zcj h ok O;have E:S.block e=(S.leave n,(n:Int),0):=by unfold Sc.block;rw[B];simp
  rw[E];rw[B]at M;have C:=zc (fun V m (y:zq V m s S L)=>zaw n t b V m s S L y ok l u);have N:=(ze l).1;have h0:(n:Int) <(S.ts.length:Int):=by omega
  have d:=zc N;have h3:S.ts.length<=1000:=by have:=ok.tl;have:=ok.zqg;omega
  clear h ok U H O K hp B X l u k Y E N;go_enter func49,ntmps49;go_wp2_with fail;rw[show w.alloc (.cells (zpu e) 35)=w1 from D.symm];clear D;refine M.out.mono ?_;rintro z V ⟨rfl,A⟩;have J:=zc (Z.out.behind A);have G:=zc (T.out.below A);obtain⟨-,o,I⟩:=J.out.zqi;obtain⟨r,cap,x,P,j⟩:=I n d.out;rw[x]at o;have c:=J.out.zqq.2;clear A I x;go_wp2_with fail;refine(C.out _ _ G.out.1).mono ?_;rintro z w3 ⟨⟨v,rfl⟩,R⟩;have g:=zc (G.out.then R);clear R o P j c;go_wp2;go_ret2;exact⟨rfl,g.out⟩
 ·have B:=zck O;have E:S.block e=(S,0,(S.zph e.a).2):=by unfold Sc.block;rw[if_neg O]
  rw[E];rw[B]at M;obtain⟨f,q⟩:=zh ((S.zph e.a).2)
  rw[<-q]at M O ⊢;clear h ok U H B E q;go_enter func49,ntmps49;go_wp2_with fail;rw[show w.alloc (.cells (zpu e) 35)=w1 from D.symm];clear D;refine M.out.mono ?_;rintro z V ⟨rfl,A⟩;have G:=zc (T.out.below A);clear A;go_wp2;go_ret2;exact⟨rfl,G.out⟩
theorem zq.ats{w:World}{F:Nat->Prop}{s:Nat}{S:Sc}{L:Lay}(h:zq w F s S L){i:Nat}(A:i<64):w.cell? ⟨s,41+i,none⟩=some (.int .i64 (S.at_ i)):=by obtain⟨tg,h⟩:=h;exact h.sx.at_ i A
theorem zn.grow{w w':World}{F G:Nat->Prop}{s:Nat}{S:Sc}{L:Lay}(a:zn w F s S L w')(A:∀k,F k->G k):zn w G s S L w':=
 ⟨a.1.mono fun k _ B=>B.imp (A k) id,a.2.mono A⟩
theorem zhm(e:Ev)(b:Nat)(w:World)(F:Nat->Prop)(s:Nat)(S:Sc)(L:Lay)(h:zq w F s S L)(ok:S.Ok b):
 Calls prog 51 #[ptr s,.agg (zpu e)] w (zq1 w F s L (S.zqz e)):=by
 obtain⟨w1,B⟩:=zh (w.alloc (.cells (zpu e) 35))
 have J:Below w.heap.size w w1:=by rw[B];exact zk w _
 have h1:=h.behind J;have P:Hid (zn w F s S L w1):=zc ((zn.refl h).below J);have o:=zc (zbS e w1 F s S L h1);have C:zp1 w1 w.heap.size e:=by rw[B];exact zp1.new w e
 have Q:=zc C;obtain⟨D,V⟩:=zh w.heap.size
 rw[<-V]at Q;unfold zq1;by_cases T:(S.zph e.a).2=0
 ·obtain⟨p,n,t,ha,hp,H,y,hn,ho,h0,U⟩:=zcj h ok T;obtain⟨G0,l,_⟩:=h.zq5 hp;obtain⟨g,i,K,hi,h3⟩:=ziF l.2 (ok.hf p hp) U;have I:S.zqz e=(S.zpf p (S.hs p).yield.1,(S.at_ i:Int),0):=by unfold Sc.zqz;rw[if_pos T,ha,Int.toNat_natCast,K,Int.toNat_natCast]
  rw[I];rw[H]at o;have HY:=zc K;have HO:=zc (show zq w (fun k=>F k/\k<w.heap.size) s S L from h.mono fun k X x=>⟨x,X⟩);have m:=zc J;have h4:=zc V;have HA:=zc ha;have h8:(p:Int) <(S.ps:Int):=by omega
  have h6:(i:Int) <64:=by omega
  have h7:S.ps<=64:=ok.ps.2;obtain⟨r,cap,hv⟩:=h.zsH hp;have HV:=zc hv;clear h ok h1 J T ha H y hn ho h0 U I K h3 l C hv;go_enter func51,ntmps51;go_wp2_with fail;rw[show w.alloc (.cells (zpu e) 35)=w1 from B.symm,<-V];clear B V;refine o.out.mono ?_;rintro z u ⟨rfl,E⟩;have q:=zc (zj m.out E m.out.size);have M:=zc (HO.out.behind q.out);have N:=zc (Q.out.behind E);clear E;obtain⟨O,rp,Z⟩:=M.out.zqF (p:=p) hp HV.out;obtain⟨-,v,-⟩:=N.out.c6;rw[HA.out]at v;have j:=N.out.lt;have Y:=M.out.zqq.2;have d:=M.out.ats hi;obtain⟨G,hH,hU⟩:=M.out.zq5 (p:=p) hp;have HU:=zc hU
  have HP:=zc (zdB u.drew G (L.hb p) (S.hs p) (hH.kept fun k _ _=>rfl));rw[HY.out]at HP;clear hU hH;go_wp2_with fail;go_region_held3 (fun w'=>w'.cell? ⟨s,105,none⟩=some (.slice (some ⟨r,0,none⟩) S.ps cap)/\w'.cell? ⟨r,p,none⟩=some (ptr (L.hb p))/\w'.cell? ⟨D,1,none⟩=some (.int .i64 p)/\w'.cell? ⟨s,41+i,none⟩=some (.int .i64 (S.at_ i))) (go_keep)
   (first
    | (
     go_at_call 95;refine HP.out.mono ?_;rintro z w3 ⟨rfl,c⟩;have A:=HU.out _ _ (yW.zo7 (F:=G) (⟨rfl,rfl,rfl,zg _,fun _ _=>rfl⟩:Below u.heap.size u u.drew) c);have h2:=zc A;have R:zp1 w3 D e:=(A.2.block D N.out.lt (fun X=>by have:=X.2;rw[<-h4.out]at this;omega)).trans N.out;clear c O rp Z v j Y d;obtain⟨O,rp,Z⟩:=A.1.zqF (p:=p) hp HV.out;obtain⟨-,v,-⟩:=R.c6;rw[HA.out]at v;have j:=R.lt;have Y:=A.1.zqq.2;have d:w3.cell? ⟨s,41+i,none⟩=some (.int .i64 (S.at_ i)):=A.1.ats hi;clear A R))
  all_goals
   have h5:=zc (zn.zo7 q.out (h2.out.grow (G:=F) fun k X=>X.1));go_wp2;go_ret2;exact⟨rfl,h5.out⟩
 ·have H:=zck T;have I:S.zqz e=(S,0,(S.zph e.a).2):=by unfold Sc.zqz;rw[if_neg T]
  rw[I];rw[H]at o;obtain⟨f,x⟩:=zh ((S.zph e.a).2)
  rw[<-x]at o T ⊢;clear h ok h1 J H I x C V Q;go_enter func51,ntmps51;go_wp2_with fail;rw[show w.alloc (.cells (zpu e) 35)=w1 from B.symm];clear B;refine o.out.mono ?_;rintro z u ⟨rfl,E⟩;have W:=zc (P.out.below E);clear E;go_wp2;go_ret2;exact⟨rfl,W.out⟩
theorem zk5{S:Sc}{a:Int}{n:Nat}(h:S.tsk? a=some n):a=n/\∃t,S.ts[n]?=some t/\t.dead=false/\S.t n=t:=by
 unfold Sc.tsk? at h;split at h
 ·rename_i B;obtain rfl:=Option.some.inj h;obtain⟨t,A⟩:∃t,S.ts[a.toNat]?=some t:=⟨_,List.getElem?_eq_getElem (by omega)⟩
  refine⟨by omega,t,A,?_,Sc.zp0 A⟩;have:=B.2.2;rw[Sc.zp0 A]at this;exact this
 ·cases h
theorem zm7{n:Int}(h1: -128<=n)(h2:n<=127):IntKind.i8.wrap n=n:=by simp only[IntKind.wrap,IntKind.signed,IntKind.bits];simp;omega
theorem zm8(n:Int): -128<=IntKind.i8.wrap n/\IntKind.i8.wrap n<=127:=by simp only[IntKind.wrap,IntKind.signed,IntKind.bits];simp;omega
theorem uy{n:Int}(h1: -128<=n)(h2:n<=127):IntKind.i64.wrap n=n:=by simp only[IntKind.wrap,IntKind.signed,IntKind.bits];simp;omega
theorem ziP(e:Ev)(b:Nat)(w:World)(F:Nat->Prop)(s:Nat)(S:Sc)(L:Lay)(h:zq w F s S L)(ok:S.Ok b):
 Calls prog 47 #[ptr s,.agg (zpu e)] w (zq1 w F s L (S.zqI e)):=by
 obtain⟨w1,B⟩:=zh (w.alloc (.cells (zpu e) 35))
 have j:Below w.heap.size w w1:=by rw[B];exact zk w _
 have h1:=h.behind j;have hE:zp1 w1 w.heap.size e:=by rw[B];exact zp1.new w e
 have hc:Hid (zn w F s S L w1):=zc ((zn.refl h).below j);have ht:=zc (show zq w1 (fun k=>F k/\k<w.heap.size) s S L from(h.mono fun k hk hf=>⟨hf,hk⟩:zq w (fun k=>F k/\k<w.heap.size) s S L).behind j);have Q:=zc j;have HG:=zc (vw e.a w1 F s S L h1 (by have:=ok.tl;have:=ok.zqg;omega));obtain⟨D,Y⟩:=zh w.heap.size
 have H9:=zc Y;rw[<-Y]at hE;have HE:=zc hE;obtain⟨-,e1,-,e3,-,-⟩:=hE.c6;have U:=hE.lt;clear h h1 j hE;obtain⟨O,Z⟩:=zh (S.zqI e)
 rw[<-Z];unfold zq1;cases hg:S.tsk? e.a with
 | none=>
  have m:O=(S,0,2):=by rw[Z];unfold Sc.zqI;rw[hg]
  subst m;rw[hg]at HG;clear Z hg ok;go_enter func47,ntmps47;go_wp2_with fail;rw[show w.alloc (.cells (zpu e) 35)=w1 from B.symm,<-Y];clear B Y;refine HG.out.mono ?_;rintro z w2 ⟨rfl,hw⟩;obtain rfl:=hw.symm;go_wp2;go_ret2;exact⟨rfl,hc.out⟩
 | some n=>
  obtain⟨-,t,hn,hd,T⟩:=zk5 hg;rw[hg,show zaV L.tb (some n)=ptr (L.tb n)from rfl]at HG;have y:=ok.tk n t hn hd;have N:=zc hn;by_cases h8: -128<=e.n/\e.n<=127
  ·have w8:=zm7 h8.1 h8.2;have H4:=uy h8.1 h8.2;by_cases X: -20<=e.n/\e.n<=19
   ·have v:qI e.n=true:=by unfold qI;exact decide_eq_true X
    have hw:=zbI X.1 X.2;have HW:=zc (zb9 e.n w1 X.1 X.2);obtain⟨W,hW⟩:=zh (xq e.n)
    rw[<-hW]at HW hw;have HT:=zc y;cases hon:t.on with
    | true=>
     obtain⟨g,f,hy⟩:=y.zpc;obtain⟨x,en,hx,H0,_⟩:=ok.stands hn hon f;have h4:=y.zqN;have H6:=y.hi;have Hb:=ok.hi f hy;have m:O=(((S.zpf t.p ((S.hs t.p).nice g.hi t.hi W)).zps n { t with nice:=e.n,w:=W }),0,0):=by rw[Z];unfold Sc.zqI;simp only[hg,T,v,hon];rw[Sc.zpj f,hW];rfl
     subst m;have HX:=zc hx;have H5:=zc H0;have K:=zc f;have h6:=zc hon;clear Z hg ok hd T v hW y hy hn f hx H0 hon;go_enter func47,ntmps47;go_wp2_with fail;rw[show w.alloc (.cells (zpu e) 35)=w1 from B.symm,<-Y];clear B Y;refine HG.out.mono ?_;rintro z w2 ⟨rfl,J⟩;obtain rfl:=J.symm;go_wp2_with fail;refine HW.out.mono ?_;rintro z l ⟨rfl,H⟩;have P:=zc (zj Q.out H Q.out.size);have A:=zc (ht.out.behind H);have V:=zc (HE.out.behind H);clear H e1 e3 U;obtain⟨t0,t1,t2,t3,t4,t5,t6,t7,t8,t9,t10,t11,t12,t13⟩:=(A.out.tk N.out).zq7;have M:=(A.out.tk N.out).lt;rw[h6.out]at t3
     obtain⟨r,cap,hv⟩:=A.out.zsH h4;have HV:=zc hv;obtain⟨c,rp,ha⟩:=A.out.zqF h4 hv;obtain⟨-,g1,-⟩:=(A.out.gp K.out).c7;have h7:=(A.out.gp K.out).lt;have h9:=A.out.zqq.2;obtain⟨G,hH,hU⟩:=A.out.zq5 h4;have HU:=zc hU;have HP:=zc (zkn g.hi t.hi W en l.drew G (L.hb t.p) (S.hs t.p) x (hH.kept fun k _ _=>rfl) HX.out H6 H5.out hw.1 hw.2);have Hc:(t.p:Int) <(S.ps:Int):=by omega
     clear t1 t2 t6 t7 t8 t9 t10 t11 t12 t13 hv hU hH;go_wp2_with fail;go_region_held3 (fun w'=>w'.cell? ⟨s,105,none⟩=some (.slice (some ⟨r,0,none⟩) S.ps cap)/\w'.cell? ⟨r,t.p,none⟩=some (ptr (L.hb t.p))/\w'.cell? ⟨L.tb n,0,none⟩=some (.int .i64 t.hi)/\w'.cell? ⟨L.tb n,4,none⟩=some (.int .i64 t.p)/\w'.cell? ⟨L.tb n,5,none⟩=some (ptr (L.gb t.zpc))/\w'.cell? ⟨L.gb t.zpc,1,none⟩=some (.int .i64 g.hi)) (go_keep)
      (first
       | (
        go_at_call 90;refine HP.out.mono ?_;rintro z w4 ⟨rfl,hz⟩;have I:=HU.out _ _ (yW.zo7 (F:=G) (⟨rfl,rfl,rfl,zg _,fun _ _=>rfl⟩:Below l.heap.size l l.drew) hz);have q:=zc I;clear hz t0 t3 t4 t5 M c rp ha g1 h7 h9;obtain⟨c,rp,ha⟩:=I.1.zqF (p:=t.p) h4 HV.out;obtain⟨t0,-,-,-,t4,t5,-⟩:=(I.1.tk (n:=n) (t:=t) N.out).zq7;have M:=(I.1.tk (n:=n) (t:=t) N.out).lt;obtain⟨-,g1,-⟩:=(I.1.gp (n:=t.zpc) (g:=g) K.out).c7;have h7:=(I.1.gp (n:=t.zpc) (g:=g) K.out).lt;have h9:=I.1.zqq.2;clear I))
     all_goals
      clear c rp ha t0 t4 t5 M g1 h7 h9;have hl:zp1 w4 D e:=(q.out.2.block D V.out.lt (fun hk=>by have:=hk.2;rw[<-H9.out]at this;omega)).trans V.out;obtain⟨-,-,-,e3,-,-⟩:=hl.c6;have U:=hl.lt;have E:=q.out.1.tk (n:=n) (t:=t) N.out;obtain⟨-,-,-,-,-,-,t6,t7,-⟩:=E.zq7;have M:=E.lt;have h5:=E.zpe;have y1:zp7 (w4.setCell ⟨L.tb n,6,none⟩ (.int .i64 e.n)) (L.tb n) L.gb { t with nice:=e.n }:=zi E;have y2:zp7 ((w4.setCell ⟨L.tb n,6,none⟩ (.int .i64 e.n)).setCell ⟨L.tb n,7,none⟩ (.int .u64 W)) (L.tb n) L.gb { t with nice:=e.n,w:=W }:=zi y1
      have hq:=zc (zn.zo7 P.out ((q.out.then (q.out.1.zri (n:=n) (t:=t) N.out (zo8.refl (fun k=>k=L.tb n) w4).one.one y2)).grow (G:=F) fun k hk=>hk.1));clear hl E y1 y2;go_wp2;go_ret2;exact⟨rfl,hq.out⟩
    | false=>
     have m:O=(S.zps n { t with nice:=e.n,w:=W,e:={ t.e with rem:=t.e.rem*W/t.e.w,w:=W } },0,0):=by rw[Z];unfold Sc.zqI;simp only[hg,T,v,hon];rw[hW];rfl
     subst m;have hh:=y.e.1;have h0:=hh.rem;have h3:=hh.w;have h6:=zc hon;clear Z hg ok hd T v hW y hn hh hon;go_enter func47,ntmps47;go_wp2_with fail;rw[show w.alloc (.cells (zpu e) 35)=w1 from B.symm,<-Y];clear B Y;refine HG.out.mono ?_;rintro z w2 ⟨rfl,J⟩;obtain rfl:=J.symm;go_wp2_with fail;refine HW.out.mono ?_;rintro z l ⟨rfl,H⟩;have P:=zc (zj Q.out H Q.out.size);have A:=zc (ht.out.behind H);have V:=zc (HE.out.behind H);clear H e1 e3 U;obtain⟨t0,t1,t2,t3,t4,t5,t6,t7,t8,t9,t10,t11,t12,t13⟩:=(A.out.tk N.out).zq7;have M:=(A.out.tk N.out).lt;have h5:=(A.out.tk N.out).zpe;rw[h6.out]at t3
     obtain⟨-,-,-,e3,-,-⟩:=V.out.c6;have U:=V.out.lt;clear t0 t1 t2 t4 t5 t6 t7 t8 t9 t11 t13;go_wp2_with fail;go_region_with
      (
       go_at_call 91;refine(zdk h0.1 h0.2 hw.1 hw.2 h3.1 h3.2 l.drew).mono ?_;rintro z w4 ⟨rfl,H2⟩;have C:Below l.heap.size l w4:=zj (zv (Below.refl _ l)) H2 (zg _);have H8:=zc (zj P.out C P.out.size);have d:=zc (A.out.behind C);have hj:=zc (V.out.behind C);clear H2 C t3 t10 t12 M h5 e3 U;obtain⟨-,-,-,-,-,-,t6,t7,-,-,t10,-,t12,-⟩:=(d.out.tk N.out).zq7;have M:=(d.out.tk N.out).lt;have h5:=(d.out.tk N.out).zpe;obtain⟨-,-,-,e3,-,-⟩:=hj.out.c6;have U:=hj.out.lt)
     all_goals
      obtain⟨R,hR⟩:=zh (t.e.rem*W/t.e.w)
      rw[<-hR];have E:=d.out.tk N.out;have H3:D≠L.tb n:=by intro e;have:=E;have h2:=hj.out;unfold zp7 at this;unfold zp1 at h2;rw[e,this]at h2;simp only[Option.some.injEq,Obj.cells.injEq]at h2;exact absurd h2.2.1 (by decide)
      have y1:zp7 (w4.setCell ⟨L.tb n,12,none⟩ (.int .u64 R)) (L.tb n) L.gb { t with e:={ t.e with rem:=R } }:=zi E;have y2:zp7 (_) (L.tb n) L.gb { t with e:={ t.e with rem:=R,w:=W } }:=zi (u:=.int .u64 W) (i:=10) y1;have y3:zp7 (_) (L.tb n) L.gb { t with nice:=e.n,e:={ t.e with rem:=R,w:=W } }:=zi (u:=.int .i64 e.n) (i:=6) y2;have y4:zp7 (_) (L.tb n) L.gb { t with nice:=e.n,w:=W,e:={ t.e with rem:=R,w:=W } }:=zi (u:=.int .u64 W) (i:=7) y3
      have hq:=zc (zn.zo7 H8.out ((d.out.zri N.out ((((zo8.refl (fun k=>k=L.tb n) w4).one (o:=12) (u:=.int .u64 R)).one (o:=10) (u:=.int .u64 W)).one (o:=6) (u:=.int .i64 e.n)).one y4).grow (G:=F) fun k hk=>hk.1));have Ha:=zc hR;clear E y1 y2 y3 y4 hR;go_wp2;go_ret2;exact⟨rfl,by rw[<-Ha.out];exact hq.out⟩
   ·have m:O=(S,0,1):=by rw[Z];unfold Sc.zqI;simp only[hg];rw[if_pos (by unfold qI;exact decide_eq_false X)]
    subst m;have HW:=zc (zdy e.n w1 (by omega));clear Z hg ok hd T y hn;go_enter func47,ntmps47;go_wp2_with fail;rw[show w.alloc (.cells (zpu e) 35)=w1 from B.symm,<-Y];clear B Y;refine HG.out.mono ?_;rintro z w2 ⟨rfl,J⟩;obtain rfl:=J.symm;go_wp2_with fail;refine HW.out.mono ?_;rintro z l ⟨rfl,H7⟩;obtain rfl:=H7.symm;go_wp2;go_ret2;exact⟨rfl,hc.out⟩
  ·have m:O=(S,0,1):=by rw[Z];unfold Sc.zqI;simp only[hg];rw[if_pos (by unfold qI;exact decide_eq_false (by omega))]
   subst m;have hr:=zm8 e.n;have H4:=uy hr.1 hr.2;have H3:(e.n != IntKind.i8.wrap e.n)=true:=by simp;omega
   clear Z hg ok hd T y hn;go_enter func47,ntmps47;go_wp2_with fail;rw[show w.alloc (.cells (zpu e) 35)=w1 from B.symm,<-Y];clear B Y;refine HG.out.mono ?_;rintro z w2 ⟨rfl,J⟩;obtain rfl:=J.symm;go_wp2;go_ret2;exact⟨rfl,hc.out⟩
theorem Sc.Ok.gr{S:Sc}{b:Nat}(ok:S.Ok b){g:Nat}{x:Gp}(B:S.gs[g]?=some x)(A:x.there=true){p:Nat}(hp:p<S.ps):∃y,(S.hs p).gs x.hi=some y:=by have h:=ok.hk p hp x.hi;rw[(ok.gk g x B A).2]at h;exact Option.isSome_iff_exists.1 h
theorem Sc.Ok.hi0{S:Sc}{b:Nat}(ok:S.Ok b){g:Nat}{x:Gp}(G:S.gs[g]?=some x)(H:x.there=true)(I:g≠0):x.hi≠0:=by intro e;have E:=(ok.gk g x G H).2;obtain⟨z,J,A,_,B,_⟩:=ok.g0;have D:=(ok.gk 0 z J B).2;rw[A]at D;rw[e,D]at E;exact I (Option.some.inj E).symm
theorem zhn(S:Sc)(g:Nat)(here:List Int)(k:Nat):S.zpU g here (k+1)=if 0<here.getD k 0 then(S.zpU g here k).zpf k (((S.zpU g here k).hs k).zpo (S.g g).hi (xa (S.g g).shares (here.getD k 0) here.sum))else S.zpU g here k:=rfl
theorem zho(S:Sc)(g:Nat)(k:Nat):uv ((List.range (k+1)).map (S.load g))=uv ((List.range k).map (S.load g))++ [.int .u64 (S.load g k)]:=zdQ _ _
theorem ziQ(f:Nat->Int)(n k:Nat)(h:k<n):((List.range n).map f).getD k 0=f k:=by rw[List.getD_eq_getElem?_getD,List.getElem?_map,List.getElem?_range h];rfl
theorem zhp(g:Nat)(x:Gp)(b:Nat)(w:World)(F:Nat->Prop)(s:Nat)(S:Sc)(L:Lay)(h:zq w F s S L)(ok:S.Fit b)(hg:S.gs[g]?=some x)(ht:x.there=true)(h0:g≠0):
 Calls prog 54 #[ptr s,ptr (L.gb g)] w fun z w'=>(∃v,z=.returned v)/\zn w F s (S.zpo g) L w':=by
 obtain⟨i0,hi,Hn,Hz,Ht⟩:=info_parts zdI;obtain⟨o,l⟩:∃o:Nat->Prop,o=fun k=>F k/\k<w.heap.size:=⟨_,rfl⟩
 have h4:=zc l;have hh:zq w o s S L:=by rw[l];exact h.mono fun k hk hf=>⟨hf,hk⟩
 have HH:=zc hh;have P:=zc ok;have HX:=zc hg;have H2:=zc ht;obtain⟨s0,C⟩:=h.zqq;have Hs:=ok.1.ps.2;have k3:=(ok.1.gx g x hg ht h0).shares;have h5:Hid (zaP ((List.range S.ps).map (S.load g))):=zc (fun y O=>by obtain⟨p,_,rfl⟩:=List.mem_map.1 O;exact ok.1.load g p);have Hh:=ok.1.hi0 hg ht h0;obtain⟨n,hN⟩:=zh S.ps
 have HN:=zc hN;have H0:S.zpo g=S.zpU g ((List.range S.ps).map (S.load g)) S.ps:=rfl;rw[H0];rw[<-hN]at s0 Hs h5 ⊢;obtain⟨here,D⟩:=zh ((List.range n).map (S.load g))
 have f:=zc D;rw[<-D]at h5 ⊢;clear h ok hN hg ht hh l H0 D;go_enter func54,ntmps54;go_wp2_with fail;clear s0 C;go_loopw [4,5,13] (fun v _ i wr=>∃(k:Nat) (ar:Option Addr) (cr:Nat),k<=n/\i=.int .i64 k/\v=.slice ar k cr/\wr.ownsRow w.heap.size 33 1 (.slice ar k cr) k (uv ((List.range k).map (S.load g)))/\Below w.heap.size w wr) (fun _ _ i _=>n-(intOf i).toNat)
 case atStart=>exact⟨0,none,0,by omega,rfl,rfl,by simpa[uv]using World.ownsRow_nil _ _ _ _,Below.refl _ _⟩
 case round=>
  obtain⟨k,ar,cr,hk,rfl,rfl,d,hb⟩:=hrel;have HO:=zc d;have HB:=zc hb;have HS:=zc (HH.out.behind hb);clear d hb;by_cases k5:k<n
  ·have HC:=zc (uJ g k x b wr o s S L HS.out P.out.1 HX.out H2.out (by omega));have h6:=zc (zho S g k);obtain⟨y,O⟩:=zh (S.load g k)
   obtain⟨ys,hz⟩:=zh (uv ((List.range k).map (S.load g)))
   rw[<-O]at HC h6;rw[<-hz]at HO h6;have k6:(k:Int) <(n:Int):=by omega
   clear O hz;go_wp2_with fail;refine HC.out.mono ?_;rintro z w4 ⟨rfl,h7⟩;have ho:=zc (yY HO.out h7);have H3:=zc (zj HB.out h7 HB.out.size);clear h7 HC;have k2:=H3.out.size;go_wp2_with (at_builtin;go_loud (refine wpList_append_own _ rfl _ _ 27 rfl w.heap.size 33 i0 (.int .u64 0) 1 8 underlying27 hi Hn Hz Ht rfl (by decide) _ k ys rfl (ho.out.alloc _) ⟨w4.heap.size,0,none⟩ 1 1 [.int .u64 y] rfl rfl ?c1 ?c2 ?c3 ?c4 ?c5 ?_))
   case c1=>exact World.news_of_block (cs:=#[.int .u64 y]) (t:=33) (fr:=(0,0)) (heap_alloc_new w4 _)
   case c2=>intro u hu;simp at hu;subst hu;rfl
   case c3=>unfold maxLen;omega
   case c4=>omega
   case c5=>simp;omega
   intro v' w5 E H9 _;have H6:Below w.heap.size w w5:=(H3.out.alloc k2 _).grown H9 (by simp;omega) fun j hj=>(ho.out.lt j hj).1;have k0:=zc H6;have Hi:=zc E;rcases E.2 with⟨_,h0⟩ | ⟨g,cap,cur,hv,_⟩
   ·omega
   subst hv;clear H6 E H9;go_wp2_with fail;go_roundw
   case rel=>exact⟨k+1,_,_,by omega,by go_num,rfl,by rw[h6.out];exact Hi.out,k0.out⟩
   case measure=>simp[intOf];omega
  ·have Ho:k=n:=by omega
   subst Ho;have hlen:k=here.length:=by rw[f.out];simp
   have Z:=zc hlen;have Ha:Hid (∀j,j<k->here.getD j 0=S.load g j):=zc (fun j hj=>by rw[f.out];exact ziQ _ _ _ hj);have k1:=zc (P.out.1.load g);rw[<-f.out]at HO;have H4:=zc (ym.zqB HO.out);have He:=zc (zgY here x.shares ar k cr wr hlen (by omega) h5.out H4.out ⟨by omega,k3.2⟩);obtain⟨g0,g1,g2,g3,g4,g5,g6⟩:=(HS.out.gp HX.out).c7;have m:=(HS.out.gp HX.out).lt;have h9:Hid (∀r,ar=some ⟨r,0,none⟩->¬o r):=zc (fun r hr hF=>by have:=(HO.out.lt r (by rw[hr];rfl)).1;rw[h4.out]at hF;have:=hF.2;omega)
   clear hlen g0 g1 g2 g4 g5 g6;go_wp2_with fail;refine He.out.mono ?_;rintro z w6 ⟨v6,rfl,B,h3⟩;obtain⟨a6,c6,Hg⟩:∃a6 c6,v6=.slice a6 k c6:=by obtain⟨a,c,e,_⟩:=ym.zqA B;exact⟨a,c,e⟩
   subst Hg;have Hd:=zc (ym.zqB B);have hn:=zc (zj HB.out h3 HB.out.size);have Hq:=zc (HH.out.behind hn.out);have Hy:=zc (H4.out.behind h3);have h8:Hid (∀r,a6=some ⟨r,0,none⟩->¬o r):=zc (fun r hr hF=>by have h1:=(B.lt r (by rw[hr];rfl)).1;have h2:=HB.out.size;rw[h4.out]at hF;have:=hF.2;omega);clear B h3 g3 m;go_wp2_with fail;go_loopw [6,7,31] (fun _ _ i wr=>∃(j:Nat),j<=k/\i=.int .i64 j/\zn w6 o s (S.zpU g here j) L wr) (fun _ _ i _=>k-(intOf i).toNat)
   case atStart=>exact⟨0,by omega,rfl,zn.refl Hq.out⟩
   case round=>
    obtain⟨j,hj,rfl,hl⟩:=hrel;have H:=zc hl;clear hl;by_cases M:j<k
    ·have k7:(j:Int) <(k:Int):=by omega
     obtain⟨FT,SM⟩:=zbi P.out g here j (by rw[<-HN.out];omega);have H8:=zc FT;obtain⟨y,O⟩:=zh (S.load g j)
     have V:here[j]?=some y:=by rw[List.getElem?_eq_getElem (by rw[<-Z.out];exact M)];have:=Ha.out j M;rw[List.getD_eq_getElem?_getD,List.getElem?_eq_getElem (by rw[<-Z.out];exact M)]at this;rw[O];exact congrArg some this
     have Hp:=zc (Hd.out.zpW H.out.2 h8.out);have Hk:=zc (Hy.out.zpW H.out.2 h9.out);obtain⟨r6,Hl,hx,Hv⟩:=Hp.out j (.int .u64 (xa x.shares y here.sum)) (by simp[uv,V]);obtain⟨r7,Hj,Hf,Hw⟩:=Hk.out j (.int .u64 y) (qJ V);subst Hl;subst Hj;have hW:=zeB x.shares y here.sum;obtain⟨W,R⟩:=zh (xa x.shares y here.sum)
     obtain⟨k8,I⟩:=SM;obtain⟨T,K⟩:=zh (S.zpU g here j)
     have N:T.gs[g]?=some x:=by rw[K,I];exact HX.out
     have A:j<T.ps:=by rw[K,I];show j<S.ps;rw[<-HN.out];exact M
     have J:T.ps=k:=by rw[K,I];exact HN.out.symm
     have Q:here.getD j 0=y:=by rw[Ha.out j M,O]
     have Hc:=k1.out j;rw[<-O]at Hc;have U:=zhn S g here j;rw[Q,<-K,Sc.zpj HX.out,<-R]at U;have Hb:=zc U;rw[<-K]at H H8;rw[<-R]at hx hW;by_cases Y:0<y
     ·have HE:Hid (S.zpU g here (j+1)=T.zpf j ((T.hs j).zpo x.hi W)):=zc (by rw[Hb.out,if_pos Y]);obtain⟨yr,hc⟩:=H8.out.1.gr N H2.out A;obtain⟨r,cap,hv⟩:=H.out.1.zsH A;have HV:=zc hv;obtain⟨X,rp,Hr⟩:=H.out.1.zqF A hv;rw[J]at X;obtain⟨-,g1,-⟩:=(H.out.1.gp N).c7;have m:=(H.out.1.gp N).lt;have C:=H.out.1.zqq.2;obtain⟨G,hH,hU⟩:=H.out.1.zq5 A;have HU:=zc hU;have HW:=zc (zid x.hi W wr.drew G (L.hb j) (T.hs j) yr (hH.kept fun k _ _=>rfl) hc Hh hW.1 hW.2);clear V K N A J Q U I hc hv hU hH O R FT;go_wp2_with fail;go_region_with
       (
        go_at_call 105;refine HW.out.mono ?_;rintro z w8 ⟨rfl,ha⟩;have Hu:=zc (HU.out _ _ (yW.zo7 (F:=G) (⟨rfl,rfl,rfl,zg _,fun _ _=>rfl⟩:Below wr.heap.size wr wr.drew) ha));clear ha X rp Hr g1 m C hx Hf Hv Hw)
      all_goals
       go_wp2_with fail;go_roundw
       case rel=>exact⟨j+1,by omega,by go_num,by rw[HE.out];exact H.out.then Hu.out⟩
       case measure=>simp[intOf];omega
     ·have HE:Hid (S.zpU g here (j+1)=T):=zc (by rw[Hb.out,if_neg Y]);clear V K N A J Q U I O R FT;go_wp2_with fail;go_roundw
      case rel=>exact⟨j+1,by omega,by go_num,by rw[HE.out];exact H.out⟩
      case measure=>simp[intOf];omega
    ·have H5:j=k:=by omega
     have k4:=zc H5;clear H5;have H7:=zc (zn.zo7 hn.out (H.out.grow (G:=F) fun q hq=>by rw[h4.out]at hq;exact hq.1));rw[k4.out]at H7;go_wp2;go_end0;exact⟨⟨_,rfl⟩,H7.out⟩
theorem zhq(f:Nat->Nat)(l:List Nat):yq ((l.map some).map (Option.map f))=zrY f l:=by simp[yq,zrY]
theorem zd4(S:Sc)(l:List Nat):S.zp6 (l.map some)=S.limited l:=by unfold Sc.zp6;rw[List.filterMap_map];simp
theorem Sc.Fit.lim1{S:Sc}{b:Nat}(h:S.Fit b){l:List Nat}(I:S.zrj l){g:Nat}(H:g∈l){p:Nat}(hp:p<S.ps):∃x d,S.gs[g]?=some x/\x.there=true/\x.band=some d/\d.Small/\d.l[p]?=some (zZ d p)/\x.hi≠0/\x.hi<32/\xt b d/\g≠0:=by obtain⟨x,d,A,E,hd⟩:=I g H;have G:=h.1.zqc A hd;obtain⟨d',D,h1,B⟩:=h.1.band A E G;rw[hd]at D;obtain rfl:=Option.some.inj D;exact⟨x,d,A,E,hd,B.small (by have:=h.1.zqg;omega),qw (by omega),h.1.hi0 A E G,h.1.hi A E,B,G⟩
theorem zhr{S:Sc}{p:Nat}(hp:p<S.ps):(if(S.zpx p).zqM (p:Int)then(S.zpx p).running (p:Int).toNat else -1)=(S.zpx p).running p:=by rw[if_pos ⟨by omega,by show(p:Int) <(S.ps:Int);omega⟩,Int.toNat_natCast]
theorem zq.zpy{w:World}{F:Nat->Prop}{s:Nat}{S:Sc}{L:Lay}(h:zq w F s S L):zq w (fun k=>F k/\k<w.heap.size) s S L:=h.mono fun k A B=>⟨B,A⟩
theorem zfN(p:Nat)(b:Nat)(w:World)(F:Nat->Prop)(s:Nat)(S:Sc)(L:Lay)(h:zq w F s S L)(ok:S.Fit b)(hp:p<S.ps):
 Calls prog 57 #[ptr s,.int .i64 p] w fun z w'=>z=.returned (.bool (S.choose p).2)/\zn w F s (S.choose p).1 L w':=by
 have f1:=zbk ok hp;have U:p<(S.zpx p).ps:=hp;obtain⟨r,cap,hv⟩:=h.zsH hp;have HV:=zc hv;obtain⟨a,rp,Ha⟩:=h.zqF hp hv;have B:=h.zqq.2;obtain⟨G,hH,hU⟩:=h.zq5 hp;have HU:=zc hU;have HP:=zc (zkB w G (L.hb p) (S.hs p) hH);have j:=zc (zhr hp);have Ki:(p:Int) <(S.ps:Int):=by omega
 have Ka:p<64:=by have:=ok.1.ps.2;omega
 by_cases hr:(S.zpx p).running p= -1
 ·have Y:=uN hr;rw[Y];obtain⟨c1,c2⟩:=f1.1.ck p U;obtain⟨A,D⟩:=zh (S.zpx p)
  have Hi:=zc D;rw[hr]at j;rw[<-D]at U c1 j ⊢;clear h ok f1 hv hU hH hr Y c2 D;go_enter func57,ntmps57;go_wp2_with fail;refine HP.out.mono ?_;rintro z w1 ⟨rfl,ha⟩;have u:Hid (zn w F s A L w1):=zc (by rw[Hi.out];exact HU.out _ _ ha);clear ha a rp Ha B;have M:=zc (yp p w1 _ s A L u.out.1);rw[j.out]at M;go_wp2_with fail;refine M.out.mono ?_;rintro z w2 ⟨rfl,o⟩;have He:=zc (u.out.below o);clear o;obtain⟨hC,rc,cc,W,Hn,h9⟩:=He.out.1.clock U;have B:=He.out.1.zqq.2;have HB:=zc (zbd (-1) w2 (L.cb p) (A.cs p) hC (by omega) (by omega));have K9:(p:Int) <(A.ps:Int):=by omega
  clear hC;go_wp2_with fail;refine HB.out.mono ?_;rintro z w3 ⟨⟨v,rfl⟩,Z,ht⟩;have hj:=zc (He.out.then (He.out.1.zsp U ht Z));clear Z ht W Hn h9 B;go_wp2;go_ret;exact⟨rfl,hj.out⟩
 ·obtain⟨n,t,g,h1,h2,h3,h4,h5,h6,_⟩:=f1.run U hr;have Y:=uO h1 h2;simp only at Y;obtain⟨O,hO⟩:=zh (S.choose p)
  rw[<-hO]at Y ⊢;have H9:=zc Y;have hL:=zbR f1.1 h5 h6;obtain⟨_,_,Ho⟩:=f1.1.zrZ h5 h6;have K:n<S.ts.length:=(ze h2).1;have Kj:S.ts.length<=900:=by have:=ok.1.tl;have:=ok.1.zqg;omega
  obtain⟨A,D⟩:=zh (S.zpx p)
  have Hi:=zc D;rw[h1]at j;have H5:A.ps=S.ps:=by rw[D];rfl
  have ho:A.ts=S.ts:=by rw[D];rfl
  rw[<-D]at U f1 h2 h5 hL Ho j H9;have H8:=zc f1;have kd:=zc h2;have k9:=zc h5;have k8:=zc h6;have ko:=zc hL;have H0:n<A.ts.length:=by rw[ho];exact K
  have Kc:=zc H5;have k4:=zc H0;have Kh:(n:Int) <(A.ts.length:Int):=by omega
  have Kg:n<1000:=by omega
  obtain⟨N,k0⟩:=zh (A.limited (A.zqd t.zpc))
  have k2:=zc k0;rw[<-k0]at hL ko H9;clear k0;clear hO;clear h ok hv hU hH hr Y D h1 h2 h3 h4 h5 h6 f1 hL ho H5 K H0;go_enter func57,ntmps57;go_wp2_with fail;refine HP.out.mono ?_;rintro z w1 ⟨rfl,ha⟩;have u:Hid (zn w F s A L w1):=zc (by rw[Hi.out];exact HU.out _ _ ha);clear ha a rp Ha B;obtain⟨F1,Hq⟩:∃F1:Nat->Prop,F1=fun k=>Ext F w w1 k/\k<w1.heap.size:=⟨_,rfl⟩
  have h8:=zc Hq;have H7:Hid (zq w1 F1 s A L):=zc (by rw[Hq];exact u.out.1.zpy);clear Hq;have M:=zc (yp p w1 _ s A L H7.out);rw[j.out]at M;go_wp2_with fail;refine M.out.mono ?_;rintro z w2 ⟨rfl,o⟩;have kg:=zc o;have hf:=zc (H7.out.behind o);clear o;obtain⟨-,s7,H4⟩:=hf.out.zqi;obtain⟨rt,ct,km,K4,k6⟩:=H4 n k4.out;rw[km]at s7;have B:=hf.out.zqq.2;obtain⟨-,-,-,-,-,t5,-⟩:=(hf.out.tk kd.out).zq7;have k7:=(hf.out.tk kd.out).lt;have HW:=zc (zeG t.zpc g b w2 F1 s A L hf.out H8.out.1 k9.out k8.out);obtain⟨WY,Hl⟩:=zh (A.zqd t.zpc)
  have kn:=zc Hl;rw[<-Hl]at HW Ho;obtain⟨m,hm⟩:=zh WY.length
  have HM:=zc hm;rw[<-hm]at HW Ho;clear H4 km Hl hm;go_wp2_with fail;refine HW.out.mono ?_;rintro z w3 ⟨a3,c3,rfl,h0,ki⟩;have Hf:=zc (zj kg.out ki kg.out.size);have K5:=zc (H7.out.behind Hf.out);have kh:zfH w3 a3 (yq ((WY.map some).map (Option.map L.gb))):=by rw[zhq];exact .of_v (ym.zqB h0)
  have Hg:=zc (ue (WY.map some) a3 m c3 w3 F1 s A L K5.out (by rw[List.length_map];exact HM.out) (by omega) kh (fun q c=>by obtain⟨q',kl,e⟩:=List.mem_map.1 c;obtain rfl:=Option.some.inj e;rw[kn.out]at kl;obtain⟨y,hy,kr,_⟩:=H8.out.1.zqQ k9.out k8.out q' kl;exact⟨y,hy,kr⟩));have hle:A.zp6 (WY.map some)=N:=by rw[zd4,kn.out,k2.out]
  rw[hle]at Hg;have k1:N.length<=8:=by have h1:=zcU A (WY.map some);rw[hle,List.length_map,<-HM.out]at h1;omega
  obtain⟨nl,K⟩:=zh N.length
  have hn:=zc K;rw[<-K]at Hg k1;clear h0 ki s7 K4 k6 B t5 k7 kh hle K;go_wp2_with fail;refine Hg.out.mono ?_;rintro z w4 ⟨a4,c4,rfl,R,kp⟩;have Hs:=zc (zj Hf.out kp Hf.out.size);have kx:=zc (H7.out.behind Hs.out);have ks:=zc (ym.zqB R);have kv:Hid (∀r,a4=some ⟨r,0,none⟩->¬F1 r):=zc (fun r hr hF=>by have h1:=(R.lt r (by rw[hr];rfl)).1;have h2:=Hf.out.size;rw[h8.out]at hF;have:=hF.2;omega);clear R kp;go_wp2_with fail;go_loopw [7,43] (fun _ i wr=>∃(k:Nat) (T:Sc),k<=nl/\i=.int .i64 k/\zn w4 F1 s T L wr/\T.Fit b/\A.zpJ T/\Sc.zpD p (N.drop k) T=Sc.zpD p N A) (fun _ i _=>nl-(intOf i).toNat)
  case atStart=>exact⟨0,A,by omega,rfl,zn.refl kx.out,H8.out,.refl A,rfl⟩
  case round=>
   obtain⟨k,T,hk,rfl,hl,H2,h7,J⟩:=hrel;have P:=zc hl;have Hw:=zc H2;have Hr:=zc h7;have ke:=zc J;clear hl H2 h7 J;have V:p<T.ps:=by rw[Hr.out.ps];exact U
   by_cases kq:k<nl
   ·have Ke:(k:Int) <(nl:Int):=by omega
    have Hu:k<N.length:=by rw[<-hn.out];exact kq
    obtain⟨q,c⟩:∃q,N[k]?=some q:=⟨_,List.getElem?_eq_getElem Hu⟩
    have Hy:N.drop k=q::N.drop (k+1):=by
     rw[List.drop_eq_getElem_cons Hu]
     congr 1
     rw[List.getElem?_eq_getElem Hu]at c;exact Option.some.inj c
    obtain⟨x,d,Z,Ht,hd,Hk,Hd,k5,Kf,kc,kt⟩:=Hw.out.lim1 (ko.out.zqD Hr.out H8.out.1 Hw.out.1) (List.mem_of_getElem? c) V;obtain⟨f2,n2⟩:=Hw.out.zpl (d':=d.zqv p (zZ d p)) Z hd (fun hk=>hk.zqv Hd) (zaQ _ _ _);have Hb:=uL (p:=p) (r:=N.drop (k+1)) Z hd;rw[<-Hy,ke.out]at Hb;have I:=zc Hb;obtain⟨r4,K2,kf,kk⟩:=(ks.out.zpW P.out.2 kv.out) k (ptr (L.gb q)) (zcT c);subst K2;obtain⟨x0,x1,x2,x3,x4,x5,x6⟩:=(P.out.1.gp Z).c7;have f:=(P.out.1.gp Z).lt;have H6:x.band.isSome=true:=by rw[hd];rfl
    rw[H6]at x5 x6;simp only[if_true]at x5 x6;have HE:=zc (Qt.zqG p (zZ d p) wr (L.bb q) d (P.out.1.band Z hd) Hk Hd);have HX:=zc Z;have HD:=zc hd;have Kk:=zc H6;have Hv:=zc f2;have hz:=zc n2;have K0:=zc Ht;obtain⟨E,hE⟩:=zh (d.zqv p (zZ d p))
    rw[<-hE]at HE I Hv hz;cases hmay:d.may (zZ d p)with
    | true=>
     rw[hmay]at HE I;simp only[if_true]at I;clear c Hy Z Ht hd Hk Hd kc Hb x0 x1 x2 x3 x4 x6 H6 f2 n2 hE hmay;go_wp2_with fail;refine HE.out.mono ?_;rintro z w5 ⟨rfl,hh,Q⟩;have X:=zc (P.out.then (P.out.1.zrF HX.out HD.out Q hh));clear hh Q x5 f kf kk;go_wp2_with fail;go_roundw
     case rel=>exact⟨k+1,_,by omega,by go_num,X.out,Hv.out,Hr.out.trans hz.out,I.out.symm⟩
     case measure=>simp[intOf];omega
    | false=>
     rw[hmay]at HE I;simp only[if_neg (show ¬(false=true)by decide)]at I;clear c Hy Z Ht hd Hk Hd kc Hb x0 x1 x2 x3 x4 H6 f2 n2 hE hmay;go_wp2_with fail;refine HE.out.mono ?_;rintro z w5 ⟨rfl,hh,Q⟩;have X:=zc (P.out.then (P.out.1.zrF HX.out HD.out Q hh));have hg:=zc (zK (g':=x.zpl E) HX.out);clear hh Q x5 x6 f kf kk;obtain⟨-,-,-,-,-,-,x6⟩:=(X.out.1.gp hg.out).c7;have f:=(X.out.1.gp hg.out).lt;simp only[Gp.zpl,Option.isSome_some,if_true]at x6;have ky:=zc (zgO w5 (L.lb q) p x.line (X.out.1.line (g:=x.zpl E) hg.out rfl) (by omega));go_wp2_with fail;refine ky.out.mono ?_;rintro z w6 ⟨⟨v6,rfl⟩,kj,kb⟩
     have Hh:=X.out.then (X.out.1.zse hg.out rfl kb kj);rw[yK]at Hh;have H:=zc Hh;have Hc:=zc (zK (g':=(x.zpl E).zpm (zJ x.line p)) HX.out);clear kj kb x6 f Hh;obtain⟨f6,n6⟩:=Hv.out.zpm (l:=zJ x.line p) hg.out kt (uK (by exact V));rw[yK]at f6;obtain⟨yr,Hj⟩:=f6.1.gr Hc.out K0.out (p:=p) V;have Hz:=f6.1.hc p V;have H3:=f6.1.credit;obtain⟨T6,C⟩:=zh (T.zpd q ((x.zpl E).zpm (zJ x.line p)))
     have Hp:p<T6.ps:=by rw[C];exact V
     have k3:T6.ps=T.ps:=by rw[C];rfl
     rw[<-C]at H Hc Hj Hz H3;have K1:Hid (T6.hs p=T.hs p):=zc (by rw[C];rfl);have K7:=zc C;obtain⟨r,cap,hv⟩:=H.out.1.zsH Hp;obtain⟨a,rp,Ha⟩:=H.out.1.zqF Hp hv;obtain⟨-,g1,-⟩:=(H.out.1.gp Hc.out).c7;have f:=(H.out.1.gp Hc.out).lt;have B:=H.out.1.zqq.2;obtain⟨G,hH,hU⟩:=H.out.1.zq5 Hp;have HU:=zc hU;have K8:=zc (zb4 x.hi true w6.drew G (L.hb p) (T6.hs p) yr (hH.kept fun k _ _=>rfl) Hj k5 (by rw[Hz];omega));have Kb:(p:Int) <(T6.ps:Int):=by omega
     simp only[Gp.zpl,Gp.zpm]at g1;clear Hj hv hU hH Hz H3 f6 n6 C k3;go_wp2_with fail;go_region_with
      (
       go_at_call 82;refine K8.out.mono ?_;rintro z w8 ⟨rfl,ka⟩;have kz:=zc (HU.out _ _ (yW.zo7 (F:=G) (⟨rfl,rfl,rfl,zg _,fun _ _=>rfl⟩:Below w6.heap.size w6 w6.drew) ka));clear ka a rp Ha g1 f B)
     all_goals
      have hj:Hid (zn w4 F1 s (Sc.zpD p N A).1 L w8):=zc (by rw[I.out];have:=H.out.then kz.out;rw[K1.out,K7.out]at this;exact this);have K6:Hid (O=((Sc.zpD p N A).1,false)):=zc (by
       have h2:(Sc.zpD p N A).2=false:=by rw[I.out]
       rw[H9.out,if_neg (by rw[h2];decide)])
      go_wp2;go_ret;rw[K6.out];exact⟨rfl,u.out.then (zn.zo7 Hs.out (hj.out.grow (G:=Ext F w w1) fun q c=>by rw[h8.out]at c;exact c.1))⟩
   ·have ku:k=nl:=by omega
    subst ku;have J:Sc.zpD p N A=(T,true):=by rw[<-ke.out,hn.out,List.drop_length];rfl
    have K3:Hid (O=(T.zpG p ((T.cs p).begin n),true)):=zc (by rw[H9.out,J,if_pos rfl]);obtain⟨hC,rc,cc,W,Hn,h9⟩:=P.out.1.clock V;have B:=P.out.1.zqq.2;have HB:=zc (zbd n wr (L.cb p) (T.cs p) hC (by omega) (by omega));have Kd:(p:Int) <(T.ps:Int):=by omega
    clear hC J;go_wp2_with fail;refine HB.out.mono ?_;rintro z w5 ⟨⟨v,rfl⟩,Z,ht⟩;have hj:=zc (P.out.then (P.out.1.zsp V ht Z));clear Z ht W Hn h9 B;go_wp2;go_ret;rw[K3.out];exact⟨rfl,u.out.then (zn.zo7 Hs.out (hj.out.grow (G:=Ext F w w1) fun q c=>by rw[h8.out]at c;exact c.1))⟩
end
end Go.Proofs.YtmgekibncmnmiaaGreatDoor
