/- Parts for TopPlaces. Conditions: as stated. -/
import Derived.BigQuiet
import Derived.Deep.QuietTactic
import Derived.Handy
import Derived.Test.YtmpdpmhpkgbepaaGreatDoorChecked
import Derived.Test.YtmpdpmhpkgbepaaGreatDoorZ00
set_option linter.unusedVariables false
set_option maxRecDepth 100000
set_option maxHeartbeats 4000000
open Go.Value renaming int->zd,slice->zf,bool->zh,tuple->zi,ownBlock->zX
open Go.IntKind renaming i64->zj
open Go.Ending renaming returned->zm
open Go.Obj renaming cells->zn
open Option renaming some->zo,none->zp
open Bool renaming false->zt
open Go renaming World->zu,Calls->zw,Value->zz
open Go.Proofs.Tryz
namespace Go.Proofs.YtmpdpmhpkgbepaaGreatDoor
open Go Go.RowKit Go.ChangeShapes Go.WideShapes
variable {b:Nat}{v i L M n a:Int}
inductive Tt where
 | nil
 | node (b:Nat) (v i:Int) (L:Int) (l r:Tt)
def Tt.ht:Tt->Int
 | .nil=>0
 | .node _ _ _ L _ _=>L
def Tt.right:Tt->Tt
 | .nil=>.nil
 | .node _ _ _ _ _ r=>r
def Tt.bl:Tt->List Nat
 | .nil=> []
 | .node b _ _ _ l r=>b::(l.bl++r.bl)
def Tt.keys:Tt->List (Int×Int)
 | .nil=> []
 | .node _ v i _ l r=>l.keys++(v,i)::r.keys
def Tt.size:Tt->Nat
 | .nil=>0
 | .node _ _ _ _ l r=>l.size+r.size+1
def Tt.AA:Tt->Prop
 | .nil=>True
 | .node _ _ _ L l r=>l.AA/\r.AA/\1<=L/\l.ht=L-1/\(r.ht=L-1∨(r.ht=L/\r.right.ht=L-1))
def yW:Tt->Tt
 | .node b v i L (.node c x j M p q) r=>if M=L then .node c x j M p (.node b v i L q r)else .node b v i L (.node c x j M p q) r
 | t=>t
def xc:Tt->Tt
 | .node b v i L l (.node c x j M p (.node d y k N s t))=>if N=L then .node c x j (M+1) (.node b v i L l p) (.node d y k N s t)else .node b v i L l (.node c x j M p (.node d y k N s t))
 | t=>t
def SH(a b:Int×Int):Prop:=a.1<b.1∨(a.1=b.1/\a.2<b.2)
instance (a b:Int×Int):Decidable (SH a b):=by unfold SH;infer_instance
def uj(a b:Int×Int):Int:=if a=b then 0 else if SH a b then -1 else 1
def xx(n:Nat)(k:Int×Int):Tt->Tt
 | .nil=>.node n k.1 k.2 1 .nil .nil
 | .node b v i L l r=>if uj k (v,i)= -1 then xc (yW (.node b v i L (xx n k l) r))else if uj k (v,i)=1 then xc (yW (.node b v i L l (xx n k r)))else xc (yW (.node b v i L l r))
def Xl(k:Int×Int):Tt->Bool
 | .nil=>true
 | .node b v i L l r=>if uj k (v,i)= -1 then Xl k l else if uj k (v,i)=1 then Xl k r else zt
def Tt.PI(t:Tt)(u:Tt):Tt:=match t with
 | .nil=>.nil
 | .node b v i L l _=>.node b v i L l u
def Tt.bJ(t:Tt)(M:Int):Tt:=match t with
 | .nil=>.nil
 | .node b v i _ l r=>.node b v i M l r
def Ys(l r:Tt):Int:=min l.ht r.ht+1
def vU:Tt->Tt
 | .nil=>.nil
 | .node b v i L l r=>if Ys l r<L then .node b v i (Ys l r) l (if r.ht>Ys l r then r.bJ (Ys l r)else r)else .node b v i L l r
def xi(t:Tt):Tt:=
 let t1:=yW (vU t)
 let t2:=t1.PI (yW t1.right)
 let t3:=t2.PI (t2.right.PI (yW t2.right.right))
 let t4:=xc t3
 t4.PI (xc t4.right)
def vo:Tt->Int×Int
 | .nil=>(0,0)
 | .node _ v i _ _ .nil=>(v,i)
 | .node _ _ _ _ _ r=>vo r
def xQ:Tt->Int×Int
 | .nil=>(0,0)
 | .node _ v i _ .nil _=>(v,i)
 | .node _ _ _ _ l _=>xQ l
def Tt.isNil:Tt->Bool
 | .nil=>true
 | _=>zt
def xp(k:Int×Int):Tt->Tt
 | .nil=>.nil
 | .node b v i L l r=>
  if uj k (v,i) <0 then xi (.node b v i L (xp k l) r)
  else if 0<uj k (v,i)then xi (.node b v i L l (xp k r))
  else if l.isNil=zt then xi (.node b (vo l).1 (vo l).2 L (xp (vo l) l) r)
  else if r.isNil=zt then xi (.node b (xQ r).1 (xQ r).2 L l (xp (xQ r) r))
  else .nil
def ZU(k:Int×Int):Tt->Bool
 | .nil=>zt
 | .node b v i L l r=>if uj k (v,i) <0 then ZU k l else if 0<uj k (v,i)then ZU k r else true
theorem Qm(t:Tt):(yW t).keys=t.keys:=by
 unfold yW;split
 .split<;>simp[Tt.keys]
 .rfl
theorem Kl(t:Tt):(xc t).keys=t.keys:=by
 unfold xc;split
 .split<;>simp[Tt.keys]
 .rfl
theorem xV(t:Tt):(yW t).bl.Perm t.bl:=by
 unfold yW;split
 .rename_i b v i L c x j M p q r;split
  .simp only[Tt.bl];have:(c::(p.bl++b::(q.bl++r.bl))).Perm (c::(b::(p.bl++(q.bl++r.bl)))):=(List.perm_middle).cons c;refine this.trans ((List.Perm.swap b c _).trans ?_);simp
  .exact .refl _
 .exact .refl _
theorem qP(t:Tt):(xc t).bl.Perm t.bl:=by
 unfold xc;split
 .rename_i b v i L l c x j M p d y k N s u;split
  .simp only[Tt.bl];have A:(c::((b::(l.bl++p.bl))++(d::(s.bl++u.bl)))).Perm (b::(c::((l.bl++p.bl)++(d::(s.bl++u.bl))))):=by simp only[List.cons_append];exact List.Perm.swap b c _
   refine A.trans (List.Perm.cons b ?_);rw[List.append_assoc];exact(List.perm_middle (a:=c) (l₁:=l.bl) (l₂:=p.bl++d::(s.bl++u.bl))).symm
  .exact .refl _
 .exact .refl _
theorem Km{t u:Tt}(h:u.bl.Perm t.right.bl):(t.PI u).bl.Perm t.bl:=by
 cases t with
 | nil=>exact .refl _
 | node b v i L l r=>exact List.Perm.cons b (List.Perm.append_left l.bl h)
theorem uw{t u:Tt}(h:u.keys=t.right.keys):(t.PI u).keys=t.keys:=by
 cases t with
 | nil=>rfl
 | node b v i L l r=>simp only[Tt.PI,Tt.keys];rw[show u.keys=r.keys from h]
theorem Pt(t:Tt)(M:Int):(t.bJ M).keys=t.keys:=by cases t<;>rfl
theorem WA(t:Tt)(M:Int):(t.bJ M).bl=t.bl:=by cases t<;>rfl
theorem WB(t:Tt):(vU t).keys=t.keys:=by
 cases t with
 | nil=>rfl
 | node b v i L l r=>
  simp only[vU];split
  .simp only[Tt.keys];split
   .rw[Pt]
   .rfl
  .rfl
theorem Mz(t:Tt):(vU t).bl=t.bl:=by
 cases t with
 | nil=>rfl
 | node b v i L l r=>
  simp only[vU];split
  .simp only[Tt.bl];split
   .rw[WA]
   .rfl
  .rfl
theorem ux(t:Tt):(xi t).keys=t.keys:=by unfold xi;simp only;rw[uw (Kl _),Kl,uw (uw (Qm _)),uw (Qm _),Qm,WB]
theorem Pu(t:Tt):(xi t).bl.Perm t.bl:=by unfold xi;simp only;refine(Km (qP _)).trans ((qP _).trans ((Km (Km (xV _))).trans ((Km (xV _)).trans ((xV _).trans ?_))));rw[Mz]
theorem qH(a:Int×Int):¬SH a a:=by unfold SH;omega
theorem Dd{a b c:Int×Int}(h:SH a b)(k:SH b c):SH a c:=by unfold SH at*;omega
theorem vL{a b:Int×Int}(h:SH a b):¬SH b a:=by unfold SH at*;omega
theorem Na{a b:Int×Int}(h:a≠b)(k:¬SH a b):SH b a:=by
 unfold SH at*;by_cases B:a.1=b.1
 .by_cases A:a.2=b.2
  .exact absurd (Prod.ext B A) h
  .omega
 .omega
theorem Nb{a b:Int×Int}(h:SH a b):uj a b= -1:=by unfold uj;rw[if_neg (by rintro rfl;exact qH _ h),if_pos h]
theorem Ek{a b:Int×Int}(h:SH b a):uj a b=1:=by unfold uj;rw[if_neg (by rintro rfl;exact qH _ h),if_neg (vL h)]
theorem Wd(a:Int×Int):uj a a=0:=by unfold uj;rw[if_pos rfl]
theorem Qn(a b:Int×Int):(SH a b/\uj a b= -1)∨(a=b/\uj a b=0)∨(SH b a/\uj a b=1):=by
 by_cases h:a=b
 .subst h;exact .inr (.inl ⟨rfl,Wd a⟩)
 .by_cases k:SH a b
  .exact .inl ⟨k,Nb k⟩
  .exact .inr (.inr ⟨Na h k,Ek (Na h k)⟩)
def uG(k:Int×Int):List (Int×Int)->List (Int×Int)
 | []=> [k]
 | a::r=>if SH k a then k::a::r else a::uG k r
theorem Xm{k:Int×Int}{x:Int×Int}(h:SH k x):∀(l r:List (Int×Int)),uG k (l++x::r)=uG k l++x::r
 | [],r=>by simp[uG,h]
 | a::l,r=>by
  simp only[List.cons_append,uG];split
  .rfl
  .rw[Xm h l r];rfl
theorem Kn{k x:Int×Int}(h:SH x k):∀(l r:List (Int×Int)),(∀a∈l,SH a x)->uG k (l++x::r)=l++x::uG k r
 | [],r,_=>by simp[uG,vL h]
 | a::l,r,hl=>by simp only[List.cons_append,uG];rw[if_neg (vL (Dd (hl a (by simp)) h)),Kn h l r (fun a A=>hl a (by simp[A]))]
theorem Ue(n:Nat)(k:Int×Int):∀t:Tt,t.keys.Pairwise SH->k∉t.keys->(xx n k t).keys=uG k t.keys/\Xl k t=true
 | .nil,_,_=>⟨rfl,rfl⟩
 | .node b v i L l r,hs,hk=>by
  simp only[Tt.keys]at hs hk;obtain⟨J,N,A⟩:=List.pairwise_append.1 hs;obtain⟨h0,D⟩:=List.pairwise_cons.1 N;have E:k∉l.keys:=fun h=>hk (by simp[h]);have I:k∉r.keys:=fun h=>hk (by simp[h]);have H:k≠(v,i):=fun h=>hk (by simp[h]);rcases Qn k (v,i)with⟨h,e⟩|⟨h,e⟩|⟨h,e⟩
  .obtain⟨G,B⟩:=Ue n k l J E;simp only[xx,Xl,e,if_true];refine⟨?_,B⟩;rw[Kl,Qm];simp only[Tt.keys];rw[G,Xm h]
  .exact absurd h H
  .obtain⟨G,B⟩:=Ue n k r D I;simp only[xx,Xl,e];rw[if_neg (by omega),if_pos trivial,if_neg (by omega),if_pos trivial];refine⟨?_,B⟩;rw[Kl,Qm];simp only[Tt.keys];rw[G,Kn h _ _ (fun a M=>A a M (v,i) (by simp))]
theorem Uf:∀t:Tt,t.isNil=zt->∃l,t.keys=l++ [vo t]
 | .nil,h=>by simp[Tt.isNil]at h
 | .node b v i L l .nil,_=>⟨l.keys,by simp[Tt.keys,vo]⟩
 | .node b v i L l (.node c x j M p q),_=>by obtain⟨m,A⟩:=Uf (.node c x j M p q) rfl;refine⟨l.keys++(v,i)::m,?_⟩;have:vo (.node b v i L l (.node c x j M p q))=vo (.node c x j M p q):=rfl;rw[this];simp only[Tt.keys]at A ⊢;rw[A];simp
theorem Ko:∀t:Tt,t.isNil=zt->∃l,t.keys=xQ t::l
 | .nil,h=>by simp[Tt.isNil]at h
 | .node b v i L .nil r,_=>⟨r.keys,by simp[Tt.keys,xQ]⟩
 | .node b v i L (.node c x j M p q) r,_=>by obtain⟨m,A⟩:=Ko (.node c x j M p q) rfl;refine⟨m++(v,i)::r.keys,?_⟩;have:xQ (.node b v i L (.node c x j M p q) r)=xQ (.node c x j M p q):=rfl;rw[this];simp only[Tt.keys]at A ⊢;rw[A];simp
theorem qX{t:Tt}(h:t.isNil=true):t=.nil:=by cases t with
 | nil=>rfl
 | node=>simp[Tt.isNil]at h
theorem Yy{k:Int×Int}{l:List (Int×Int)}(h:∀a∈l,SH a k∨SH k a):k∉l:=fun hk=>by rcases h k hk with h|h<;>exact qH _ h
theorem ZV(k:Int×Int):∀t:Tt,t.keys.Pairwise SH->k∈t.keys->(xp k t).keys=t.keys.erase k/\ZU k t=true:=by
 intro t
 induction t generalizing k with
 | nil=>intro _ h;simp[Tt.keys]at h
 | node b v i L l r ihl ihr=>
  intro hs hk;simp only[Tt.keys]at hs hk;obtain⟨J,c,G⟩:=List.pairwise_append.1 hs;obtain⟨R,I⟩:=List.pairwise_cons.1 c;rcases Qn k (v,i)with⟨h,e⟩|⟨h,e⟩|⟨h,e⟩
  .have D:k∈l.keys:=by
    rcases List.mem_append.1 hk with A|A
    .exact A
    .rcases List.mem_cons.1 A with A|A
     .rw[A]at h;exact absurd h (qH _)
     .exact absurd h (vL (R k A))
   obtain⟨A,M⟩:=ihl k J D;simp only[xp,ZU,e];rw[if_pos (by omega),if_pos (by omega),ux];simp only[Tt.keys];rw[A,List.erase_append_left _ D];exact⟨rfl,M⟩
  .subst h;have U:(v,i)∉l.keys:=Yy fun a V=>.inl (G a V (v,i) (by simp));have Y:(l.keys++(v,i)::r.keys).erase (v,i)=l.keys++r.keys:=by rw[List.erase_append_right _ U,List.erase_cons_head]
   have Z:ZU (v,i) (.node b v i L l r)=true:=by simp only[ZU,e];rfl
   refine⟨?_,Z⟩;simp only[Tt.keys];rw[Y];simp only[xp,e];rw[if_neg (by omega),if_neg (by omega)];by_cases E:l.isNil=zt
   .rw[if_pos E];obtain⟨m,H⟩:=Uf l E;obtain⟨A,_⟩:=ihl (vo l) J (by rw[H];simp);rw[ux];simp only[Tt.keys];have X:vo l∉m:=by rw[H]at J;have:=(List.pairwise_append.1 J).2.2;exact Yy fun a V=>.inl (this a V _ (by simp))
    rw[A,H,List.erase_append_right _ X];simp
   .rw[if_neg E];have N:=qX (by simpa using E);subst N;by_cases B:r.isNil=zt
    .rw[if_pos B];obtain⟨m,H⟩:=Ko r B;obtain⟨A,_⟩:=ihr (xQ r) I (by rw[H];simp);rw[ux];simp only[Tt.keys];rw[A,H,List.erase_cons_head]
    .rw[if_neg B];have T:=qX (by simpa using B);subst T;simp[Tt.keys]
  .have O:k∈r.keys:=by
    rcases List.mem_append.1 hk with A|A
    .exact absurd (G k A (v,i) (by simp)) (vL h)
    .rcases List.mem_cons.1 A with A|A
     .rw[A]at h;exact absurd h (qH _)
     .exact A
   have D:k∉l.keys:=fun A=>vL (G k A (v,i) (by simp)) h;obtain⟨A,M⟩:=ihr k I O;simp only[xp,ZU,e];rw[if_neg (by omega),if_pos (by omega),if_neg (by omega),if_pos (by omega),ux];simp only[Tt.keys];rw[A,List.erase_append_right _ D,List.erase_cons_tail (by simp;rintro rfl;exact qH _ h)];exact⟨rfl,M⟩
theorem yL(b:Nat)(v i L:Int)(l r:Tt):(Tt.node b v i L l r).ht=L:=rfl
theorem yM(b:Nat)(v i L:Int)(l r:Tt):(Tt.node b v i L l r).right=r:=rfl
theorem vu:Tt.nil.ht=0:=rfl
theorem uk:Tt.nil.right=.nil:=rfl
theorem Tt.AA.iA{t:Tt}(h:t.AA):0<=t.ht:=by cases t with
 | nil=>exact Int.le_refl _
 | node b v i L l r=>have:=h.2.2.1;simp only[yL];omega
theorem Tt.AA.size{t:Tt}(h:t.AA):t.ht<=t.size:=by
 induction t with
 | nil=>simp[vu]
 | node b v i L l r ihl ihr=>
  obtain⟨A,h2,h3,h4,h5⟩:=h;have:=ihl A;simp only[yL,Tt.size];omega
theorem Xd{t:Tt}(h:t.AA)(A:1<=t.ht):∃b v i L l r,t=.node b v i L l r/\l.AA/\r.AA/\1<=L/\l.ht=L-1/\(r.ht=L-1∨(r.ht=L/\r.right.ht=L-1)):=by
 cases t with
 | nil=>simp[vu]at A
 | node b v i L l r=>exact⟨b,v,i,L,l,r,rfl,h⟩
theorem xM{l r:Tt}(h:l.ht≠L):yW (.node b v i L l r)=.node b v i L l r:=by
 cases l with
 | nil=>rfl
 | node c x j M p q=>simp only[yW];rw[if_neg (by simpa[yL]using h)]
theorem vM{c:Nat}{x j:Int}{p q r:Tt}(h:M=L):yW (.node b v i L (.node c x j M p q) r)=.node c x j M p (.node b v i L q r):=by simp only[yW];rw[if_pos h]
theorem xw{l r:Tt}(h:r.right.ht≠L):xc (.node b v i L l r)=.node b v i L l r:=by
 cases r with
 | nil=>rfl
 | node c x j M p q=>
  cases q with
  | nil=>rfl
  | node d y k N s u=>simp only[xc];rw[if_neg (by simpa[yL,yM]using h)]
theorem qI{c:Nat}{x j:Int}{l p q:Tt}(h:q.ht=L)(A:L≠0):xc (.node b v i L l (.node c x j M p q))=.node c x j (M+1) (.node b v i L l p) q:=by
 cases q with
 | nil=>exact absurd h (by simp only[vu];exact fun e=>A e.symm)
 | node d y k N s u=>simp only[xc];rw[if_pos (by simpa[yL]using h)]
theorem Vg(n:Nat)(k:Int×Int):∀t:Tt,t.AA->(xx n k t).AA/\((xx n k t).ht=t.ht∨((xx n k t).ht=t.ht+1/\(xx n k t).right.ht=t.ht/\t.right.ht=t.ht))
 | .nil,_=>by simp[xx,Tt.AA,yL,vu,yM,uk]
 | .node b v i L l r,h=>by
  obtain⟨I,G,E,J,A⟩:=h;have H:xc (yW (.node b v i L l r))=.node b v i L l r:=by
   rw[xM (by omega),xw];rcases A with A|⟨A,R⟩
   .cases r with
    | nil=>simp only[uk,vu];omega
    | node c x j M p q=>
     obtain⟨_,_,B,g2,V⟩:=G;simp only[yL]at A;simp only[yM];omega
   .omega
  simp only[xx];split
  ·
    obtain⟨B,g2⟩:=Vg n k l I;rcases g2 with g2|⟨g2,V,f⟩
    .rw[xM (by omega)];have D:r.right.ht≠L:=by
      rcases A with A|⟨A,R⟩
      .cases r with
       | nil=>simp only[uk,vu];omega
       | node c x j M p q=>obtain⟨_,_,a,g,d⟩:=G;simp only[yL]at A;simp only[yM];omega
      .omega
     rw[xw D];exact⟨⟨B,G,E,by omega,A⟩,.inl rfl⟩
    .obtain⟨c,x,j,M,p,q,X,O,N,T,U,Y⟩:=Xd B (by omega);rw[X]at B g2 V ⊢;simp only[yL,yM]at g2 V;rw[vM (by omega)];rcases A with A|⟨A,R⟩
     .rw[xw (by simp only[yM];omega)];refine⟨⟨O,⟨N,G,E,by omega,.inl A⟩,T,U,.inr ⟨by simp only[yL];omega,by simp only[yM];omega⟩⟩,.inl (by simp only[yL];omega)⟩
     .rw[qI (by omega) (by omega)];refine⟨⟨⟨O,N,T,U,.inl (by omega)⟩,G,by omega,by simp only[yL];omega,.inl (by omega)⟩,.inr ⟨by simp only[yL],by simp only[yL,yM];omega,by simp only[yL,yM];omega⟩⟩
  .split
   ·
     obtain⟨B,g2⟩:=Vg n k r G;rw[xM (by omega)];rcases g2 with g2|⟨g2,V,f⟩
     .rcases A with A|⟨A,R⟩
      .have D:(xx n k r).right.ht≠L:=by
        cases hw:xx n k r with
        | nil=>simp only[uk,vu];omega
        | node c x j M p q=>rw[hw]at B g2;obtain⟨_,_,a,g,d⟩:=B;simp only[yL]at g2;simp only[yM];omega
       rw[xw D];exact⟨⟨I,B,E,J,.inl (by omega)⟩,.inl rfl⟩
      .obtain⟨c,x,j,M,p,q,X,O,N,T,U,Y⟩:=Xd B (by omega);rw[X]at B g2 ⊢;simp only[yL]at g2;by_cases Z:q.ht=L
       .rw[qI Z (by omega)];refine⟨⟨⟨I,O,E,J,.inl (by omega)⟩,N,by omega,by simp only[yL];omega,.inl (by omega)⟩,.inr ⟨by simp only[yL];omega,by simp only[yL,yM];omega,by simp only[yL,yM];omega⟩⟩
       .rw[xw (by simpa[yM]using Z)];refine⟨⟨I,⟨O,N,T,U,Y⟩,E,J,.inr ⟨by simp only[yL];omega,by simp only[yM];omega⟩⟩,.inl rfl⟩
     .rcases A with A|⟨A,R⟩
      .rw[xw (by omega)];exact⟨⟨I,B,E,J,.inr ⟨by omega,by omega⟩⟩,.inl rfl⟩
      .omega
   .rw[H];exact⟨⟨I,G,E,J,A⟩,.inl rfl⟩
def We(t t':Tt):Prop:=t'.AA/\(t'.ht=t.ht∨t'.ht=t.ht-1)/\(t'.ht=t.ht->t.right.ht<t.ht->t'.right.ht<t'.ht)
theorem uy(b:Nat)(v i L:Int)(l r u:Tt):(Tt.node b v i L l r).PI u=.node b v i L l u:=rfl
theorem qn{n I T D A G U N:Tt}{B M:Nat}{H O V J E R:Int}(Y:vU n=I)(a:yW I=.node B H O V T D)(X:yW D=A)(b:A.PI (yW A.right)=G)
 (Z:xc (.node B H O V T G)=.node M J E R U N):xi n=.node M J E R U (xc N):=by
 unfold xi;simp only[Y,a,yM,uy,X,b,Z]
theorem YT{l r:Tt}(h:¬Ys l r<L):vU (.node b v i L l r)=.node b v i L l r:=by simp only[vU];rw[if_neg h]
theorem Vh{l r:Tt}(h:Tt.AA (.node b v i L l r)):xi (.node b v i L l r)=.node b v i L l r:=by
 obtain⟨hl,B,h1,h2,D⟩:=h;have V:¬Ys l r<L:=by unfold Ys;omega
 have U:r.right.ht≠L:=by
  rcases D with D|⟨D,h4⟩
  .cases r with
   | nil=>simp only[uk,vu];omega
   | node c x j M p q=>obtain⟨_,_,J,O,A⟩:=B;simp only[yL]at D;simp only[yM];omega
  .omega
 have I:∀t:Tt,t.AA->yW t=t:=by
  intro t G;cases t with
  | nil=>rfl
  | node c x j M p q=>exact xM (by obtain⟨_,_,J,O,A⟩:=G;omega)
 have R:∀t:Tt,t.AA->xc t=t:=by
  intro t G;cases t with
  | nil=>rfl
  | node c x j M p q=>
   obtain⟨q0,E,J,O,A⟩:=G;apply xw;rcases A with A|⟨A,q4⟩
   .cases q with
    | nil=>simp only[uk,vu];omega
    | node d y k N s u=>obtain⟨_,_,p1,p2,p3⟩:=E;simp only[yL]at A;simp only[yM];omega
   .omega
 have H:∀t:Tt,t.PI t.right=t:=by intro t;cases t<;>rfl
 have T:yW r.right=r.right:=by
  cases r with
  | nil=>rfl
  | node c x j M p q=>exact I q B.2.1
 rw[qn (YT V) (xM (by omega)) (I r B) (by rw[T,H]) (xw U),R r B]
theorem Fd{l r:Tt}(B:min l.ht r.ht+1=M)(h:M<L)(h2:r.ht<=M):vU (.node b v i L l r)=.node b v i M l r:=by have A:Ys l r=M:=B;simp only[vU,A];rw[if_pos h,if_neg (by omega)]
theorem Lc{l r:Tt}(B:min l.ht r.ht+1=M)(h:M<L)(h2:M<r.ht):vU (.node b v i L l r)=.node b v i M l (r.bJ M):=by have A:Ys l r=M:=B;simp only[vU,A];rw[if_pos h,if_pos (by omega)]
theorem Ug{t:Tt}(h:t.AA):yW t=t:=by
 cases t with
 | nil=>rfl
 | node c x j M p q=>exact xM (by obtain⟨_,_,q1,q2,q3⟩:=h;omega)
theorem MF{t:Tt}(h:t.AA)(h0:0<t.ht):t.right.ht=t.ht-1∨(t.right.ht=t.ht/\t.right.right.ht=t.ht-1):=by obtain⟨b,v,i,L,l,r,rfl,h1,h2,h3,h4,A⟩:=Xd h (by omega);exact A
theorem BZ{t:Tt}(h:t.AA):t.right.ht<=t.ht:=by
 cases t with
 | nil=>exact Int.le_refl _
 | node b v i L l r=>obtain⟨_,_,q1,q2,q3⟩:=h;simp only[yM,yL];omega
theorem Pv{t:Tt}(h:t.AA):xc t=t:=by
 cases t with
 | nil=>rfl
 | node c x j M p q=>
  obtain⟨q0,A,q1,q2,B⟩:=h;apply xw;rcases B with B|⟨B,q4⟩
  .have:=BZ A;omega
  .omega
theorem Vi{l r B:Tt}(v' D:Int)(h:Tt.AA (.node b v i L l r))(Q:We l B):We (.node b v i L l r) (xi (.node b v' D L B r)):=by
 obtain⟨a1,g,P,a4,G⟩:=h;obtain⟨H,Y,d3⟩:=Q;have a0:=H.iA;rcases Y with Y|Y
 .have O:Tt.AA (.node b v' D L B r):=⟨H,g,P,by omega,G⟩
  rw[Vh O];exact⟨O,.inl rfl,fun _ h=>h⟩
 .rcases G with G|⟨G,a⟩
  ·
    obtain⟨c,x,j,M,p,q,rfl,V,E,C,X,I⟩:=Xd g (by omega);simp only[yL]at G;subst G;have A:vU (.node b v' D L B (.node c x j (L-1) p q))=.node b v' D (L-1) B (.node c x j (L-1) p q):=Fd (by simp only[yL];omega) (by omega) (by simp only[yL];omega);rcases I with I|⟨I,e6⟩
    .have hs:xc (.node b v' D (L-1) B (.node c x j (L-1) p q))=.node b v' D (L-1) B (.node c x j (L-1) p q):=xw (by simp only[yM];omega);rw[qn A (xM (by omega)) (xM (by omega)) (by rw[yM,Ug E];rfl) hs,xw (by have:=BZ E;omega)];exact⟨⟨H,⟨V,E,C,X,.inl I⟩,by omega,by omega,.inr ⟨by simp only[yL],by simp only[yM];omega⟩⟩,.inr (by simp only[yL]),fun h=>by simp only[yL]at h;omega⟩
    .have hs:xc (.node b v' D (L-1) B (.node c x j (L-1) p q))=.node c x j (L-1+1) (.node b v' D (L-1) B p) q:=qI (by omega) (by omega);rw[qn A (xM (by omega)) (xM (by omega)) (by rw[yM,Ug E];rfl) hs,Pv E];exact⟨⟨⟨H,V,by omega,by omega,.inl (by omega)⟩,E,by omega,by simp only[yL];omega,.inl (by omega)⟩,.inl (by simp only[yL];omega),fun _ _=>by simp only[yL,yM];omega⟩
  .obtain⟨c,x,j,M,p,q,rfl,V,E,C,X,I⟩:=Xd g (by omega);simp only[yL]at G;simp only[yM]at a;subst G;have A:vU (.node b v' D M B (.node c x j M p q))=.node b v' D (M-1) B (.node c x j (M-1) p q):=Lc (by simp only[yL];omega) (by omega) (by simp only[yL];omega);obtain⟨d,y,k,N,T,n,rfl,Z,f,f3,f4,R⟩:=Xd V (by omega);simp only[yL]at X;subst X;rcases R with R|⟨R,S⟩
   .have hs:xc (.node b v' D (M-1) B (.node d y k (M-1) T (.node c x j (M-1) n q)))=.node d y k (M-1+1) (.node b v' D (M-1) B T) (.node c x j (M-1) n q):=qI rfl (by omega);rw[qn A (xM (by omega)) (vM rfl) (by rw[yM,xM (by omega)];rfl) hs];have J:=MF E (by omega);obtain⟨e,z,m,K,q1,q2,rfl,U,g2,F,o,t⟩:=Xd E (by omega);simp only[yL,yM]at a J;subst a;rcases J with J|⟨J,h0⟩
    .rw[xw (by simp only[yM];omega)];exact⟨⟨⟨H,Z,by omega,by omega,.inl (by omega)⟩,⟨f,⟨U,g2,F,o,t⟩,by omega,by omega,.inr ⟨by simp only[yL],by simp only[yM];omega⟩⟩,by omega,by simp only[yL];omega,.inl (by simp only[yL];omega)⟩,.inl (by simp only[yL];omega),fun _ h=>by simp only[yL,yM]at h;omega⟩
    .rw[qI J (by omega)];exact⟨⟨⟨H,Z,by omega,by omega,.inl (by omega)⟩,⟨⟨f,U,by omega,by omega,.inl (by omega)⟩,g2,by omega,by simp only[yL];omega,.inl (by omega)⟩,by omega,by simp only[yL];omega,.inr ⟨by simp only[yL],by simp only[yM];omega⟩⟩,.inl (by simp only[yL];omega),fun _ h=>by simp only[yL,yM]at h;omega⟩
   .obtain⟨e,z,m,K,s,u,rfl,U,g2,F,o,t⟩:=Xd f (by omega);simp only[yL,yM]at R S;subst R;have hs:xc (.node b v' D (M-1) B (.node d y k (M-1) T (.node e z m (M-1) s (.node c x j (M-1) u q))))=.node d y k (M-1+1) (.node b v' D (M-1) B T) (.node e z m (M-1) s (.node c x j (M-1) u q)):=qI rfl (by omega);rw[qn A (xM (by omega)) (vM rfl) (by rw[yM,vM rfl];rfl) hs,qI (by omega) (by omega)]
    exact⟨⟨⟨H,Z,by omega,by omega,.inl (by omega)⟩,⟨⟨U,g2,by omega,by omega,.inl (by omega)⟩,E,by omega,by simp only[yL];omega,.inl (by omega)⟩,by omega,by simp only[yL];omega,.inr ⟨by simp only[yL],by simp only[yM];omega⟩⟩,.inl (by simp only[yL];omega),fun _ h=>by simp only[yL,yM]at h;omega⟩
theorem Wz{l r r':Tt}(v' B:Int)(h:Tt.AA (.node b v i L l r))(f:We r r'):We (.node b v i L l r) (xi (.node b v' B L l r')):=by
 obtain⟨V,a2,a,R,O⟩:=h;obtain⟨D,H,X⟩:=f;have a0:=D.iA;by_cases hs:r'.ht=L-1∨(r'.ht=L/\r'.right.ht=L-1)
 .have G:Tt.AA (.node b v' B L l r'):=⟨V,D,a,R,hs⟩
  rw[Vh G];refine⟨G,.inl rfl,fun _ h=>?_⟩;simp only[yL,yM]at h ⊢;omega
 .rcases O with O|⟨O,a6⟩
  .have h0:r'.ht=L-2:=by omega
   obtain⟨c,x,j,M,p,q,rfl,U,T,e3,e4,E⟩:=Xd V (by omega);simp only[yL]at R;subst R;have A:vU (.node b v' B L (.node c x j (L-1) p q) r')=.node b v' B (L-1) (.node c x j (L-1) p q) r':=Fd (by simp only[yL];omega) (by omega) (by omega);have h1:=BZ D;rcases E with E|⟨E,Z⟩
   .have I:xc (.node c x j (L-1) p (.node b v' B (L-1) q r'))=.node c x j (L-1) p (.node b v' B (L-1) q r'):=xw (by simp only[yM];omega);rw[qn A (vM rfl) (xM (by omega)) (by rw[yM,Ug D];rfl) I,xw (by omega)];exact⟨⟨U,⟨T,D,by omega,by omega,.inl (by omega)⟩,by omega,by omega,.inr ⟨by simp only[yL],by simp only[yM];omega⟩⟩,.inr (by simp only[yL]),fun h=>by simp only[yL]at h;omega⟩
   .obtain⟨d,y,k,N,s,u,rfl,Y,g,f3,f4,f5⟩:=Xd T (by omega);simp only[yL,yM]at E Z;subst E;have I:xc (.node c x j (L-1) p (.node d y k (L-1) s (.node b v' B (L-1) u r')))=.node d y k (L-1+1) (.node c x j (L-1) p s) (.node b v' B (L-1) u r'):=qI rfl (by omega);rw[qn A (vM rfl) (vM rfl) (by rw[yM,xM (by omega)];rfl) I,xw (by omega)];exact⟨⟨⟨U,Y,by omega,by omega,.inl (by omega)⟩,⟨g,D,by omega,by omega,.inl (by omega)⟩,by omega,by simp only[yL];omega,.inl (by simp only[yL];omega)⟩,.inl (by simp only[yL];omega),fun _ _=>by simp only[yL,yM];omega⟩
  .exfalso;have J:=X;rcases H with H|H
   .have:=J H (by omega);have hp:=MF D (by omega);omega
   .omega
theorem Nc{t:Tt}(h:t.AA):We t t:=⟨h,.inl rfl,fun _ h=>h⟩
theorem Fe:∀(t:Tt) (k:Int×Int),t.AA->We t (xp k t):=by
 intro t
 induction t with
 | nil=>intro k h;exact Nc h
 | node b v i L l r ihl ihr=>
  intro k h;have A:=h;obtain⟨H,I,a3,J,a5⟩:=h;simp only[xp];split
  .exact Vi v i A (ihl k H)
  .split
   .exact Wz v i A (ihr k I)
   .split
    .exact Vi _ _ A (ihl _ H)
    .rename_i D;have G:=qX (by simpa using D);subst G;split
     .exact Wz _ _ A (ihr _ I)
     .rename_i B;have E:=qX (by simpa using B);subst E;simp only[vu]at J;exact⟨trivial,.inr (by simp only[yL,vu];omega),fun e=>by simp only[yL,vu]at e;omega⟩
theorem Fj(v:BitVec 64):IntKind.i64.wrap (v.toNat:Int)=v.toInt:=by have h:=v.isLt;rw[IntKind.wrap_i64,BitVec.toInt_eq_toNat_cond];split<;>omega
theorem Wf(x:Int)(hx: -9223372036854775808<=x/\x<=9223372036854775807):(BitVec.ofInt 64 x).msb=decide (x<0):=by
 rw[BitVec.msb_eq_toInt,BitVec.toInt_ofInt]
 congr 1
 rw[Int.bmod_eq_of_le (by omega) (by omega)]
theorem Ra(A:BinOp)(x y:Int)(f:BitVec 64->BitVec 64->BitVec 64)(h:bits A zj x y=IntKind.i64.wrap ((f (BitVec.ofInt 64 x) (BitVec.ofInt 64 y)).toNat:Int)):
 decide (bits A zj x y<0)=(f (BitVec.ofInt 64 x) (BitVec.ofInt 64 y)).msb:=by
 rw[h,Fj,BitVec.msb_eq_toInt]
theorem IB(A:BinOp)(x y:Int)(f:BitVec 64->BitVec 64->BitVec 64)(h:bits A zj x y=IntKind.i64.wrap ((f (BitVec.ofInt 64 x) (BitVec.ofInt 64 y)).toNat:Int)):
 -9223372036854775808<=bits A zj x y/\bits A zj x y<=9223372036854775807:=by
 rw[h,Fj];have h1:=BitVec.le_toInt (f (BitVec.ofInt 64 x) (BitVec.ofInt 64 y));have h2:=BitVec.toInt_lt (x:=f (BitVec.ofInt 64 x) (BitVec.ofInt 64 y));constructor<;>omega
theorem Nm(x y:Int): -9223372036854775808<=bits .xor zj x y/\bits .xor zj x y<=9223372036854775807:=IB .xor x y (· ^^^ ·) rfl
theorem El(x y:Int)(E: -9223372036854775808<=x/\x<=9223372036854775807)(B: -9223372036854775808<=y/\y<=9223372036854775807):
 bits .xor zj x y<0↔(x<0↔¬y<0):=by
 have h:=Ra .xor x y (· ^^^ ·) rfl;rw[BitVec.msb_xor,Wf x E,Wf y B]at h;by_cases D:x<0<;>by_cases A:y<0<;>simp[D,A]at h ⊢ <;> omega
theorem YU(x y:Int)(E: -9223372036854775808<=x/\x<=9223372036854775807)(B: -9223372036854775808<=y/\y<=9223372036854775807):
 bits .and zj x y<0↔(x<0/\y<0):=by
 have h:=Ra .and x y (· &&& ·) rfl;rw[BitVec.msb_and,Wf x E,Wf y B]at h;by_cases D:x<0<;>by_cases A:y<0<;>simp[D,A]at h ⊢ <;> omega
theorem Fk(a b:Int)(B: -9223372036854775808<=a/\a<=9223372036854775807)(hb: -9223372036854775808<=b/\b<=9223372036854775807):
 bits .and zj (bits .xor zj a (wrap64 (a+b))) (bits .xor zj b (wrap64 (a+b))) <0↔¬(-9223372036854775808<=a+b/\a+b<=9223372036854775807):=by
 have A: -9223372036854775808<=wrap64 (a+b)/\wrap64 (a+b)<=9223372036854775807:=by unfold wrap64;omega
 rw[YU _ _ (Nm _ _) (Nm _ _),El _ _ B A,El _ _ hb A];unfold wrap64;omega
theorem Rc(a b:Int)(A: -9223372036854775808<=a/\a<=9223372036854775807)(hb: -9223372036854775808<=b/\b<=9223372036854775807):
 bits .and zj (bits .xor zj a b) (bits .xor zj a (wrap64 (a-b))) <0↔¬(-9223372036854775808<=a-b/\a-b<=9223372036854775807):=by
 have B: -9223372036854775808<=wrap64 (a-b)/\wrap64 (a-b)<=9223372036854775807:=by unfold wrap64;omega
 rw[YU _ _ (Nm _ _) (Nm _ _),El _ _ A hb,El _ _ A B];unfold wrap64;omega
theorem Vl(a b:Int)(w:zu)(D: -9223372036854775808<=a/\a<=9223372036854775807)(hb: -9223372036854775808<=b/\b<=9223372036854775807)
 (h: -9223372036854775808<=a+b/\a+b<=9223372036854775807):
 zw prog 202 #[zd zj a,zd zj b] w fun e w'=>e=zm (zi #[zd zj (a+b),zh true])/\w=w':=by
 have A:=Fk a b D hb;have RJ:¬bits .and zj (bits .xor zj a (a+b)) (bits .xor zj b (a+b)) <0:=by rw[IntWalk.wrap64_in _ h]at A;exact fun B=>(A.1 B) h
 clear A;go_enter func202,ntmps202;go_wp2;go_ret2;exact⟨rfl,rfl⟩
theorem Nn(a b:Int)(w:zu)(A: -9223372036854775808<=a/\a<=9223372036854775807)(hb: -9223372036854775808<=b/\b<=9223372036854775807)
 (h:¬(-9223372036854775808<=a+b/\a+b<=9223372036854775807)):
 zw prog 202 #[zd zj a,zd zj b] w fun e w'=>e=zm (zi #[zd zj 0,zh zt])/\w=w':=by
 have RJ:=(Fk a b A hb).2 h;have H:=yw h;clear h;go_enter func202,ntmps202;go_wp2;go_ret2;exact⟨rfl,rfl⟩
theorem YV(a b:Int)(w:zu)(D: -9223372036854775808<=a/\a<=9223372036854775807)(hb: -9223372036854775808<=b/\b<=9223372036854775807)
 (h: -9223372036854775808<=a-b/\a-b<=9223372036854775807):
 zw prog 224 #[zd zj a,zd zj b] w fun e w'=>e=zm (zi #[zd zj (a-b),zh true])/\w=w':=by
 have A:=Rc a b D hb;have RJ:¬bits .and zj (bits .xor zj a b) (bits .xor zj a (a-b)) <0:=by rw[IntWalk.wrap64_in _ h]at A;exact fun B=>(A.1 B) h
 clear A;go_enter func224,ntmps224;go_wp2;go_ret2;exact⟨rfl,rfl⟩
theorem QC(a b:Int)(w:zu)(A: -9223372036854775808<=a/\a<=9223372036854775807)(hb: -9223372036854775808<=b/\b<=9223372036854775807)
 (h:¬(-9223372036854775808<=a-b/\a-b<=9223372036854775807)):
 zw prog 224 #[zd zj a,zd zj b] w fun e w'=>e=zm (zi #[zd zj 0,zh zt])/\w=w':=by
 have RJ:=(Rc a b A hb).2 h;have H:=yw h;clear h;go_enter func224,ntmps224;go_wp2;go_ret2;exact⟨rfl,rfl⟩
theorem DL(n A B:Int)(w:zu)(h:n<A):
 zw prog 189 #[zd zj n,zd zj A,zd zj B] w fun e w'=>e=zm (zd zj A)/\w=w':=by
 go_enter func189,ntmps189;go_wp2;go_ret;exact⟨rfl,rfl⟩
theorem DM(n B A:Int)(w:zu)(h:B<=n)(h2:n<=A):
 zw prog 189 #[zd zj n,zd zj B,zd zj A] w fun e w'=>e=zm (zd zj n)/\w=w':=by
 go_enter func189,ntmps189;go_wp2;go_ret;exact⟨rfl,rfl⟩
theorem WJ(n B A:Int)(w:zu)(h:B<=n)(h2:A<n):
 zw prog 189 #[zd zj n,zd zj B,zd zj A] w fun e w'=>e=zm (zd zj A)/\w=w':=by
 go_enter func189,ntmps189;go_wp2;go_ret;exact⟨rfl,rfl⟩
def Ub(n B A:Int):Int:=if n<B then B else if A<n then A else n
theorem Vm(n B A:Int)(w:zu):
 zw prog 189 #[zd zj n,zd zj B,zd zj A] w fun e w'=>e=zm (zd zj (Ub n B A))/\w=w':=by
 unfold Ub;split
 .exact DL _ _ _ _ ‹_›
 .split
  .exact WJ _ _ _ _ (by omega) ‹_›
  .exact DM _ _ _ _ (by omega) (by omega)
theorem Em(a b:Int)(w:zu)(A: -9223372036854775808<=a/\a<=9223372036854775807)(hb: -9223372036854775808<=b/\b<=9223372036854775807)(h: -9223372036854775808<=a+b/\a+b<=9223372036854775807):
 zw prog 153 #[zd zj a,zd zj b] w fun e w'=>e=zm (zd zj (a+b))/\w'=w.alloc (zn #[zd zj b] 2):=by
 skip
 go_enter func153,ntmps153;go_wp2_with (first|(go_at_call 202;refine(Vl _ _ _ A hb h).mono ?_;rintro e w' ⟨rfl,rfl⟩)|go_in);go_ret;exact⟨rfl,rfl⟩
theorem DN(a b:Int)(w:zu)(A: -9223372036854775808<=a/\a<=9223372036854775807)(hb: -9223372036854775808<=b/\b<=9223372036854775807)(h:¬(-9223372036854775808<=a+b/\a+b<=9223372036854775807))(ht:0<b):
 zw prog 153 #[zd zj a,zd zj b] w fun e w'=>e=zm (zd zj 9223372036854775807)/\w'=w.alloc (zn #[zd zj b] 2):=by
 have H:=yw h;clear h;go_enter func153,ntmps153;go_wp2_with (first|(go_at_call 202;refine(Nn _ _ _ A hb H.out).mono ?_;rintro e w' ⟨rfl,rfl⟩)|go_in);go_ret;exact⟨rfl,rfl⟩
theorem IC(a b:Int)(w:zu)(A: -9223372036854775808<=a/\a<=9223372036854775807)(hb: -9223372036854775808<=b/\b<=9223372036854775807)(h:¬(-9223372036854775808<=a+b/\a+b<=9223372036854775807))(ht:¬0<b):
 zw prog 153 #[zd zj a,zd zj b] w fun e w'=>e=zm (zd zj (-9223372036854775808))/\w'=w.alloc (zn #[zd zj b] 2):=by
 have H:=yw h;clear h;go_enter func153,ntmps153;go_wp2_with (first|(go_at_call 202;refine(Nn _ _ _ A hb H.out).mono ?_;rintro e w' ⟨rfl,rfl⟩)|go_in);go_ret;exact⟨rfl,rfl⟩
theorem DO(a b:Int)(w:zu)(A: -9223372036854775808<=a/\a<=9223372036854775807)(hb: -9223372036854775808<=b/\b<=9223372036854775807)(h: -9223372036854775808<=a-b/\a-b<=9223372036854775807):
 zw prog 188 #[zd zj a,zd zj b] w fun e w'=>e=zm (zd zj (a-b))/\w'=w.alloc (zn #[zd zj b] 2):=by
 skip
 go_enter func188,ntmps188;go_wp2_with (first|(go_at_call 224;refine(YV _ _ _ A hb h).mono ?_;rintro e w' ⟨rfl,rfl⟩)|go_in);go_ret;exact⟨rfl,rfl⟩
theorem WK(a b:Int)(w:zu)(A: -9223372036854775808<=a/\a<=9223372036854775807)(hb: -9223372036854775808<=b/\b<=9223372036854775807)(h:¬(-9223372036854775808<=a-b/\a-b<=9223372036854775807))(ht:b<0):
 zw prog 188 #[zd zj a,zd zj b] w fun e w'=>e=zm (zd zj 9223372036854775807)/\w'=w.alloc (zn #[zd zj b] 2):=by
 have H:=yw h;clear h;go_enter func188,ntmps188;go_wp2_with (first|(go_at_call 224;refine(QC _ _ _ A hb H.out).mono ?_;rintro e w' ⟨rfl,rfl⟩)|go_in);go_ret;exact⟨rfl,rfl⟩
theorem DP(a b:Int)(w:zu)(A: -9223372036854775808<=a/\a<=9223372036854775807)(hb: -9223372036854775808<=b/\b<=9223372036854775807)(h:¬(-9223372036854775808<=a-b/\a-b<=9223372036854775807))(ht:¬b<0):
 zw prog 188 #[zd zj a,zd zj b] w fun e w'=>e=zm (zd zj (-9223372036854775808))/\w'=w.alloc (zn #[zd zj b] 2):=by
 have H:=yw h;clear h;go_enter func188,ntmps188;go_wp2_with (first|(go_at_call 224;refine(QC _ _ _ A hb H.out).mono ?_;rintro e w' ⟨rfl,rfl⟩)|go_in);go_ret;exact⟨rfl,rfl⟩
def Xy(n:Int):Bool:=decide (-9223372036854775808<=n/\n<=9223372036854775807)
def DQ(n:Int):Int:=if Xy n then n else 0
theorem Xn(h: -9223372036854775808<=n/\n<=9223372036854775807):Xy n=true:=by simp[Xy,h]
theorem Kq(h:¬(-9223372036854775808<=n/\n<=9223372036854775807)):Xy n=zt:=by simp only[Xy,decide_eq_false_iff_not];exact h
theorem DR(h: -9223372036854775808<=n/\n<=9223372036854775807):DQ n=n:=by simp[DQ,Xn h]
theorem ID(h:¬(-9223372036854775808<=n/\n<=9223372036854775807)):DQ n=0:=by simp[DQ,Kq h]
def Xg(a b:Int):Int:=if Xy (a+b)then a+b else if 0<b then 9223372036854775807 else -9223372036854775808
def vN(a b:Int):Int:=if Xy (a-b)then a-b else if b<0 then 9223372036854775807 else -9223372036854775808
theorem Rd{b:Int}(h: -9223372036854775808<=a+b/\a+b<=9223372036854775807):Xg a b=a+b:=by simp[Xg,Xn h]
theorem WL{b:Int}(h:¬(-9223372036854775808<=a+b/\a+b<=9223372036854775807))(A:0<b):Xg a b=9223372036854775807:=by simp[Xg,Kq h,A]
theorem DS{b:Int}(h:¬(-9223372036854775808<=a+b/\a+b<=9223372036854775807))(A:¬0<b):Xg a b= -9223372036854775808:=by simp only[Xg,Kq h,if_neg A];rfl
theorem Lg{b:Int}(h: -9223372036854775808<=a-b/\a-b<=9223372036854775807):vN a b=a-b:=by simp[vN,Xn h]
theorem QD{b:Int}(h:¬(-9223372036854775808<=a-b/\a-b<=9223372036854775807))(A:b<0):vN a b=9223372036854775807:=by simp[vN,Kq h,A]
theorem WM{b:Int}(h:¬(-9223372036854775808<=a-b/\a-b<=9223372036854775807))(A:¬b<0):vN a b= -9223372036854775808:=by simp only[vN,Kq h,if_neg A];rfl
theorem IE(a b:Int)(w:zu)(A: -9223372036854775808<=a/\a<=9223372036854775807)(hb: -9223372036854775808<=b/\b<=9223372036854775807):
 zw prog 202 #[zd zj a,zd zj b] w fun e w'=>e=zm (zi #[zd zj (DQ (a+b)),zh (Xy (a+b))])/\w=w':=by
 by_cases h: -9223372036854775808<=a+b/\a+b<=9223372036854775807
 .rw[DR h,Xn h];exact Vl a b w A hb h
 .rw[ID h,Kq h];exact Nn a b w A hb h
theorem No(a b:Int)(w:zu)(B: -9223372036854775808<=a/\a<=9223372036854775807)(hb: -9223372036854775808<=b/\b<=9223372036854775807):
 zw prog 153 #[zd zj a,zd zj b] w fun e w'=>e=zm (zd zj (Xg a b))/\w'=w.alloc (zn #[zd zj b] 2):=by
 by_cases h: -9223372036854775808<=a+b/\a+b<=9223372036854775807
 .rw[Rd h];exact Em a b w B hb h
 .by_cases A:0<b
  .rw[WL h A];exact DN a b w B hb h A
  .rw[DS h A];exact IC a b w B hb h A
theorem Vn(a b:Int)(w:zu)(B: -9223372036854775808<=a/\a<=9223372036854775807)(hb: -9223372036854775808<=b/\b<=9223372036854775807):
 zw prog 188 #[zd zj a,zd zj b] w fun e w'=>e=zm (zd zj (vN a b))/\w'=w.alloc (zn #[zd zj b] 2):=by
 by_cases h: -9223372036854775808<=a-b/\a-b<=9223372036854775807
 .rw[Lg h];exact DO a b w B hb h
 .by_cases A:b<0
  .rw[QD h A];exact WK a b w B hb h A
  .rw[WM h A];exact DP a b w B hb h A
end Go.Proofs.YtmpdpmhpkgbepaaGreatDoor
namespace Go.Proofs.YtmpdpmhpkgbepaaGreatDoor
namespace Qt
open Go Go.RowKit Go.ChangeShapes Go.WideShapes
theorem Vl(a b:Int)(w:zu)(D: -9223372036854775808<=a/\a<=9223372036854775807)(hb: -9223372036854775808<=b/\b<=9223372036854775807)
 (h: -9223372036854775808<=a+b/\a+b<=9223372036854775807):
 zw prog 202 #[zd zj a,zd zj b] w fun e w'=>e=zm (zi #[zd zj (a+b),zh true])/\w=w':=by
 have A:=Fk a b D hb;have RJ:¬bits .and zj (bits .xor zj a (a+b)) (bits .xor zj b (a+b)) <0:=by rw[IntWalk.wrap64_in _ h]at A;exact fun B=>(A.1 B) h
 clear A;go_enter func202,ntmps202;go_wp2;go_ret2;exact⟨rfl,rfl⟩
theorem Em(a b:Int)(w:zu)(A: -9223372036854775808<=a/\a<=9223372036854775807)(hb: -9223372036854775808<=b/\b<=9223372036854775807)(h: -9223372036854775808<=a+b/\a+b<=9223372036854775807):
 zw prog 153 #[zd zj a,zd zj b] w fun e w'=>e=zm (zd zj (a+b))/\w.alloc (zn #[zd zj b] 2)=w':=by
 go_enter func153,ntmps153;go_wp2_with (first|(go_at_call 202;refine(Vl _ _ _ A hb h).mono ?_;rintro e w' ⟨rfl,rfl⟩)|go_in);go_ret;exact⟨rfl,rfl⟩
end Qt
end Go.Proofs.YtmpdpmhpkgbepaaGreatDoor
namespace Go.Proofs.YtmpdpmhpkgbepaaGreatDoor
open Go Go.RowKit Go.ChangeShapes Go.WideShapes
variable {B:Nat}{a w:zu}{F:Nat->Prop}
theorem yH(h:Below B a w)(n:Nat):Below B a (w.drewN n):=⟨h.os,h.tape,h.output,h.size,h.block⟩
theorem Fb{C:Nat}(h:Below B a w)(hc:C<=B):Below C a w:=⟨h.os,h.tape,h.output,h.size,fun k hk=>h.block k (by omega)⟩
theorem yC{C:Nat}{b c:zu}(h:Below B a b)(k:Below C b c)(A:B<=C):Below B a c:=h.trans (Fb k A)
theorem Lb{W w1:zu}(hb:Below W.heap.size W w1):(∀b o,b<W.heap.size->w1.cell? ⟨b,o,zp⟩=W.cell? ⟨b,o,zp⟩)/\(∀b o,b<W.heap.size->w1.frozen? ⟨b,o,zp⟩=W.frozen? ⟨b,o,zp⟩):=
 ⟨fun b o h=>hb.cell (p:=⟨b,o,zp⟩) h,fun b o h=>hb.frozen (p:=⟨b,o,zp⟩) h⟩
structure OA(F:Nat->Prop)(w w':zu):Prop where
 os:w'.os=w.os
 tape:w'.tape=w.tape
 output:w'.output=w.output
 size:w.heap.size<=w'.heap.size
 block:∀k,k<w.heap.size->¬F k->w'.heap[k]?=w.heap[k]?
theorem OA.NZ{w':zu}(h:Below w.heap.size w w'):OA F w w':=⟨h.os,h.tape,h.output,h.size,fun k hk _=>h.block k hk⟩
theorem OA.below{w':zu}(h:OA F w w')(hB:B<=w.heap.size)(D:∀k,F k->B<=k):Below B w w':=
 ⟨h.os,h.tape,h.output,h.size,fun k hk=>h.block k (by omega) (fun A=>by have:=D k A;omega)⟩
theorem OA.refl(F:Nat->Prop)(w:zu):OA F w w:=⟨rfl,rfl,rfl,yA _,fun _ _ _=>rfl⟩
theorem OA.alloc(h:OA F a w)(o:Obj):OA F a (w.alloc o):=
 ⟨h.os,h.tape,h.output,Nat.le_trans h.size (by simp),fun k hk A=>by rw[Below.heap_alloc w o k (yz hk h.size)];exact h.block k hk A⟩
theorem OA.drewN(h:OA F a w)(n:Nat):OA F a (w.drewN n):=⟨h.os,h.tape,h.output,h.size,h.block⟩
theorem OA.drew(h:OA F a w):OA F a w.drew:=⟨h.os,h.tape,h.output,h.size,h.block⟩
theorem OA.setCell(h:OA F a w){p:Addr}(A:F p.block∨a.heap.size<=p.block)(u:zz):OA F a (w.setCell p u):=
 ⟨h.os,h.tape,h.output,by simpa[World.setCell]using h.size,fun k hk B=>by rw[Below.heap_setCell w p u k (by rintro rfl;rcases A with A|A;exact B A;omega)];exact h.block k hk B⟩
theorem OA.grown{w':zu}{A:Option Nat}(h:OA F a w)(B:w.grownBy w' A)(G:∀k,A=zo k->F k∨a.heap.size<=k):OA F a w':=
 ⟨B.os.trans h.os,B.tape.trans h.tape,B.output.trans h.output,Nat.le_trans h.size B.size,fun k hk D=>by rw[B.block k (yz hk h.size) (by intro e;rcases G k e.symm with E|E;exact D E;omega)];exact h.block k hk D⟩
theorem OA.trans{G:Nat->Prop}{b c:zu}(h:OA F a b)(k:OA G b c)(E:∀x,G x->F x∨a.heap.size<=x):OA F a c:=
 ⟨k.os.trans h.os,k.tape.trans h.tape,k.output.trans h.output,Nat.le_trans h.size k.size,fun x D A=>by rw[k.block x (yz D h.size) (by intro e;rcases E x e with B|B;exact A B;omega)];exact h.block x D A⟩
theorem yD{b i:Nat}{cs:Array zz}{t:TypeId}{z:Nat×Nat}{u:zz}(h:w.heap[b]?=zo (zn cs t z)):(w.setCell ⟨b,i,zp⟩ u).heap[b]?=zo (zn (cs.setIfInBounds i u) t z):=by obtain⟨hb,A⟩:=yx h;simp only[World.setCell];rw[Array.getElem?_modify];simp[hb,A]
end Go.Proofs.YtmpdpmhpkgbepaaGreatDoor
namespace Go.Proofs.YtmpdpmhpkgbepaaGreatDoor
open Go Go.RowKit
variable {P : Program}
theorem It(w:zu)(base:Nat)(t T e:TypeId)(i:TypeInfo)(z:zz)(G bytes:Nat)(U:P.underlying t=zo (.slice e))(X:P.info? e=zo i)(d:i.zero=zo z)
 (J:i.size=G) (bX:i.bytes=bytes)
 (v:zz) (n:Nat) (Z:List zz) (E:w.ownsRow base e G v n Z)
 (a:Addr) (m c:Nat) (A:List zz) (V:A.length=m*G) (B:∀j u,A[j]?=zo u->w.cell? (a.add j)=zo u) (h:∀u∈A,u.oneCell'=true)
 (Y:n+m<=maxLen) (D:(n+m)*bytes<=140737488355328) {v':zz} {w':zu}
 (I:(Builtin.append_ #[t,t] T #[v,zf (zo a) m c]).run P w=.ok v' w'):∀g,v'.ownBlock=zo g->v.ownBlock=zo g∨w.heap.size<=g:=by
 subst J;subst bX;have h2:n+m<=9223372036854775807:=by simp only[maxLen]at Y;omega
 rcases E.2 with⟨rfl,rfl⟩|⟨g,N,cur,rfl,h5,f,h6,h4,b,h3⟩
 .by_cases l:m=0
  .subst l;have M:(Builtin.append_ #[t,t] T #[zf zp 0 0,zf (zo a) 0 c]).run P w=.ok (zf zp 0 0) w:=by simp[Builtin.append_,run_underlying U,sizeOf,typeInfo,X,Builtin.lenOf,Builtin.firstCells,loadCells,loadCellsFrom]
   rw[M]at I;cases I;intro k hk;simp[zX]at hk
  .have M:=run_append_nil (P:=P) w t T e i z U X d a m c A V B (by omega) (by omega) (by have hb:=D;simp only[Nat.zero_add]at hb;omega);rw[M]at I;cases I;intro k hk;simp[zX]at hk;exact .inr (by omega)
 .by_cases H:n+m<=N
  .have R:n*i.size+A.length<=cur.size:=by rw[V,b,<-Nat.add_mul];exact Nat.mul_le_mul_right _ H
   have M:=run_append_room (P:=P) w t T e i U X g n N cur f a m c A V B h H R;rw[M]at I;cases I;intro k hk;exact .inl hk
  .have O:∀j u,Z[j]?=zo u->w.cell? ((⟨g,0,zp⟩:Addr).add j)=zo u:=E.cells (g:=g) rfl;have M:=run_append_grow (P:=P) w t T e i z U X d ⟨g,0,zp⟩ n N Z E.1 O a m c A V B (by omega) (by omega) (growslice_fits (by omega) D);rw[M]at I;cases I;intro k hk;simp[zX]at hk;exact .inr (by omega)
theorem Sj{o:Oper}{a:Act}{w:zu}{K:Act->zu->Prop}{Q:Exit->Act->zu->Prop}(s x:Operand)(t:TypeId)
 (D:o.op=.call { callee:=.builtin .append,args:=#[s,x],argTypes:=#[t,t] })
 (base:Nat) (e:TypeId) (i:TypeInfo) (z:zz) (size bytes:Nat) (ht:P.underlying t=zo (.slice e)) (hi:P.info? e=zo i) (hz:i.zero=zo z)
 (hsize:i.size=size) (bX:i.bytes=bytes) (hzs:z.cells.size=size) (hsz:0<size)
 (v:zz) (n:Nat) (xs:List zz) (hs:a.eval s=v) (hown:w.ownsRow base e size v n xs)
 (ad:Addr) (m c:Nat) (news:List zz) (hx:a.eval x=zf (zo ad) m c) (hl:news.length=m*size) (hnews:∀j u,news[j]?=zo u->w.cell? (ad.add j)=zo u) (h1:∀u∈news,u.oneCell'=true)
 (h63:n+m<=maxLen) (hbytes:(n+m)*bytes<=140737488355328) (hbase:base<=w.heap.size)
 (h:∀v' w',w'.ownsRow base e size v' (n+m) (xs++news)->w.grownBy w' v.ownBlock->(∀g,v'.ownBlock=zo g->v.ownBlock=zo g∨w.heap.size<=g)->K (a.put o.dst v') w'):o.wp P a w K Q:=by
 obtain⟨v',w',A,E,G,h4⟩:=run_append_own (P:=P) w base t o.type e i z size bytes ht hi hz hsize bX hzs hsz v n xs hown ad m c news hl hnews h1 h63 hbytes hbase;have B:=It (P:=P) w base t o.type e i z size bytes ht hi hz hsize bX v n xs hown ad m c news hl hnews h1 h63 hbytes A;unfold Oper.wp execOp;simp only[D,resolve,invoke,builtin,Sem.run_bind,Sem.run_pure,Result.andThen_ok,List.map_toArray,List.map_cons,List.map_nil,hs,hx,A];exact h v' w' E G B
theorem Yu(w:zu){A:Array Oper}{rest:List Oper}{o:Oper}{a:Act}{Q:Exit->Act->zu->Prop}(B:o.guard=zp)(s x:Operand)(t:TypeId)
 (D:o.op=.call { callee:=.builtin .append,args:=#[s,x],argTypes:=#[t,t] })
 (base:Nat) (e:TypeId) (i:TypeInfo) (z:zz) (size bytes:Nat) (ht:P.underlying t=zo (.slice e)) (hi:P.info? e=zo i) (hz:i.zero=zo z)
 (hsize:i.size=size) (bX:i.bytes=bytes) (hzs:z.cells.size=size) (hsz:0<size)
 (v:zz) (n:Nat) (xs:List zz) (hs:a.eval s=v) (hown:w.ownsRow base e size v n xs)
 (ad:Addr) (m c:Nat) (news:List zz) (hx:a.eval x=zf (zo ad) m c) (hl:news.length=m*size) (hnews:∀j u,news[j]?=zo u->w.cell? (ad.add j)=zo u) (h1:∀u∈news,u.oneCell'=true)
 (h63:n+m<=maxLen) (hbytes:(n+m)*bytes<=140737488355328) (hbase:base<=w.heap.size)
 (h:∀v' w',w'.ownsRow base e size v' (n+m) (xs++news)->w.grownBy w' v.ownBlock->(∀g,v'.ownBlock=zo g->v.ownBlock=zo g∨w.heap.size<=g)->wpList P A Q rest (a.put o.dst v') w'):wpList P A Q (o::rest) a w:=
 wpList_plain B fun _ H=>Sj s x t D base e i z size bytes ht hi hz hsize bX hzs hsz v n xs hs hown ad m c news hx hl hnews h1 h63 hbytes hbase fun v' w' E I G=>H _ _ (h v' w' E I G)
end Go.Proofs.YtmpdpmhpkgbepaaGreatDoor
