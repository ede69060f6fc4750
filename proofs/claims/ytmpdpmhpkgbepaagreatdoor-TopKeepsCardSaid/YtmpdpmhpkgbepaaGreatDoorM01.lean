/- Parts of the proof of the law TopKeeps: contracts of the functions that it reaches, and plain laws of what they compute. Conditions: those in each statement. -/
import Derived.Handy
import Derived.Test.YtmpdpmhpkgbepaaGreatDoorChecked
import Derived.Test.YtmpdpmhpkgbepaaGreatDoorM00
set_option linter.unusedVariables false
set_option maxRecDepth 100000
set_option maxHeartbeats 4000000
open Go.Proofs.Tryz
namespace Go.Proofs.YtmpdpmhpkgbepaaGreatDoor
open Go Go.RowKit Go.ChangeShapes Go.WideShapes
inductive Tt where
 | nil
 | node (b:Nat) (v i:Int) (L:Int) (l r:Tt)
def Tt.ht:Tt->Int
 | .nil=>0
 | .node _ _ _ L _ _=>L
def Tt.right:Tt->Tt
 | .nil=>.nil
 | .node _ _ _ _ _ r=>r
def Tt.bl:Tt->List Nat
 | .nil=> []
 | .node b _ _ _ l r=>b::(l.bl++r.bl)
def Tt.keys:Tt->List (Int×Int)
 | .nil=> []
 | .node _ v i _ l r=>l.keys++(v,i)::r.keys
def Tt.size:Tt->Nat
 | .nil=>0
 | .node _ _ _ _ l r=>l.size+r.size+1
def Tt.AA:Tt->Prop
 | .nil=>True
 | .node _ _ _ L l r=>l.AA/\r.AA/\1<=L/\l.ht=L-1/\(r.ht=L-1∨(r.ht=L/\r.right.ht=L-1))
def zC:Tt->Tt
 | .node b v i L (.node c x j M p q) r=>if M=L then .node c x j M p (.node b v i L q r)else .node b v i L (.node c x j M p q) r
 | t=>t
def zH:Tt->Tt
 | .node b v i L l (.node c x j M p (.node d y k N s t))=>if N=L then .node c x j (M+1) (.node b v i L l p) (.node d y k N s t)else .node b v i L l (.node c x j M p (.node d y k N s t))
 | t=>t
def zqk(a b:Int×Int):Prop:=a.1<b.1∨(a.1=b.1/\a.2<b.2)
instance (a b:Int×Int):Decidable (zqk a b):=by unfold zqk;infer_instance
def xY(a b:Int×Int):Int:=if a=b then 0 else if zqk a b then -1 else 1
def zW(n:Nat)(k:Int×Int):Tt->Tt
 | .nil=>.node n k.1 k.2 1 .nil .nil
 | .node b v i L l r=>if xY k (v,i)= -1 then zH (zC (.node b v i L (zW n k l) r))else if xY k (v,i)=1 then zH (zC (.node b v i L l (zW n k r)))else zH (zC (.node b v i L l r))
def uf(k:Int×Int):Tt->Bool
 | .nil=>true
 | .node b v i L l r=>if xY k (v,i)= -1 then uf k l else if xY k (v,i)=1 then uf k r else false
def Tt.zpA(t:Tt)(u:Tt):Tt:=match t with
 | .nil=>.nil
 | .node b v i L l _=>.node b v i L l u
def Tt.zrs(t:Tt)(M:Int):Tt:=match t with
 | .nil=>.nil
 | .node b v i _ l r=>.node b v i M l r
def uW(l r:Tt):Int:=min l.ht r.ht+1
def xK:Tt->Tt
 | .nil=>.nil
 | .node b v i L l r=>if uW l r<L then .node b v i (uW l r) l (if r.ht>uW l r then r.zrs (uW l r)else r)else .node b v i L l r
def zL(t:Tt):Tt:=
 let t1:=zC (xK t)
 let t2:=t1.zpA (zC t1.right)
 let t3:=t2.zpA (t2.right.zpA (zC t2.right.right))
 let t4:=zH t3
 t4.zpA (zH t4.right)
def xh:Tt->Int×Int
 | .nil=>(0,0)
 | .node _ v i _ _ .nil=>(v,i)
 | .node _ _ _ _ _ r=>xh r
def yk:Tt->Int×Int
 | .nil=>(0,0)
 | .node _ v i _ .nil _=>(v,i)
 | .node _ _ _ _ l _=>yk l
def Tt.isNil:Tt->Bool
 | .nil=>true
 | _=>false
def zQ(k:Int×Int):Tt->Tt
 | .nil=>.nil
 | .node b v i L l r=>
  if xY k (v,i) <0 then zL (.node b v i L (zQ k l) r)
  else if 0<xY k (v,i)then zL (.node b v i L l (zQ k r))
  else if l.isNil=false then zL (.node b (xh l).1 (xh l).2 L (zQ (xh l) l) r)
  else if r.isNil=false then zL (.node b (yk r).1 (yk r).2 L l (zQ (yk r) r))
  else .nil
def zhR(k:Int×Int):Tt->Bool
 | .nil=>false
 | .node b v i L l r=>if xY k (v,i) <0 then zhR k l else if 0<xY k (v,i)then zhR k r else true
theorem qZ(t:Tt):(zC t).keys=t.keys:=by
 unfold zC;split
 ·split <;> simp[Tt.keys]
 ·rfl
theorem vG(t:Tt):(zH t).keys=t.keys:=by
 unfold zH;split
 ·split <;> simp[Tt.keys]
 ·rfl
theorem yt(t:Tt):(zC t).bl.Perm t.bl:=by
 unfold zC;split
 ·rename_i b v i L c x j M p q r;split
  ·simp only[Tt.bl];have:(c::(p.bl++b::(q.bl++r.bl))).Perm (c::(b::(p.bl++(q.bl++r.bl)))):=(List.perm_middle).cons c;refine this.trans ((List.Perm.swap b c _).trans ?_);simp
  ·exact .refl _
 ·exact .refl _
theorem yX(t:Tt):(zH t).bl.Perm t.bl:=by
 unfold zH;split
 ·rename_i b v i L l c x j M p d y k N s u;split
  ·simp only[Tt.bl];have A:(c::((b::(l.bl++p.bl))++(d::(s.bl++u.bl)))).Perm (b::(c::((l.bl++p.bl)++(d::(s.bl++u.bl))))):=by simp only[List.cons_append];exact List.Perm.swap b c _
   refine A.trans (List.Perm.cons b ?_);rw[List.append_assoc];exact(List.perm_middle (a:=c) (l₁:=l.bl) (l₂:=p.bl++d::(s.bl++u.bl))).symm
  ·exact .refl _
 ·exact .refl _
theorem vH{t u:Tt}(h:u.bl.Perm t.right.bl):(t.zpA u).bl.Perm t.bl:=by
 cases t with
 | nil=>exact .refl _
 | node b v i L l r=>exact List.Perm.cons b (List.Perm.append_left l.bl h)
theorem qo{t u:Tt}(h:u.keys=t.right.keys):(t.zpA u).keys=t.keys:=by
 cases t with
 | nil=>rfl
 | node b v i L l r=>simp only[Tt.zpA,Tt.keys];rw[show u.keys=r.keys from h]
theorem zf1(t:Tt)(M:Int):(t.zrs M).keys=t.keys:=by cases t <;> rfl
theorem zjY(t:Tt)(M:Int):(t.zrs M).bl=t.bl:=by cases t <;> rfl
theorem zjZ(t:Tt):(xK t).keys=t.keys:=by
 cases t with
 | nil=>rfl
 | node b v i L l r=>
  simp only[xK];split
  ·simp only[Tt.keys];split
   ·rw[zf1]
   ·rfl
  ·rfl
theorem ze2(t:Tt):(xK t).bl=t.bl:=by
 cases t with
 | nil=>rfl
 | node b v i L l r=>
  simp only[xK];split
  ·simp only[Tt.bl];split
   ·rw[zjY]
   ·rfl
  ·rfl
theorem qq(t:Tt):(zL t).keys=t.keys:=by unfold zL;simp only;rw[qo (vG _),vG,qo (qo (qZ _)),qo (qZ _),qZ,zjZ]
theorem zf2(t:Tt):(zL t).bl.Perm t.bl:=by unfold zL;simp only;refine(vH (yX _)).trans ((yX _).trans ((vH (vH (yt _))).trans ((vH (yt _)).trans ((yt _).trans ?_))));rw[ze2]
theorem yP(a:Int×Int):¬zqk a a:=by unfold zqk;omega
theorem zbW{a b c:Int×Int}(h:zqk a b)(k:zqk b c):zqk a c:=by unfold zqk at*;omega
theorem xB{a b:Int×Int}(h:zqk a b):¬zqk b a:=by unfold zqk at*;omega
theorem ze3{a b:Int×Int}(h:a≠b)(k:¬zqk a b):zqk b a:=by
 unfold zqk at*;by_cases B:a.1=b.1
 ·by_cases A:a.2=b.2
  ·exact absurd (Prod.ext B A) h
  ·omega
 ·omega
theorem ze4{a b:Int×Int}(h:zqk a b):xY a b= -1:=by unfold xY;rw[if_neg (by rintro rfl;exact yP _ h),if_pos h]
theorem zcK{a b:Int×Int}(h:zqk b a):xY a b=1:=by unfold xY;rw[if_neg (by rintro rfl;exact yP _ h),if_neg (xB h)]
theorem zaC(a:Int×Int):xY a a=0:=by unfold xY;rw[if_pos rfl]
theorem vd(a b:Int×Int):(zqk a b/\xY a b= -1)∨(a=b/\xY a b=0)∨(zqk b a/\xY a b=1):=by
 by_cases h:a=b
 ·subst h;exact .inr (.inl ⟨rfl,zaC a⟩)
 ·by_cases k:zqk a b
  ·exact .inl ⟨k,ze4 k⟩
  ·exact .inr (.inr ⟨ze3 h k,zcK (ze3 h k)⟩)
def qE(k:Int×Int):List (Int×Int)->List (Int×Int)
 | []=> [k]
 | a::r=>if zqk k a then k::a::r else a::qE k r
theorem uh{k:Int×Int}{x:Int×Int}(h:zqk k x):∀(l r:List (Int×Int)),qE k (l++x::r)=qE k l++x::r
 | [],r=>by simp[qE,h]
 | a::l,r=>by
  simp only[List.cons_append,qE];split
  ·rfl
  ·rw[uh h l r];rfl
theorem vI{k x:Int×Int}(h:zqk x k):∀(l r:List (Int×Int)),(∀a∈l,zqk a x)->qE k (l++x::r)=l++x::qE k r
 | [],r,_=>by simp[qE,xB h]
 | a::l,r,hl=>by simp only[List.cons_append,qE];rw[if_neg (xB (zbW (hl a (by simp)) h)),vI h l r (fun a A=>hl a (by simp[A]))]
theorem za1(n:Nat)(k:Int×Int):∀t:Tt,t.keys.Pairwise zqk->k∉t.keys->(zW n k t).keys=qE k t.keys/\uf k t=true
 | .nil,_,_=>⟨rfl,rfl⟩
 | .node b v i L l r,hs,hk=>by
  simp only[Tt.keys]at hs hk;obtain⟨J,N,A⟩:=List.pairwise_append.1 hs;obtain⟨h0,D⟩:=List.pairwise_cons.1 N;have E:k∉l.keys:=fun h=>hk (by simp[h]);have I:k∉r.keys:=fun h=>hk (by simp[h]);have H:k≠(v,i):=fun h=>hk (by simp[h]);rcases vd k (v,i)with⟨h,e⟩ | ⟨h,e⟩ | ⟨h,e⟩
  ·obtain⟨G,B⟩:=za1 n k l J E;simp only[zW,uf,e,if_true];refine⟨?_,B⟩;rw[vG,qZ];simp only[Tt.keys];rw[G,uh h]
  ·exact absurd h H
  ·obtain⟨G,B⟩:=za1 n k r D I;simp only[zW,uf,e];rw[if_neg (by omega),if_pos trivial,if_neg (by omega),if_pos trivial];refine⟨?_,B⟩;rw[vG,qZ];simp only[Tt.keys];rw[G,vI h _ _ (fun a M=>A a M (v,i) (by simp))]
theorem za2:∀t:Tt,t.isNil=false->∃l,t.keys=l++ [xh t]
 | .nil,h=>by simp[Tt.isNil]at h
 | .node b v i L l .nil,_=>⟨l.keys,by simp[Tt.keys,xh]⟩
 | .node b v i L l (.node c x j M p q),_=>by obtain⟨m,hm⟩:=za2 (.node c x j M p q) rfl;refine⟨l.keys++(v,i)::m,?_⟩;have:xh (.node b v i L l (.node c x j M p q))=xh (.node c x j M p q):=rfl;rw[this];simp only[Tt.keys]at hm ⊢;rw[hm];simp
theorem vJ:∀t:Tt,t.isNil=false->∃l,t.keys=yk t::l
 | .nil,h=>by simp[Tt.isNil]at h
 | .node b v i L .nil r,_=>⟨r.keys,by simp[Tt.keys,yk]⟩
 | .node b v i L (.node c x j M p q) r,_=>by obtain⟨m,hm⟩:=vJ (.node c x j M p q) rfl;refine⟨m++(v,i)::r.keys,?_⟩;have:yk (.node b v i L (.node c x j M p q) r)=yk (.node c x j M p q):=rfl;rw[this];simp only[Tt.keys]at hm ⊢;rw[hm];simp
theorem xd{t:Tt}(h:t.isNil=true):t=.nil:=by cases t with
 | nil=>rfl
 | node=>simp[Tt.isNil]at h
theorem zaa{k:Int×Int}{l:List (Int×Int)}(h:∀a∈l,zqk a k∨zqk k a):k∉l:=fun A=>by rcases h k A with h | h <;> exact yP _ h
theorem zhS(k:Int×Int):∀t:Tt,t.keys.Pairwise zqk->k∈t.keys->(zQ k t).keys=t.keys.erase k/\zhR k t=true:=by
 intro t
 induction t generalizing k with
 | nil=>intro _ h;simp[Tt.keys]at h
 | node b v i L l r ihl ihr=>
  intro hs O;simp only[Tt.keys]at hs O;obtain⟨I,Z,G⟩:=List.pairwise_append.1 hs;obtain⟨R,H⟩:=List.pairwise_cons.1 Z;rcases vd k (v,i)with⟨h,e⟩ | ⟨h,e⟩ | ⟨h,e⟩
  ·have D:k∈l.keys:=by
    rcases List.mem_append.1 O with A | A
    ·exact A
    ·rcases List.mem_cons.1 A with A | A
     ·rw[A]at h;exact absurd h (yP _)
     ·exact absurd h (xB (R k A))
   obtain⟨A,J⟩:=ihl k I D;simp only[zQ,zhR,e];rw[if_pos (by omega),if_pos (by omega),qq];simp only[Tt.keys];rw[A,List.erase_append_left _ D];exact⟨rfl,J⟩
  ·subst h;have U:(v,i)∉l.keys:=zaa fun a V=>.inl (G a V (v,i) (by simp));have Y:(l.keys++(v,i)::r.keys).erase (v,i)=l.keys++r.keys:=by rw[List.erase_append_right _ U,List.erase_cons_head]
   have hw:zhR (v,i) (.node b v i L l r)=true:=by simp only[zhR,e];rfl
   refine⟨?_,hw⟩;simp only[Tt.keys];rw[Y];simp only[zQ,e];rw[if_neg (by omega),if_neg (by omega)];by_cases E:l.isNil=false
   ·rw[if_pos E];obtain⟨m,hm⟩:=za2 l E;obtain⟨A,_⟩:=ihl (xh l) I (by rw[hm];simp);rw[qq];simp only[Tt.keys];have X:xh l∉m:=by rw[hm]at I;have:=(List.pairwise_append.1 I).2.2;exact zaa fun a V=>.inl (this a V _ (by simp))
    rw[A,hm,List.erase_append_right _ X];simp
   ·rw[if_neg E];have M:=xd (by simpa using E);subst M;by_cases B:r.isNil=false
    ·rw[if_pos B];obtain⟨m,hm⟩:=vJ r B;obtain⟨A,_⟩:=ihr (yk r) H (by rw[hm];simp);rw[qq];simp only[Tt.keys];rw[A,hm,List.erase_cons_head]
    ·rw[if_neg B];have T:=xd (by simpa using B);subst T;simp[Tt.keys]
  ·have N:k∈r.keys:=by
    rcases List.mem_append.1 O with A | A
    ·exact absurd (G k A (v,i) (by simp)) (xB h)
    ·rcases List.mem_cons.1 A with A | A
     ·rw[A]at h;exact absurd h (yP _)
     ·exact A
   have D:k∉l.keys:=fun A=>xB (G k A (v,i) (by simp)) h;obtain⟨A,J⟩:=ihr k H N;simp only[zQ,zhR,e];rw[if_neg (by omega),if_pos (by omega),if_neg (by omega),if_pos (by omega),qq];simp only[Tt.keys];rw[A,List.erase_append_right _ D,List.erase_cons_tail (by simp;rintro rfl;exact yP _ h)];exact⟨rfl,J⟩
theorem ztQ(b:Nat)(v i L:Int)(l r:Tt):(Tt.node b v i L l r).ht=L:=rfl
theorem zt(b:Nat)(v i L:Int)(l r:Tt):(Tt.node b v i L l r).right=r:=rfl
theorem xj:Tt.nil.ht=0:=rfl
theorem xZ:Tt.nil.right=.nil:=rfl
theorem Tt.AA.ztm{t:Tt}(h:t.AA):0<=t.ht:=by cases t with
 | nil=>exact Int.le_refl _
 | node b v i L l r=>have:=h.2.2.1;simp only[ztQ];omega
theorem Tt.AA.size{t:Tt}(h:t.AA):t.ht<=t.size:=by
 induction t with
 | nil=>simp[xj]
 | node b v i L l r ihl ihr=>
  obtain⟨A,h2,h3,h4,h5⟩:=h;have:=ihl A;simp only[ztQ,Tt.size];omega
theorem vW{t:Tt}(h:t.AA)(A:1<=t.ht):∃b v i L l r,t=.node b v i L l r/\l.AA/\r.AA/\1<=L/\l.ht=L-1/\(r.ht=L-1∨(r.ht=L/\r.right.ht=L-1)):=by
 cases t with
 | nil=>simp[xj]at A
 | node b v i L l r=>exact⟨b,v,i,L,l,r,rfl,h⟩
theorem yi{b:Nat}{v i L:Int}{l r:Tt}(h:l.ht≠L):zC (.node b v i L l r)=.node b v i L l r:=by
 cases l with
 | nil=>rfl
 | node c x j M p q=>simp only[zC];rw[if_neg (by simpa[ztQ]using h)]
theorem xC{b c:Nat}{v i L x j M:Int}{p q r:Tt}(h:M=L):zC (.node b v i L (.node c x j M p q) r)=.node c x j M p (.node b v i L q r):=by simp only[zC];rw[if_pos h]
theorem zV{b:Nat}{v i L:Int}{l r:Tt}(h:r.right.ht≠L):zH (.node b v i L l r)=.node b v i L l r:=by
 cases r with
 | nil=>rfl
 | node c x j M p q=>
  cases q with
  | nil=>rfl
  | node d y k N s u=>simp only[zH];rw[if_neg (by simpa[ztQ,zt]using h)]
theorem yQ{b c:Nat}{v i L x j M:Int}{l p q:Tt}(h:q.ht=L)(A:L≠0):zH (.node b v i L l (.node c x j M p q))=.node c x j (M+1) (.node b v i L l p) q:=by
 cases q with
 | nil=>exact absurd h (by simp only[xj];exact fun e=>A e.symm)
 | node d y k N s u=>simp only[zH];rw[if_pos (by simpa[ztQ]using h)]
theorem zbp(n:Nat)(k:Int×Int):∀t:Tt,t.AA->(zW n k t).AA/\((zW n k t).ht=t.ht∨((zW n k t).ht=t.ht+1/\(zW n k t).right.ht=t.ht/\t.right.ht=t.ht))
 | .nil,_=>by simp[zW,Tt.AA,ztQ,xj,zt,xZ]
 | .node b v i L l r,h=>by
  obtain⟨H,E,D,I,A⟩:=h;have G:zH (zC (.node b v i L l r))=.node b v i L l r:=by
   rw[yi (by omega),zV];rcases A with A | ⟨A,O⟩
   ·cases r with
    | nil=>simp only[xZ,xj];omega
    | node c x j M p q=>
     obtain⟨_,_,g1,g2,g3⟩:=E;simp only[ztQ]at A;simp only[zt];omega
   ·omega
  simp only[zW];split
  ·
    obtain⟨g1,g2⟩:=zbp n k l H;rcases g2 with g2 | ⟨g2,g3,g4⟩
    ·rw[yi (by omega)];have B:r.right.ht≠L:=by
      rcases A with A | ⟨A,O⟩
      ·cases r with
       | nil=>simp only[xZ,xj];omega
       | node c x j M p q=>obtain⟨_,_,X,Z,Y⟩:=E;simp only[ztQ]at A;simp only[zt];omega
      ·omega
     rw[zV B];exact⟨⟨g1,E,D,by omega,A⟩,.inl rfl⟩
    ·obtain⟨c,x,j,M,p,q,he,N,J,R,T,U⟩:=vW g1 (by omega);rw[he]at g1 g2 g3 ⊢;simp only[ztQ,zt]at g2 g3;rw[xC (by omega)];rcases A with A | ⟨A,O⟩
     ·rw[zV (by simp only[zt];omega)];refine⟨⟨N,⟨J,E,D,by omega,.inl A⟩,R,T,.inr ⟨by simp only[ztQ];omega,by simp only[zt];omega⟩⟩,.inl (by simp only[ztQ];omega)⟩
     ·rw[yQ (by omega) (by omega)];refine⟨⟨⟨N,J,R,T,.inl (by omega)⟩,E,by omega,by simp only[ztQ];omega,.inl (by omega)⟩,.inr ⟨by simp only[ztQ],by simp only[ztQ,zt];omega,by simp only[ztQ,zt];omega⟩⟩
  ·split
   ·
     obtain⟨g1,g2⟩:=zbp n k r E;rw[yi (by omega)];rcases g2 with g2 | ⟨g2,g3,g4⟩
     ·rcases A with A | ⟨A,O⟩
      ·have B:(zW n k r).right.ht≠L:=by
        cases hw:zW n k r with
        | nil=>simp only[xZ,xj];omega
        | node c x j M p q=>rw[hw]at g1 g2;obtain⟨_,_,X,Z,Y⟩:=g1;simp only[ztQ]at g2;simp only[zt];omega
       rw[zV B];exact⟨⟨H,g1,D,I,.inl (by omega)⟩,.inl rfl⟩
      ·obtain⟨c,x,j,M,p,q,he,N,J,R,T,U⟩:=vW g1 (by omega);rw[he]at g1 g2 ⊢;simp only[ztQ]at g2;by_cases V:q.ht=L
       ·rw[yQ V (by omega)];refine⟨⟨⟨H,N,D,I,.inl (by omega)⟩,J,by omega,by simp only[ztQ];omega,.inl (by omega)⟩,.inr ⟨by simp only[ztQ];omega,by simp only[ztQ,zt];omega,by simp only[ztQ,zt];omega⟩⟩
       ·rw[zV (by simpa[zt]using V)];refine⟨⟨H,⟨N,J,R,T,U⟩,D,I,.inr ⟨by simp only[ztQ];omega,by simp only[zt];omega⟩⟩,.inl rfl⟩
     ·rcases A with A | ⟨A,O⟩
      ·rw[zV (by omega)];exact⟨⟨H,g1,D,I,.inr ⟨by omega,by omega⟩⟩,.inl rfl⟩
      ·omega
   ·rw[G];exact⟨⟨H,E,D,I,A⟩,.inl rfl⟩
def zaD(t t':Tt):Prop:=t'.AA/\(t'.ht=t.ht∨t'.ht=t.ht-1)/\(t'.ht=t.ht->t.right.ht<t.ht->t'.right.ht<t'.ht)
theorem qr(b:Nat)(v i L:Int)(l r u:Tt):(Tt.node b v i L l r).zpA u=.node b v i L l u:=rfl
theorem yE{n G N D A E O I:Tt}{B H:Nat}{v1 J R v2 i2 M:Int}(U:xK n=G)(X:zC G=.node B v1 J R N D)(T:zC D=A)(Y:A.zpA (zC A.right)=E)
 (V:zH (.node B v1 J R N E)=.node H v2 i2 M O I):zL n=.node H v2 i2 M O (zH I):=by
 unfold zL;simp only[U,X,zt,qr,T,Y,V]
theorem zjv{b:Nat}{v i L:Int}{l r:Tt}(h:¬uW l r<L):xK (.node b v i L l r)=.node b v i L l r:=by simp only[xK];rw[if_neg h]
theorem zbq{b:Nat}{v i L:Int}{l r:Tt}(h:Tt.AA (.node b v i L l r)):zL (.node b v i L l r)=.node b v i L l r:=by
 obtain⟨hl,B,h1,h2,D⟩:=h;have hm:¬uW l r<L:=by unfold uW;omega
 have T:r.right.ht≠L:=by
  rcases D with D | ⟨D,h4⟩
  ·cases r with
   | nil=>simp only[xZ,xj];omega
   | node c x j M p q=>obtain⟨_,_,J,O,A⟩:=B;simp only[ztQ]at D;simp only[zt];omega
  ·omega
 have I:∀t:Tt,t.AA->zC t=t:=by
  intro t G;cases t with
  | nil=>rfl
  | node c x j M p q=>exact yi (by obtain⟨_,_,J,O,A⟩:=G;omega)
 have sp:∀t:Tt,t.AA->zH t=t:=by
  intro t G;cases t with
  | nil=>rfl
  | node c x j M p q=>
   obtain⟨q0,E,J,O,A⟩:=G;apply zV;rcases A with A | ⟨A,q4⟩
   ·cases q with
    | nil=>simp only[xZ,xj];omega
    | node d y k N s u=>obtain⟨_,_,p1,p2,p3⟩:=E;simp only[ztQ]at A;simp only[zt];omega
   ·omega
 have H:∀t:Tt,t.zpA t.right=t:=by intro t;cases t <;> rfl
 have R:zC r.right=r.right:=by
  cases r with
  | nil=>rfl
  | node c x j M p q=>exact I q B.2.1
 rw[yE (zjv hm) (yi (by omega)) (I r B) (by rw[R,H]) (zV T),sp r B]
theorem zc0{b:Nat}{v i L:Int}{l r:Tt}{M:Int}(B:min l.ht r.ht+1=M)(h:M<L)(h2:r.ht<=M):xK (.node b v i L l r)=.node b v i M l r:=by have A:uW l r=M:=B;simp only[xK,A];rw[if_pos h,if_neg (by omega)]
theorem zeo{b:Nat}{v i L:Int}{l r:Tt}{M:Int}(B:min l.ht r.ht+1=M)(h:M<L)(h2:M<r.ht):xK (.node b v i L l r)=.node b v i M l (r.zrs M):=by have A:uW l r=M:=B;simp only[xK,A];rw[if_pos h,if_pos (by omega)]
theorem za3{t:Tt}(h:t.AA):zC t=t:=by
 cases t with
 | nil=>rfl
 | node c x j M p q=>exact yi (by obtain⟨_,_,q1,q2,q3⟩:=h;omega)
theorem zol{t:Tt}(h:t.AA)(h0:0<t.ht):t.right.ht=t.ht-1∨(t.right.ht=t.ht/\t.right.right.ht=t.ht-1):=by obtain⟨b,v,i,L,l,r,rfl,h1,h2,h3,h4,A⟩:=vW h (by omega);exact A
theorem zlB{t:Tt}(h:t.AA):t.right.ht<=t.ht:=by
 cases t with
 | nil=>exact Int.le_refl _
 | node b v i L l r=>obtain⟨_,_,q1,q2,q3⟩:=h;simp only[zt,ztQ];omega
theorem zf3{t:Tt}(h:t.AA):zH t=t:=by
 cases t with
 | nil=>rfl
 | node c x j M p q=>
  obtain⟨q0,A,q1,q2,B⟩:=h;apply zV;rcases B with B | ⟨B,q4⟩
  ·have:=zlB A;omega
  ·omega
theorem zbr{b:Nat}{v i L:Int}{l r B:Tt}(v' D:Int)(h:Tt.AA (.node b v i L l r))(X:zaD l B):zaD (.node b v i L l r) (zL (.node b v' D L B r)):=by
 obtain⟨a1,a2,a3,a4,a5⟩:=h;obtain⟨d1,d2,d3⟩:=X;have a0:=d1.ztm;rcases d2 with d2 | d2
 ·have I:Tt.AA (.node b v' D L B r):=⟨d1,a2,a3,by omega,a5⟩
  rw[zbq I];exact⟨I,.inl rfl,fun _ h=>h⟩
 ·rcases a5 with a5 | ⟨a5,T⟩
  ·
    obtain⟨c,x,j,M,p,q,rfl,O,E,V,R,G⟩:=vW a2 (by omega);simp only[ztQ]at a5;subst a5;have A:xK (.node b v' D L B (.node c x j (L-1) p q))=.node b v' D (L-1) B (.node c x j (L-1) p q):=zc0 (by simp only[ztQ];omega) (by omega) (by simp only[ztQ];omega);rcases G with G | ⟨G,e6⟩
    ·have hs:zH (.node b v' D (L-1) B (.node c x j (L-1) p q))=.node b v' D (L-1) B (.node c x j (L-1) p q):=zV (by simp only[zt];omega);rw[yE A (yi (by omega)) (yi (by omega)) (by rw[zt,za3 E];rfl) hs,zV (by have:=zlB E;omega)];exact⟨⟨d1,⟨O,E,V,R,.inl G⟩,by omega,by omega,.inr ⟨by simp only[ztQ],by simp only[zt];omega⟩⟩,.inr (by simp only[ztQ]),fun h=>by simp only[ztQ]at h;omega⟩
    ·have hs:zH (.node b v' D (L-1) B (.node c x j (L-1) p q))=.node c x j (L-1+1) (.node b v' D (L-1) B p) q:=yQ (by omega) (by omega);rw[yE A (yi (by omega)) (yi (by omega)) (by rw[zt,za3 E];rfl) hs,zf3 E];exact⟨⟨⟨d1,O,by omega,by omega,.inl (by omega)⟩,E,by omega,by simp only[ztQ];omega,.inl (by omega)⟩,.inl (by simp only[ztQ];omega),fun _ _=>by simp only[ztQ,zt];omega⟩
  ·obtain⟨c,x,j,M,p,q,rfl,O,E,V,R,G⟩:=vW a2 (by omega);simp only[ztQ]at a5;simp only[zt]at T;subst a5;have A:xK (.node b v' D M B (.node c x j M p q))=.node b v' D (M-1) B (.node c x j (M-1) p q):=zeo (by simp only[ztQ];omega) (by omega) (by simp only[ztQ];omega);obtain⟨d,y,k,N,J,U,rfl,f1,f2,f3,f4,f5⟩:=vW O (by omega);simp only[ztQ]at R;subst R;rcases f5 with f5 | ⟨f5,f6⟩
   ·have hs:zH (.node b v' D (M-1) B (.node d y k (M-1) J (.node c x j (M-1) U q)))=.node d y k (M-1+1) (.node b v' D (M-1) B J) (.node c x j (M-1) U q):=yQ rfl (by omega);rw[yE A (yi (by omega)) (xC rfl) (by rw[zt,yi (by omega)];rfl) hs];have H:=zol E (by omega);obtain⟨e,z,m,K,q1,q2,rfl,g1,g2,g3,g4,g5⟩:=vW E (by omega);simp only[ztQ,zt]at T H;subst T;rcases H with H | ⟨H,h0⟩
    ·rw[zV (by simp only[zt];omega)];exact⟨⟨⟨d1,f1,by omega,by omega,.inl (by omega)⟩,⟨f2,⟨g1,g2,g3,g4,g5⟩,by omega,by omega,.inr ⟨by simp only[ztQ],by simp only[zt];omega⟩⟩,by omega,by simp only[ztQ];omega,.inl (by simp only[ztQ];omega)⟩,.inl (by simp only[ztQ];omega),fun _ h=>by simp only[ztQ,zt]at h;omega⟩
    ·rw[yQ H (by omega)];exact⟨⟨⟨d1,f1,by omega,by omega,.inl (by omega)⟩,⟨⟨f2,g1,by omega,by omega,.inl (by omega)⟩,g2,by omega,by simp only[ztQ];omega,.inl (by omega)⟩,by omega,by simp only[ztQ];omega,.inr ⟨by simp only[ztQ],by simp only[zt];omega⟩⟩,.inl (by simp only[ztQ];omega),fun _ h=>by simp only[ztQ,zt]at h;omega⟩
   ·obtain⟨e,z,m,K,s,u,rfl,g1,g2,g3,g4,g5⟩:=vW f2 (by omega);simp only[ztQ,zt]at f5 f6;subst f5;have hs:zH (.node b v' D (M-1) B (.node d y k (M-1) J (.node e z m (M-1) s (.node c x j (M-1) u q))))=.node d y k (M-1+1) (.node b v' D (M-1) B J) (.node e z m (M-1) s (.node c x j (M-1) u q)):=yQ rfl (by omega);rw[yE A (yi (by omega)) (xC rfl) (by rw[zt,xC rfl];rfl) hs,yQ (by omega) (by omega)]
    exact⟨⟨⟨d1,f1,by omega,by omega,.inl (by omega)⟩,⟨⟨g1,g2,by omega,by omega,.inl (by omega)⟩,E,by omega,by simp only[ztQ];omega,.inl (by omega)⟩,by omega,by simp only[ztQ];omega,.inr ⟨by simp only[ztQ],by simp only[zt];omega⟩⟩,.inl (by simp only[ztQ];omega),fun _ h=>by simp only[ztQ,zt]at h;omega⟩
theorem zaW{b:Nat}{v i L:Int}{l r r':Tt}(v' B:Int)(h:Tt.AA (.node b v i L l r))(T:zaD r r'):zaD (.node b v i L l r) (zL (.node b v' B L l r')):=by
 obtain⟨O,a2,a3,a4,a5⟩:=h;obtain⟨d1,d2,d3⟩:=T;have a0:=d1.ztm;by_cases hs:r'.ht=L-1∨(r'.ht=L/\r'.right.ht=L-1)
 ·have E:Tt.AA (.node b v' B L l r'):=⟨O,d1,a3,a4,hs⟩
  rw[zbq E];refine⟨E,.inl rfl,fun _ h=>?_⟩;simp only[ztQ,zt]at h ⊢;omega
 ·rcases a5 with a5 | ⟨a5,a6⟩
  ·have h0:r'.ht=L-2:=by omega
   obtain⟨c,x,j,M,p,q,rfl,J,I,e3,e4,D⟩:=vW O (by omega);simp only[ztQ]at a4;subst a4;have A:xK (.node b v' B L (.node c x j (L-1) p q) r')=.node b v' B (L-1) (.node c x j (L-1) p q) r':=zc0 (by simp only[ztQ];omega) (by omega) (by omega);have h1:=zlB d1;rcases D with D | ⟨D,R⟩
   ·have G:zH (.node c x j (L-1) p (.node b v' B (L-1) q r'))=.node c x j (L-1) p (.node b v' B (L-1) q r'):=zV (by simp only[zt];omega);rw[yE A (xC rfl) (yi (by omega)) (by rw[zt,za3 d1];rfl) G,zV (by omega)];exact⟨⟨J,⟨I,d1,by omega,by omega,.inl (by omega)⟩,by omega,by omega,.inr ⟨by simp only[ztQ],by simp only[zt];omega⟩⟩,.inr (by simp only[ztQ]),fun h=>by simp only[ztQ]at h;omega⟩
   ·obtain⟨d,y,k,N,s,u,rfl,f1,f2,f3,f4,f5⟩:=vW I (by omega);simp only[ztQ,zt]at D R;subst D;have G:zH (.node c x j (L-1) p (.node d y k (L-1) s (.node b v' B (L-1) u r')))=.node d y k (L-1+1) (.node c x j (L-1) p s) (.node b v' B (L-1) u r'):=yQ rfl (by omega);rw[yE A (xC rfl) (xC rfl) (by rw[zt,yi (by omega)];rfl) G,zV (by omega)];exact⟨⟨⟨J,f1,by omega,by omega,.inl (by omega)⟩,⟨f2,d1,by omega,by omega,.inl (by omega)⟩,by omega,by simp only[ztQ];omega,.inl (by simp only[ztQ];omega)⟩,.inl (by simp only[ztQ];omega),fun _ _=>by simp only[ztQ,zt];omega⟩
  ·exfalso;have H:=d3;rcases d2 with d2 | d2
   ·have:=H d2 (by omega);have hp:=zol d1 (by omega);omega
   ·omega
theorem ze5{t:Tt}(h:t.AA):zaD t t:=⟨h,.inl rfl,fun _ h=>h⟩
theorem zc1:∀(t:Tt) (k:Int×Int),t.AA->zaD t (zQ k t):=by
 intro t
 induction t with
 | nil=>intro k h;exact ze5 h
 | node b v i L l r ihl ihr=>
  intro k h;have A:=h;obtain⟨H,a2,a3,a4,a5⟩:=h;simp only[zQ];split
  ·exact zbr v i A (ihl k H)
  ·split
   ·exact zaW v i A (ihr k a2)
   ·split
    ·exact zbr _ _ A (ihl _ H)
    ·rename_i D;have G:=xd (by simpa using D);subst G;split
     ·exact zaW _ _ A (ihr _ a2)
     ·rename_i B;have E:=xd (by simpa using B);subst E;simp only[xj]at a4;exact⟨trivial,.inr (by simp only[ztQ,xj];omega),fun e=>by simp only[ztQ,xj]at e;omega⟩
theorem zc6(v:BitVec 64):IntKind.i64.wrap (v.toNat:Int)=v.toInt:=by have h:=v.isLt;rw[IntKind.wrap_i64,BitVec.toInt_eq_toNat_cond];split <;> omega
theorem zaE(x:Int)(hx: -9223372036854775808<=x/\x<=9223372036854775807):(BitVec.ofInt 64 x).msb=decide (x<0):=by
 rw[BitVec.msb_eq_toInt,BitVec.toInt_ofInt]
 congr 1
 rw[Int.bmod_eq_of_le (by omega) (by omega)]
theorem zf8(op:BinOp)(x y:Int)(f:BitVec 64->BitVec 64->BitVec 64)(h:bits op .i64 x y=IntKind.i64.wrap ((f (BitVec.ofInt 64 x) (BitVec.ofInt 64 y)).toNat:Int)):
 decide (bits op .i64 x y<0)=(f (BitVec.ofInt 64 x) (BitVec.ofInt 64 y)).msb:=by
 rw[h,zc6,BitVec.msb_eq_toInt]
theorem znD(op:BinOp)(x y:Int)(f:BitVec 64->BitVec 64->BitVec 64)(h:bits op .i64 x y=IntKind.i64.wrap ((f (BitVec.ofInt 64 x) (BitVec.ofInt 64 y)).toNat:Int)):
 -9223372036854775808<=bits op .i64 x y/\bits op .i64 x y<=9223372036854775807:=by
 rw[h,zc6];have h1:=BitVec.le_toInt (f (BitVec.ofInt 64 x) (BitVec.ofInt 64 y));have h2:=BitVec.toInt_lt (x:=f (BitVec.ofInt 64 x) (BitVec.ofInt 64 y));constructor <;> omega
theorem zfe(x y:Int): -9223372036854775808<=bits .xor .i64 x y/\bits .xor .i64 x y<=9223372036854775807:=znD .xor x y (· ^^^ ·) rfl
theorem zcL(x y:Int)(E: -9223372036854775808<=x/\x<=9223372036854775807)(B: -9223372036854775808<=y/\y<=9223372036854775807):
 bits .xor .i64 x y<0↔(x<0↔¬y<0):=by
 have h:=zf8 .xor x y (· ^^^ ·) rfl;rw[BitVec.msb_xor,zaE x E,zaE y B]at h;by_cases D:x<0 <;> by_cases A:y<0 <;> simp[D,A]at h ⊢ <;> omega
theorem zjw(x y:Int)(E: -9223372036854775808<=x/\x<=9223372036854775807)(B: -9223372036854775808<=y/\y<=9223372036854775807):
 bits .and .i64 x y<0↔(x<0/\y<0):=by
 have h:=zf8 .and x y (· &&& ·) rfl;rw[BitVec.msb_and,zaE x E,zaE y B]at h;by_cases D:x<0 <;> by_cases A:y<0 <;> simp[D,A]at h ⊢ <;> omega
theorem zc7(a b:Int)(B: -9223372036854775808<=a/\a<=9223372036854775807)(hb: -9223372036854775808<=b/\b<=9223372036854775807):
 bits .and .i64 (bits .xor .i64 a (wrap64 (a+b))) (bits .xor .i64 b (wrap64 (a+b))) <0↔¬(-9223372036854775808<=a+b/\a+b<=9223372036854775807):=by
 have A: -9223372036854775808<=wrap64 (a+b)/\wrap64 (a+b)<=9223372036854775807:=by unfold wrap64;omega
 rw[zjw _ _ (zfe _ _) (zfe _ _),zcL _ _ B A,zcL _ _ hb A];unfold wrap64;omega
theorem zf9(a b:Int)(A: -9223372036854775808<=a/\a<=9223372036854775807)(hb: -9223372036854775808<=b/\b<=9223372036854775807):
 bits .and .i64 (bits .xor .i64 a b) (bits .xor .i64 a (wrap64 (a-b))) <0↔¬(-9223372036854775808<=a-b/\a-b<=9223372036854775807):=by
 have B: -9223372036854775808<=wrap64 (a-b)/\wrap64 (a-b)<=9223372036854775807:=by unfold wrap64;omega
 rw[zjw _ _ (zfe _ _) (zfe _ _),zcL _ _ A hb,zcL _ _ A B];unfold wrap64;omega
theorem zbu(a b:Int)(w:World)(D: -9223372036854775808<=a/\a<=9223372036854775807)(hb: -9223372036854775808<=b/\b<=9223372036854775807)
 (h: -9223372036854775808<=a+b/\a+b<=9223372036854775807):
 Calls prog 202 #[.int .i64 a,.int .i64 b] w fun e w'=>e=.returned (.tuple #[.int .i64 (a+b),.bool true])/\w=w':=by
 have A:=zc7 a b D hb;have zpZ:¬bits .and .i64 (bits .xor .i64 a (a+b)) (bits .xor .i64 b (a+b)) <0:=by rw[IntWalk.wrap64_in _ h]at A;exact fun B=>(A.1 B) h
 clear A;go_enter func202,ntmps202;go_wp2;go_ret2;exact⟨rfl,rfl⟩
theorem zff(a b:Int)(w:World)(A: -9223372036854775808<=a/\a<=9223372036854775807)(hb: -9223372036854775808<=b/\b<=9223372036854775807)
 (h:¬(-9223372036854775808<=a+b/\a+b<=9223372036854775807)):
 Calls prog 202 #[.int .i64 a,.int .i64 b] w fun e w'=>e=.returned (.tuple #[.int .i64 0,.bool false])/\w=w':=by
 have zpZ:=(zc7 a b A hb).2 h;have H:=zc h;clear h;go_enter func202,ntmps202;go_wp2;go_ret2;exact⟨rfl,rfl⟩
theorem zjx(a b:Int)(w:World)(D: -9223372036854775808<=a/\a<=9223372036854775807)(hb: -9223372036854775808<=b/\b<=9223372036854775807)
 (h: -9223372036854775808<=a-b/\a-b<=9223372036854775807):
 Calls prog 224 #[.int .i64 a,.int .i64 b] w fun e w'=>e=.returned (.tuple #[.int .i64 (a-b),.bool true])/\w=w':=by
 have A:=zf9 a b D hb;have zpZ:¬bits .and .i64 (bits .xor .i64 a b) (bits .xor .i64 a (a-b)) <0:=by rw[IntWalk.wrap64_in _ h]at A;exact fun B=>(A.1 B) h
 clear A;go_enter func224,ntmps224;go_wp2;go_ret2;exact⟨rfl,rfl⟩
theorem zhZ(a b:Int)(w:World)(A: -9223372036854775808<=a/\a<=9223372036854775807)(hb: -9223372036854775808<=b/\b<=9223372036854775807)
 (h:¬(-9223372036854775808<=a-b/\a-b<=9223372036854775807)):
 Calls prog 224 #[.int .i64 a,.int .i64 b] w fun e w'=>e=.returned (.tuple #[.int .i64 0,.bool false])/\w=w':=by
 have zpZ:=(zf9 a b A hb).2 h;have H:=zc h;clear h;go_enter func224,ntmps224;go_wp2;go_ret2;exact⟨rfl,rfl⟩
theorem zlN(n low high:Int)(w:World)(h:n<low):
 Calls prog 189 #[.int .i64 n,.int .i64 low,.int .i64 high] w fun e w'=>e=.returned (.int .i64 low)/\w=w':=by
 go_enter func189,ntmps189;go_wp2;go_ret;exact⟨rfl,rfl⟩
theorem zlO(n low high:Int)(w:World)(h:low<=n)(h2:n<=high):
 Calls prog 189 #[.int .i64 n,.int .i64 low,.int .i64 high] w fun e w'=>e=.returned (.int .i64 n)/\w=w':=by
 go_enter func189,ntmps189;go_wp2;go_ret;exact⟨rfl,rfl⟩
theorem zj7(n low high:Int)(w:World)(h:low<=n)(h2:high<n):
 Calls prog 189 #[.int .i64 n,.int .i64 low,.int .i64 high] w fun e w'=>e=.returned (.int .i64 high)/\w=w':=by
 go_enter func189,ntmps189;go_wp2;go_ret;exact⟨rfl,rfl⟩
def zaY(n low high:Int):Int:=if n<low then low else if high<n then high else n
theorem zbv(n low high:Int)(w:World):
 Calls prog 189 #[.int .i64 n,.int .i64 low,.int .i64 high] w fun e w'=>e=.returned (.int .i64 (zaY n low high))/\w=w':=by
 unfold zaY;split
 ·exact zlN _ _ _ _ ‹_›
 ·split
  ·exact zj7 _ _ _ _ (by omega) ‹_›
  ·exact zlO _ _ _ _ (by omega) (by omega)
theorem zcM(a b:Int)(w:World)(A: -9223372036854775808<=a/\a<=9223372036854775807)(hb: -9223372036854775808<=b/\b<=9223372036854775807)(h: -9223372036854775808<=a+b/\a+b<=9223372036854775807):
 Calls prog 153 #[.int .i64 a,.int .i64 b] w fun e w'=>e=.returned (.int .i64 (a+b))/\w'=w.alloc (.cells #[.int .i64 b] 2):=by
 skip
 go_enter func153,ntmps153;go_wp2_with (first | (go_at_call 202;refine(zbu _ _ _ A hb h).mono ?_;rintro e w' ⟨rfl,rfl⟩) | go_in);go_ret;exact⟨rfl,rfl⟩
theorem zlP(a b:Int)(w:World)(A: -9223372036854775808<=a/\a<=9223372036854775807)(hb: -9223372036854775808<=b/\b<=9223372036854775807)(h:¬(-9223372036854775808<=a+b/\a+b<=9223372036854775807))(ht:0<b):
 Calls prog 153 #[.int .i64 a,.int .i64 b] w fun e w'=>e=.returned (.int .i64 9223372036854775807)/\w'=w.alloc (.cells #[.int .i64 b] 2):=by
 have H:=zc h;clear h;go_enter func153,ntmps153;go_wp2_with (first | (go_at_call 202;refine(zff _ _ _ A hb H.out).mono ?_;rintro e w' ⟨rfl,rfl⟩) | go_in);go_ret;exact⟨rfl,rfl⟩
theorem znE(a b:Int)(w:World)(A: -9223372036854775808<=a/\a<=9223372036854775807)(hb: -9223372036854775808<=b/\b<=9223372036854775807)(h:¬(-9223372036854775808<=a+b/\a+b<=9223372036854775807))(ht:¬0<b):
 Calls prog 153 #[.int .i64 a,.int .i64 b] w fun e w'=>e=.returned (.int .i64 (-9223372036854775808))/\w'=w.alloc (.cells #[.int .i64 b] 2):=by
 have H:=zc h;clear h;go_enter func153,ntmps153;go_wp2_with (first | (go_at_call 202;refine(zff _ _ _ A hb H.out).mono ?_;rintro e w' ⟨rfl,rfl⟩) | go_in);go_ret;exact⟨rfl,rfl⟩
theorem zlQ(a b:Int)(w:World)(A: -9223372036854775808<=a/\a<=9223372036854775807)(hb: -9223372036854775808<=b/\b<=9223372036854775807)(h: -9223372036854775808<=a-b/\a-b<=9223372036854775807):
 Calls prog 188 #[.int .i64 a,.int .i64 b] w fun e w'=>e=.returned (.int .i64 (a-b))/\w'=w.alloc (.cells #[.int .i64 b] 2):=by
 skip
 go_enter func188,ntmps188;go_wp2_with (first | (go_at_call 224;refine(zjx _ _ _ A hb h).mono ?_;rintro e w' ⟨rfl,rfl⟩) | go_in);go_ret;exact⟨rfl,rfl⟩
theorem zj8(a b:Int)(w:World)(A: -9223372036854775808<=a/\a<=9223372036854775807)(hb: -9223372036854775808<=b/\b<=9223372036854775807)(h:¬(-9223372036854775808<=a-b/\a-b<=9223372036854775807))(ht:b<0):
 Calls prog 188 #[.int .i64 a,.int .i64 b] w fun e w'=>e=.returned (.int .i64 9223372036854775807)/\w'=w.alloc (.cells #[.int .i64 b] 2):=by
 have H:=zc h;clear h;go_enter func188,ntmps188;go_wp2_with (first | (go_at_call 224;refine(zhZ _ _ _ A hb H.out).mono ?_;rintro e w' ⟨rfl,rfl⟩) | go_in);go_ret;exact⟨rfl,rfl⟩
theorem zlR(a b:Int)(w:World)(A: -9223372036854775808<=a/\a<=9223372036854775807)(hb: -9223372036854775808<=b/\b<=9223372036854775807)(h:¬(-9223372036854775808<=a-b/\a-b<=9223372036854775807))(ht:¬b<0):
 Calls prog 188 #[.int .i64 a,.int .i64 b] w fun e w'=>e=.returned (.int .i64 (-9223372036854775808))/\w'=w.alloc (.cells #[.int .i64 b] 2):=by
 have H:=zc h;clear h;go_enter func188,ntmps188;go_wp2_with (first | (go_at_call 224;refine(zhZ _ _ _ A hb H.out).mono ?_;rintro e w' ⟨rfl,rfl⟩) | go_in);go_ret;exact⟨rfl,rfl⟩
def uD(n:Int):Bool:=decide (-9223372036854775808<=n/\n<=9223372036854775807)
def zlS(n:Int):Int:=if uD n then n else 0
theorem uj{n:Int}(h: -9223372036854775808<=n/\n<=9223372036854775807):uD n=true:=by simp[uD,h]
theorem vL{n:Int}(h:¬(-9223372036854775808<=n/\n<=9223372036854775807)):uD n=false:=by simp only[uD,decide_eq_false_iff_not];exact h
theorem zlT{n:Int}(h: -9223372036854775808<=n/\n<=9223372036854775807):zlS n=n:=by simp[zlS,uj h]
theorem znF{n:Int}(h:¬(-9223372036854775808<=n/\n<=9223372036854775807)):zlS n=0:=by simp[zlS,vL h]
def vZ(a b:Int):Int:=if uD (a+b)then a+b else if 0<b then 9223372036854775807 else -9223372036854775808
def xD(a b:Int):Int:=if uD (a-b)then a-b else if b<0 then 9223372036854775807 else -9223372036854775808
theorem zga{a b:Int}(h: -9223372036854775808<=a+b/\a+b<=9223372036854775807):vZ a b=a+b:=by simp[vZ,uj h]
theorem zj9{a b:Int}(h:¬(-9223372036854775808<=a+b/\a+b<=9223372036854775807))(A:0<b):vZ a b=9223372036854775807:=by simp[vZ,vL h,A]
theorem zlU{a b:Int}(h:¬(-9223372036854775808<=a+b/\a+b<=9223372036854775807))(A:¬0<b):vZ a b= -9223372036854775808:=by simp only[vZ,vL h,if_neg A];rfl
theorem zes{a b:Int}(h: -9223372036854775808<=a-b/\a-b<=9223372036854775807):xD a b=a-b:=by simp[xD,uj h]
theorem zh0{a b:Int}(h:¬(-9223372036854775808<=a-b/\a-b<=9223372036854775807))(A:b<0):xD a b=9223372036854775807:=by simp[xD,vL h,A]
theorem zka{a b:Int}(h:¬(-9223372036854775808<=a-b/\a-b<=9223372036854775807))(A:¬b<0):xD a b= -9223372036854775808:=by simp only[xD,vL h,if_neg A];rfl
theorem znG(a b:Int)(w:World)(A: -9223372036854775808<=a/\a<=9223372036854775807)(hb: -9223372036854775808<=b/\b<=9223372036854775807):
 Calls prog 202 #[.int .i64 a,.int .i64 b] w fun e w'=>e=.returned (.tuple #[.int .i64 (zlS (a+b)),.bool (uD (a+b))])/\w=w':=by
 by_cases h: -9223372036854775808<=a+b/\a+b<=9223372036854775807
 ·rw[zlT h,uj h];exact zbu a b w A hb h
 ·rw[znF h,vL h];exact zff a b w A hb h
theorem zfg(a b:Int)(w:World)(B: -9223372036854775808<=a/\a<=9223372036854775807)(hb: -9223372036854775808<=b/\b<=9223372036854775807):
 Calls prog 153 #[.int .i64 a,.int .i64 b] w fun e w'=>e=.returned (.int .i64 (vZ a b))/\w'=w.alloc (.cells #[.int .i64 b] 2):=by
 by_cases h: -9223372036854775808<=a+b/\a+b<=9223372036854775807
 ·rw[zga h];exact zcM a b w B hb h
 ·by_cases A:0<b
  ·rw[zj9 h A];exact zlP a b w B hb h A
  ·rw[zlU h A];exact znE a b w B hb h A
theorem zbw(a b:Int)(w:World)(B: -9223372036854775808<=a/\a<=9223372036854775807)(hb: -9223372036854775808<=b/\b<=9223372036854775807):
 Calls prog 188 #[.int .i64 a,.int .i64 b] w fun e w'=>e=.returned (.int .i64 (xD a b))/\w'=w.alloc (.cells #[.int .i64 b] 2):=by
 by_cases h: -9223372036854775808<=a-b/\a-b<=9223372036854775807
 ·rw[zes h];exact zlQ a b w B hb h
 ·by_cases A:b<0
  ·rw[zh0 h A];exact zj8 a b w B hb h A
  ·rw[zka h A];exact zlR a b w B hb h A
end Go.Proofs.YtmpdpmhpkgbepaaGreatDoor
namespace Go.Proofs.YtmpdpmhpkgbepaaGreatDoor
namespace Qt
open Go Go.RowKit Go.ChangeShapes Go.WideShapes
theorem zbu(a b:Int)(w:World)(D: -9223372036854775808<=a/\a<=9223372036854775807)(hb: -9223372036854775808<=b/\b<=9223372036854775807)
 (h: -9223372036854775808<=a+b/\a+b<=9223372036854775807):
 Calls prog 202 #[.int .i64 a,.int .i64 b] w fun e w'=>e=.returned (.tuple #[.int .i64 (a+b),.bool true])/\w=w':=by
 have A:=zc7 a b D hb;have zpZ:¬bits .and .i64 (bits .xor .i64 a (a+b)) (bits .xor .i64 b (a+b)) <0:=by rw[IntWalk.wrap64_in _ h]at A;exact fun B=>(A.1 B) h
 clear A;go_enter func202,ntmps202;go_wp2;go_ret2;exact⟨rfl,rfl⟩
theorem zcM(a b:Int)(w:World)(A: -9223372036854775808<=a/\a<=9223372036854775807)(hb: -9223372036854775808<=b/\b<=9223372036854775807)(h: -9223372036854775808<=a+b/\a+b<=9223372036854775807):
 Calls prog 153 #[.int .i64 a,.int .i64 b] w fun e w'=>e=.returned (.int .i64 (a+b))/\w.alloc (.cells #[.int .i64 b] 2)=w':=by
 go_enter func153,ntmps153;go_wp2_with (first | (go_at_call 202;refine(zbu _ _ _ A hb h).mono ?_;rintro e w' ⟨rfl,rfl⟩) | go_in);go_ret;exact⟨rfl,rfl⟩
end Qt
end Go.Proofs.YtmpdpmhpkgbepaaGreatDoor
