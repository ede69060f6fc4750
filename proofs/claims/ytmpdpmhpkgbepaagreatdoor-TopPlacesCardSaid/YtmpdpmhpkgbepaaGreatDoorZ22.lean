/- Parts for TopPlaces. Conditions: as stated. -/
import Derived.Test.YtmpdpmhpkgbepaaGreatDoorZ21
set_option linter.unusedVariables false
set_option maxRecDepth 100000
set_option maxHeartbeats 4000000
open List renaming mem_cons_self->yk
namespace Go.Proofs.YtmpdpmhpkgbepaaGreatDoor
open Go Go.RowKit Go.ChangeShapes Go.WideShapes
variable {h:Hm}{q:Qu}
def Hm.eL(h:Hm)(A:Nat):Prop:=∀g x,h.gs g=some x->g≠0->g≠A->x.on=x.OQ
def Hm.PD(h:Hm):Prop:=∀g x,h.gs g=some x->g≠0->x.on=x.OQ
theorem uD:∀(n:Nat) {h:Hm} (hk:h.Ok) (g:Nat) (x:Gr) (G:h.gs g=some x) (hd:x.deep<n) (M:h.eL g),(h.settle n g).PD
 | 0,h,hk,g,x,G,hd,M=>absurd (hk.deep g x G).1 (by omega)
 | n+1,h,hk,g,x,G,hd,M=>by
  have D:=(Wl 1 hk g).1;unfold Hm.settle at D ⊢;rw[G]at D ⊢;simp only at D ⊢;by_cases H:x.up<0
  .rw[if_pos H];have J:g=0:=Classical.byContradiction fun V=>by obtain⟨u,y,X,_⟩:=hk.up g x G V;omega
   subst J;exact fun k z B A=>M k z B A A
  .rw[if_neg H]at D ⊢;have J:g≠0:=by rintro rfl;obtain⟨r,U,X,_⟩:=hk.root;rw[G]at U;cases U;omega
   obtain⟨u,y,R,T,h0⟩:=hk.up g x G J;have e:x.up.toNat=u:=by rw[R];rfl
   rw[e,T]at D ⊢;simp only at D ⊢;have N:g≠u:=by rintro rfl;rw[G]at T;cases T;omega
   by_cases hs:x.OQ=x.on
   .rw[if_pos hs];intro k z B A;by_cases E:k=g
    .subst E;rw[G]at B;cases B;exact hs.symm
    .exact M k z B A E
   .rw[if_neg hs]at D ⊢;by_cases O:x.OQ=true
    .rw[if_pos O]at D ⊢;unfold Hm.settle at D;refine uD n D u (y.OD (y.q.put (x.PV y.q.min h.credit))) (by rw[yJ _ _ (Ne.symm N),yO]) (by show y.deep<n;omega) ?_;intro k z B A I;by_cases E:k=g
     .subst E;rw[yO]at B;cases B;exact O.symm
     .rw[yJ _ _ E,yJ _ _ I]at B;exact M k z B A E
    .rw[if_neg O]at D ⊢;unfold Hm.settle at D;refine uD n D u (y.OD (y.q.drop (2*g+1))) (by rw[yJ _ _ (Ne.symm N),yO]) (by show y.deep<n;omega) ?_;intro k z B A I;by_cases E:k=g
     .subst E;rw[yO]at B;cases B;show false=x.OQ;cases hb:x.OQ with
      | false=>rfl
      | true=>exact absurd hb O
     .rw[yJ _ _ E,yJ _ _ I]at B;exact M k z B A E
theorem He(B:h.PD)(g:Nat)(x:Gr):(h.set g x).eL g:=fun k z A hk D=>by rw[yJ _ _ D]at A;exact B k z A hk
theorem Ut(B:h.PD){g:Nat}{x:Gr}(E:h.gs g=some x)(D:q.l.isEmpty=x.q.l.isEmpty):(h.set g (x.OD q)).PD:=fun k z A hk=>by
 by_cases e:k=g
 .subst e;rw[yO]at A;cases A;have:=B k x E hk;show x.on=(!x.st && !q.l.isEmpty)
  rw[D];exact this
 .rw[yJ _ _ e]at A;exact B k z A hk
theorem vR{q':Qu}(h:∀i,q'.has i↔q.has i):q'.l.isEmpty=q.l.isEmpty:=by
 rw[Bool.eq_iff_iff,List.isEmpty_iff,List.isEmpty_iff];constructor
 .intro e;cases hl:q.l with
  | nil=>rfl
  | cons a r=>
   obtain⟨b,hb,_⟩:=(h a.id).2 ⟨a,by rw[hl];exact yk,rfl⟩;rw[e]at hb;cases hb
 .intro e;cases hl:q'.l with
  | nil=>rfl
  | cons a r=>
   obtain⟨b,hb,_⟩:=(h a.id).1 ⟨a,by rw[hl];exact yk,rfl⟩;rw[e]at hb;cases hb
theorem Dx{f b:Qu->Qu}(A:xW f)(hb:xW b):∀(k:Nat) {h:Hm} (hk:h.Ok) (g:Nat),h.PD->(h.down f b k g).1.PD
 | 0,h,hk,g,hfi=>hfi
 | k+1,h,hk,g,hfi=>by
  unfold Hm.down;cases hx:h.gs g with
  | none=>exact hfi
  | some x=>
   simp only;have B:=(hk.q g x hx).1;have G:=qg hk hx (A.ok _ B) fun i=>A.has _ i B;have H:=qg G.ok (yO h g (x.OD (f x.q))) (q:=b (f x.q)) (hb.ok _ (A.ok _ B)) fun i=>hb.has _ i (A.ok _ B);have E:=Ut hfi hx (q:=f x.q) (vR fun i=>A.has _ i B);have D:=Ut E (yO h g (x.OD (f x.q))) (q:=b (f x.q)) (vR fun i=>hb.has _ i (A.ok _ B));split
   .exact D
   .exact Dx A hb k H.ok _ D
theorem Hm.PD.pick(hk:h.Ok)(A:h.PD):h.pick.1.PD:=Dx (.pick _) .id 9 hk 0 A
theorem Hm.PD.OK(hk:h.Ok)(A:h.PD)(ns:Int):(h.OK ns).PD:=Dx .id (.OK ns) 9 hk 0 A
theorem FB(I:q.Ok)(B:q.l≠ [])(D:Int):0<=(q.pick D).cur/\q.has (q.pick D).cur:=by
 have A:∀e∈q.l,0<=e.id/\q.has e.id:=fun e G=>⟨(I.RA e G).id.1,e,G,rfl⟩
 unfold Qu.pick;cases hf:q.first with
 | none=>
  show 0<=q.cur/\q.has q.cur;cases hl:q.l with
  | nil=>exact absurd hl B
  | cons a r=>
   have H:a∈q.l:=by rw[hl];exact yk
   have M:=List.find?_eq_none.1 hf a H;have J:a.id=q.cur:=by simpa[Xh]using M
   rw[<-J];exact A a H
 | some o=>
  have E:o∈q.l:=List.mem_of_find?_eq_some hf;simp only;cases hg:q.get q.cur with
  | none=>exact A o E
  | some c=>
   simp only;split
   .obtain⟨N,O⟩:=xu hg;rw[<-O];exact A c N
   .exact A o E
theorem Hf(A:Int):∀(k:Nat) {h:Hm} (hk:h.Ok) (N:h.PD) (g:Nat) (x:Gr) (B:h.gs g=some x) (E:x.q.l≠ []) (hd:9<=k+x.deep),0<=(h.down (vp A) PC k g).2.2
 | 0,h,hk,N,g,x,B,E,hd=>absurd (hk.deep g x B).2 (by omega)
 | k+1,h,hk,N,g,x,B,E,hd=>by
  unfold Hm.down;rw[B];simp only;have G:=(hk.q g x B).1;have f:=qg hk B ((xW.pick A).ok _ G) fun i=>(xW.pick A).has _ i G;have j:=qg f.ok (yO h g (x.OD (vp A x.q))) (q:=PC (vp A x.q)) (xW.id.ok _ ((xW.pick A).ok _ G)) fun i=>xW.id.has _ i ((xW.pick A).ok _ G);have Z:=Ut N B (q:=vp A x.q) (vR fun i=>(xW.pick A).has _ i G);have d:=Ut Z (yO h g (x.OD (vp A x.q))) (q:=PC (vp A x.q)) (vR fun i=>xW.id.has _ i ((xW.pick A).ok _ G));obtain⟨Y,a⟩:=FB G E A;split
  .exact Y
  .rename_i O;have h0:¬(vp A x.q).cur%2=0:=fun e=>O (.inr e);have D:(vp A x.q).cur=2*(((vp A x.q).cur/2).toNat:Int)+1:=by have:0<=(vp A x.q).cur:=Y;omega
   obtain⟨c,m⟩:=yB (((vp A x.q).cur/2).toNat)
   rw[<-m]at D ⊢;have V:x.q.has (2*(c:Int)+1):=by rw[<-D];exact a
   obtain⟨y,H,T⟩:=hk.eJ g x c B V;have R:=(hk.on g x c y B H T).1 V;have I:c≠0:=by rintro rfl;obtain⟨r,X,hu,_⟩:=hk.root;rw[H]at X;cases X;omega
   have h4:y.deep=x.deep+1:=by
    obtain⟨u,z,h1,U,b⟩:=hk.up c y H I;have:u=g:=by omega
    subst this;rw[B]at U;cases U;exact b
   have M:c≠g:=by rintro rfl;rw[B]at H;cases H;omega
   have J:y.q.l≠ []:=by have:=N c y H I;rw[R]at this;intro e;unfold Gr.OQ at this;rw[e]at this;simp at this
   exact Hf A k j.ok d c y (by rw[yJ _ _ M,yJ _ _ M];exact H) J (by omega)
theorem UZ(hk:h.Ok)(E:h.PD)(x:Gr)(D:h.gs 0=some x)(A:x.q.l≠ []):0<=h.pick.2:=by
 have h0:x.deep=0:=by obtain⟨r,B,_,hd⟩:=hk.root;rw[D]at B;cases B;exact hd
 have:=Hf h.gran 9 hk E 0 x D A (by omega);unfold Hm.pick Ku;simp only;rw[if_neg (by omega)];omega
theorem FC(hk:h.Ok)(E:h.PD){g:Nat}{x:Gr}(D:h.gs g=some x){e:En}(G:e.Ok){k:Nat}(B:k<64)(I:e.id=k)(H:x.q.get (2*k)=none):(h.put g e).PD:=by obtain⟨_,A,_⟩:=Um hk D G B I H;have hd:=(hk.deep g x D).2;unfold Hm.put;rw[D];simp only;unfold Hm.cW at A ⊢;exact uD 9 A g (x.OD (x.q.put e.SI)) (yO _ _ _) (by show x.deep<9;omega) (He E _ _)
theorem VA(hk:h.Ok)(B:h.PD)(g k:Nat):(h.drop g k).PD:=by
 unfold Hm.drop;cases hx:h.gs g with
 | none=>exact B
 | some x=>
  obtain⟨A,_⟩:=Jl hk hx k;have hd:=(hk.deep g x hx).2;simp only;unfold Hm.TX at A ⊢;exact uD 9 A g (x.OD (x.q.drop (2*k))) (yO _ _ _) (by show x.deep<9;omega) (He B _ _)
theorem VB(hk:h.Ok)(B:h.PD)(g:Nat)(b:Bool):(h.stop g b).PD:=by
 unfold Hm.stop;cases hx:h.gs g with
 | none=>exact B
 | some x=>
  have A:=(uQ hk hx b).ok;have hd:=(hk.deep g x hx).2;simp only;exact uD 9 A g (x.SV b) (yO _ _ _) (by show x.deep<9;omega) (He B _ _)
theorem VC(A:h.PD)(g k:Nat)(w:Int):(h.nice g k w).PD:=by
 unfold Hm.nice;cases hx:h.gs g with
 | none=>exact A
 | some x=>exact Ut A hx (vR fun i=>Wj x.q _ w i)
theorem KR(A:h.PD)(g:Nat)(w:Int):(h.OT g w).PD:=by
 unfold Hm.OT;cases hx:h.gs g with
 | none=>exact A
 | some x=>
  simp only;split
  .cases hy:h.gs x.up.toNat with
   | none=>exact A
   | some y=>exact Ut A hy (vR fun i=>Wj y.q _ w i)
  .intro k z D B;by_cases e:k=g
   .subst e;rw[yO]at D;cases D;exact A k x hx B
   .rw[yJ _ _ e]at D;exact A k z D B
theorem Cs(A:h.PD)(g:Nat):(h.RU g).PD:=by
 unfold Hm.RU;cases hx:h.gs g with
 | none=>exact A
 | some x=>exact Ut A hx (vR fun i=>Dj x.q _ i)
theorem KS(hk:h.Ok)(A:h.PD):h.yield.1.PD:=by
 unfold Hm.yield;split
 .exact Hm.PD.pick hk A
 .exact Hm.PD.pick (ub hk _).ok (Cs A _)
theorem VD(D:h.PD)(g u:Nat):(h.link g u).PD:=by
 unfold Hm.link;cases hy:h.gs u with
 | none=>exact D
 | some y=>
  intro k z A B;by_cases e:k=g
  .subst e;simp only at A;rw[yO]at A;cases A;rfl
  .simp only at A;rw[yJ _ _ e]at A;exact D k z A B
theorem FD(credit gran:Int):(Hm.new credit gran).PD:=by intro k z A B;unfold Hm.new at A;simp only at A;rw[if_neg B]at A;cases A
theorem Ox(hk:h.Ok)(E:h.running≠ -1):∃x,h.gs 0=some x/\x.q.l≠ []:=by
 obtain⟨x,B,_⟩:=hk.root;refine⟨x,B,fun e=>E ?_⟩;have A:x.q.cur= -1:=by
  rcases(hk.q 0 x B).1.cur with G|⟨a,D,_⟩
  .exact G
  .rw[e]at D;cases D
 unfold Hm.running;unfold Hm.down;rw[B];simp only;rw[if_pos (.inl (by show x.q.cur<0;omega))];show Ku x.q.cur= -1;rw[A];rfl
theorem KT(hk:h.Ok)(O:h.PD)(I:h.running≠ -1):∃(g i:Nat),h.yield.2=i/\i<64/\h.even g i:=by
 obtain⟨x,G,A⟩:=Ox hk I;have D:=ub hk (h.down PC PC 9 0).2.1;have R:h.yield=(h.RU (h.down PC PC 9 0).2.1).pick:=by unfold Hm.yield;rw[if_neg I]
 rw[R];have N:=Cs O (h.down PC PC 9 0).2.1;obtain⟨y,H,E⟩:∃y,(h.RU (h.down PC PC 9 0).2.1).gs 0=some y/\y.q.l≠ []:=by
  unfold Hm.RU;cases hz:h.gs (h.down PC PC 9 0).2.1 with
  | none=>exact⟨x,G,A⟩
  | some z=>
   simp only;by_cases e:(0:Nat)=(h.down PC PC 9 0).2.1
   .rw[<-e]at hz ⊢;rw[G]at hz;cases hz;refine⟨_,yO _ _ _,fun M=>A ?_⟩;have:=vR (q:=x.q) (q':=x.q.yield h.gran) fun i=>Dj x.q _ i;have U:(x.q.yield h.gran).l= []:=M;rw[U]at this;exact List.isEmpty_iff.1 this.symm
   .exact⟨x,by rw[yJ _ _ e];exact G,A⟩
 have h0:=UZ D.ok N y H E;rcases CR (.pick (h.RU (h.down PC PC 9 0).2.1).gran) .id D.ok with B|⟨g,i,B,J,T⟩
 .have:(h.RU (h.down PC PC 9 0).2.1).pick.2= -1:=B;omega
 .exact⟨g,i,B,J,(D.even g i).1 T⟩
