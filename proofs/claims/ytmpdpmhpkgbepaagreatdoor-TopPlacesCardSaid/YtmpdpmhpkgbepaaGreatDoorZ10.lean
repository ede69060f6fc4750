/- Parts for TopPlaces. Conditions: as stated. -/
import Derived.Deep.DrawnRows
import Derived.Laws.StructEq
import Derived.Test.YtmpdpmhpkgbepaaGreatDoorZ07
set_option linter.unusedVariables false
set_option maxRecDepth 100000
set_option maxHeartbeats 4000000
open Go.Value renaming pointer->ze
open Go renaming World->zu
open List renaming mem_cons->yg,mem_append->yn
open Go.Proofs.Tryz
namespace Go.Proofs.YtmpdpmhpkgbepaaGreatDoor
open Go Go.RowKit Go.ChangeShapes Go.WideShapes
variable {n b:Nat}{w:zu}{v i L x j:Int}{l r:Tt}
abbrev xI(v i:Int):Obj:=.cells #[.int .i64 v,.int .i64 i] 289
theorem qD(v i x j:Int)(w:zu):
 Calls prog 252 #[.agg #[.int .i64 v,.int .i64 i],.agg #[.int .i64 x,.int .i64 j]] w fun e w'=>e=.returned (.int .i64 (uj (v,i) (x,j)))/\((w.alloc (xI v i)).alloc (xI x j))=w':=by
 obtain⟨c,B⟩:=yB (uj (v,i) (x,j))
 rw[<-B];by_cases G:v=x
 .subst G;by_cases E:i=j
  .subst E;have A:c=0:=by rw[B];exact Wd _
   subst A;clear B;go_enter func252,ntmps252;go_wp2;go_ret;exact⟨rfl,rfl⟩
  .have h5:(i == j)=false:=beq_eq_false_iff_ne.2 E;by_cases D:i<j
   .have A:c= -1:=by rw[B];exact Nb (.inr ⟨rfl,D⟩)
    subst A;clear B E;go_enter func252,ntmps252;go_wp2;go_ret;exact⟨rfl,rfl⟩
   .have A:c=1:=by rw[B];exact Ek (.inr ⟨rfl,by show j<i;omega⟩)
    subst A;have H:j<=i:=by omega
    clear B E D;go_enter func252,ntmps252;go_wp2;go_ret;exact⟨rfl,rfl⟩
 .have h0:(v == x)=false:=beq_eq_false_iff_ne.2 G;by_cases D:v<x
  .have A:c= -1:=by rw[B];exact Nb (.inl D)
   subst A;clear B G;go_enter func252,ntmps252;go_wp2;go_ret;exact⟨rfl,rfl⟩
  .have A:c=1:=by rw[B];exact Ek (.inl (by show x<v;omega))
   subst A;have H:x<=v:=by omega
   clear B G D;go_enter func252,ntmps252;go_wp2;go_ret;exact⟨rfl,rfl⟩
theorem Pw(b:Nat)(v i L:Int)(l r:Tt):(yW (.node b v i L l r)).ht=L:=by
 cases l with
 | nil=>rfl
 | node c x j M p q=>
  simp only[yW];split
  .rename_i h;simp only[yL];exact h
  .rfl
theorem Jb(
 b:Nat) (v i L:Int) (l r:Tt):(yW (.node b v i L l r)).right.ht=r.ht∨(yW (.node b v i L l r)).right.ht=L:=by
 cases l with
 | nil=>exact .inl rfl
 | node c x j M p q=>
  simp only[yW];split
  .exact .inr rfl
  .exact .inl rfl
theorem Jc(n:Nat)(k:Int×Int):∀t:Tt,Xl k t=true->(xx n k t).bl.Perm (n::t.bl)
 | .nil,_=>.refl _
 | .node b v i L l r,h=>by
  simp only[xx,Xl]at h ⊢;split
  .rename_i B;rw[if_pos B]at h;refine(qP _).trans ((xV _).trans ?_);simp only[Tt.bl];refine(List.Perm.cons b ((Jc n k l h).append_right r.bl)).trans ?_;exact List.Perm.swap n b _
  .rename_i B;rw[if_neg B]at h;split
   .rename_i A;rw[if_pos A]at h;refine(qP _).trans ((xV _).trans ?_);simp only[Tt.bl];refine(List.Perm.cons b ((Jc n k r h).append_left l.bl)).trans ?_;exact(List.Perm.cons b List.perm_middle).trans (List.Perm.swap n b _)
   .rename_i A;rw[if_neg A]at h;cases h
theorem Im{t:Tt}(h:t.bl.Nodup)(A:n∉t.bl):(n::t.bl).Nodup:=List.nodup_cons.2 ⟨A,h⟩
def Kx(w:zu)(b:Nat)(v i:Int):Prop:=w.heap[b]?=some (xI v i)
theorem Kx.new(w:zu)(v i:Int):Kx (w.alloc (xI v i)) w.heap.size v i:=heap_alloc_new w _
theorem Kx.lt(h:Kx w b v i):b<w.heap.size:=(yx h).1
theorem Kx.c2(h:Kx w b v i):w.cell? ⟨b,0,none⟩=some (.int .i64 v)/\w.cell? ⟨b,1,none⟩=some (.int .i64 i):=by unfold Kx at h;constructor<;>simp[World.cell?,h]
theorem Kx.of{w':zu}(h:Kx w b v i)(hb:w'.heap[b]?=w.heap[b]?):Kx w' b v i:=hb.trans h
theorem Kx.behind{w':zu}(h:Kx w b v i)(hb:Below w.heap.size w w'):Kx w' b v i:=h.of (hb.block b h.lt)
theorem Nx.behind{w':zu}{l r:Option Addr}(h:Nx w b v i L l r)(hb:Below w.heap.size w w'):Nx w' b v i L l r:=h.of (hb.block b h.lt)
def Ff(v i:Int)(t:Tt)(w:zu)(e:Ending)(w':zu):Prop:=
 ∃n,w.heap.size<=n/\e=.returned (.tuple #[ze (xx n (v,i) t).pt,.bool true])/\(xx n (v,i) t).In w'/\OA (fun k=>k∈t.bl) w w'
theorem DB(v i:Int)(w:zu):Calls prog 237 #[ze none,.agg #[.int .i64 v,.int .i64 i]] w (Ff v i .nil w):=by go_enter func237,ntmps237;go_wp2;go_ret2;refine⟨w.heap.size+1,by omega,rfl,⟨?_,trivial,trivial⟩,((OA.refl _ w).alloc _).alloc _⟩;have:=heap_alloc_new (w.alloc (xI v i)) (.cells #[.int .i64 v,.int .i64 i,.int .i64 1,ze none,ze none] 341);rw[show(w.alloc (xI v i)).heap.size=w.heap.size+1 by simp]at this;exact this
theorem Ld{E:Option Addr}(h:Nx w b x j L E r.pt)(A:l.In w)(D:r.In w)(G:b∉l.bl)(B:b∉r.bl):(Tt.node b x j L l r).In (w.setCell ⟨b,3,none⟩ (ze l.pt)):=
 ⟨h.iE l.pt,A.PR G,D.PR B⟩
theorem De{B:Option Addr}(h:Nx w b x j L l.pt B)(A:l.In w)(E:r.In w)(G:b∉l.bl)(D:b∉r.bl):(Tt.node b x j L l r).In (w.setCell ⟨b,4,none⟩ (ze r.pt)):=
 ⟨h.iF r.pt,A.PR G,E.PR D⟩
structure Px(w w6:zu)(n:Nat)(t T1:Tt):Prop where
 inn:T1.In w6
 nd:T1.bl.Nodup
 ht:T1.ht≠0
 rt:0<=(yW T1).right.ht/\(yW T1).right.ht<=1000000
 RJ:(yW T1).ht≠0
 lo:w.heap.size<=n
 sub:∀k∈T1.bl,k∈t.bl∨w.heap.size<=k
 RB:OA (fun k=>k∈t.bl) w w6
theorem Px.close{G H B:zu}{t A:Tt}(h:Px w G n t A)(E:xx n (v,i) t=xc (yW A))(J:OA (fun k=>k∈A.bl) G H)(I:OA (fun k=>k∈(yW A).bl) H B)(D:(xc (yW A)).In B):
 Ff v i t w (.returned (.tuple #[ze (xc (yW A)).pt,.bool true])) B:=
 ⟨n,h.lo,by rw[E],by rw[E];exact D,(h.RB.trans J h.sub).trans I fun k hk=>h.sub k ((xV A).mem_iff.1 hk)⟩
theorem Px.left{G D:zu}(h:(Tt.node b x j L l r).bl.Nodup)(Z:(Tt.node b x j L l r).AA)(hs:L<=100000)(g:Xl (v,i) l=true)
 (M:Below w.heap.size w G) (d:(Tt.node b x j L l r).In w) (hN:G.heap.size<=n) (f:(xx n (v,i) l).In D) (Y:OA (fun k=>k∈l.bl) G D) (p:Nx D b x j L l.pt r.pt) (o:r.In D):
 Px w (D.setCell ⟨b,3,none⟩ (ze (xx n (v,i) l).pt)) n (.node b x j L l r) (.node b x j L (xx n (v,i) l) r):=by
 obtain⟨N,R,U,V,T⟩:=yN h;have A:=d.lt;have h0:=M.size;have J:n∉l.bl:=fun B=>by have:=A n (by simp[Tt.bl,B]);omega
 have H:n∉r.bl:=fun B=>by have:=A n (by simp[Tt.bl,B]);omega
 have E:n≠b:=fun B=>by have:=A b (by simp[Tt.bl]);omega
 have I:=Jc n (v,i) l g;have hb:b∉(xx n (v,i) l).bl:=fun B=>by
  rcases yg.1 (I.mem_iff.1 B)with e|e
  .exact E e.symm
  .exact N e
 obtain⟨a1,m,a3,a4,a5⟩:=Z;have O:=(m.iA)
 refine⟨Ld p f o hb R,?_,by rw[yL];omega,?_,by rw[Pw];omega,by omega,?_,?_⟩
 .have X:(b::((n::l.bl)++r.bl)).Nodup:=by
   refine List.nodup_cons.2 ⟨?_,?_⟩
   .simp only[List.cons_append,yg,yn,not_or];exact⟨fun e=>E e.symm,N,R⟩
   .rw[List.cons_append];refine List.nodup_cons.2 ⟨by simp[J,H],List.nodup_append.2 ⟨U,V,fun a O c q e=>T a O (e▸q)⟩⟩
  exact((List.Perm.cons b (I.append_right r.bl)).nodup_iff).2 X
 .rcases Jb b x j L (xx n (v,i) l) r with e|e<;>rw[e]<;>omega
 .intro k hk;simp only[Tt.bl,yg,yn]at hk ⊢;rcases hk with rfl|hk|hk
  .exact .inl (.inl rfl)
  .rcases yg.1 (I.mem_iff.1 hk)with rfl|e
   .exact .inr (by omega)
   .exact .inl (.inr (.inl e))
  .exact .inl (.inr (.inr hk))
 .exact((OA.NZ M).trans Y fun k hk=>.inl (by simp[Tt.bl,hk])).setCell (.inl (by simp[Tt.bl])) _
theorem Px.right{G D:zu}(o:(Tt.node b x j L l r).bl.Nodup)(O:(Tt.node b x j L l r).AA)(hs:L<=100000)(m:Xl (v,i) r=true)
 (N:Below w.heap.size w G) (g:(Tt.node b x j L l r).In w) (hN:G.heap.size<=n) (h:(xx n (v,i) r).In D) (d:OA (fun k=>k∈r.bl) G D) (p:Nx D b x j L l.pt r.pt) (f:l.In D):
 Px w (D.setCell ⟨b,4,none⟩ (ze (xx n (v,i) r).pt)) n (.node b x j L l r) (.node b x j L l (xx n (v,i) r)):=by
 obtain⟨R,T,V,X,U⟩:=yN o;have A:=g.lt;have h0:=N.size;have J:n∉l.bl:=fun B=>by have:=A n (by simp[Tt.bl,B]);omega
 have H:n∉r.bl:=fun B=>by have:=A n (by simp[Tt.bl,B]);omega
 have E:n≠b:=fun B=>by have:=A b (by simp[Tt.bl]);omega
 have I:=Jc n (v,i) r m;have hb:b∉(xx n (v,i) r).bl:=fun B=>by
  rcases yg.1 (I.mem_iff.1 B)with e|e
  .exact E e.symm
  .exact T e
 have Y:=Vg n (v,i) r O.2.1;obtain⟨a1,a2,a3,a4,a5⟩:=O;have M:=(Y.1.iA)
 refine⟨De p f h R hb,?_,by rw[yL];omega,?_,by rw[Pw];omega,by omega,?_,?_⟩
 .have Z:(b::(l.bl++(n::r.bl))).Nodup:=by
   refine List.nodup_cons.2 ⟨?_,?_⟩
   .simp only[yg,yn,not_or];exact⟨R,fun e=>E e.symm,T⟩
   .refine List.nodup_append.2 ⟨V,List.nodup_cons.2 ⟨H,X⟩,fun a M c q e=>?_⟩;subst e;rcases yg.1 q with e|e
    .exact J (e▸M)
    .exact U a M e
  exact((List.Perm.cons b (I.append_left l.bl)).nodup_iff).2 Z
 .rcases Jb b x j L l (xx n (v,i) r)with e|e<;>rw[e]<;>omega
 .intro k hk;simp only[Tt.bl,yg,yn]at hk ⊢;rcases hk with rfl|hk|hk
  .exact .inl (.inl rfl)
  .exact .inl (.inr (.inl hk))
  .rcases yg.1 (I.mem_iff.1 hk)with rfl|e
   .exact .inr (by omega)
   .exact .inl (.inr (.inr e))
 .exact((OA.NZ N).trans d fun k hk=>.inl (by simp[Tt.bl,hk])).setCell (.inl (by simp[Tt.bl])) _
