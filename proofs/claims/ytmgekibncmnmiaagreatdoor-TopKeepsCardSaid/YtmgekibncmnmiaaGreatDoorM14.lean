/- Parts of the proof of the law TopKeeps: contracts of the functions that it reaches, and plain laws of what they compute. Conditions: those in each statement. -/
import Derived.Deep.DrawnRows
import Derived.Laws.StructEq
import Derived.Test.YtmgekibncmnmiaaGreatDoorM11
set_option linter.unusedVariables false
set_option maxRecDepth 100000
set_option maxHeartbeats 4000000
open Go.Proofs.Tryz
namespace Go.Proofs.YtmgekibncmnmiaaGreatDoor
open Go Go.RowKit Go.ChangeShapes Go.WideShapes
abbrev yg(v i:Int):Obj:=.cells #[.int .i64 v,.int .i64 i] 289
theorem yM(v i x j:Int)(w:World):
 Calls prog 252 #[.agg #[.int .i64 v,.int .i64 i],.agg #[.int .i64 x,.int .i64 j]] w fun e w'=>e=.returned (.int .i64 (xY (v,i) (x,j)))/\((w.alloc (yg v i)).alloc (yg x j))=w':=by
 obtain⟨c,B⟩:=zh (xY (v,i) (x,j))
 rw[<-B];by_cases G:v=x
 ·subst G;by_cases E:i=j
  ·subst E;have A:c=0:=by rw[B];exact zaC _
   subst A;clear B;go_enter func252,ntmps252;go_wp2;go_ret;exact⟨rfl,rfl⟩
  ·have h5:(i == j)=false:=beq_eq_false_iff_ne.2 E;by_cases D:i<j
   ·have A:c= -1:=by rw[B];exact ze4 (.inr ⟨rfl,D⟩)
    subst A;clear B E;go_enter func252,ntmps252;go_wp2;go_ret;exact⟨rfl,rfl⟩
   ·have A:c=1:=by rw[B];exact zcK (.inr ⟨rfl,by show j<i;omega⟩)
    subst A;have H:j<=i:=by omega
    clear B E D;go_enter func252,ntmps252;go_wp2;go_ret;exact⟨rfl,rfl⟩
 ·have h0:(v == x)=false:=beq_eq_false_iff_ne.2 G;by_cases D:v<x
  ·have A:c= -1:=by rw[B];exact ze4 (.inl D)
   subst A;clear B G;go_enter func252,ntmps252;go_wp2;go_ret;exact⟨rfl,rfl⟩
  ·have A:c=1:=by rw[B];exact zcK (.inl (by show x<v;omega))
   subst A;have H:x<=v:=by omega
   clear B G D;go_enter func252,ntmps252;go_wp2;go_ret;exact⟨rfl,rfl⟩
theorem zf4(b:Nat)(v i L:Int)(l r:Tt):(zC (.node b v i L l r)).ht=L:=by
 cases l with
 | nil=>rfl
 | node c x j M p q=>
  simp only[zC];split
  ·rename_i h;simp only[ztQ];exact h
  ·rfl
theorem zad(
 b:Nat) (v i L:Int) (l r:Tt):(zC (.node b v i L l r)).right.ht=r.ht∨(zC (.node b v i L l r)).right.ht=L:=by
 cases l with
 | nil=>exact .inl rfl
 | node c x j M p q=>
  simp only[zC];split
  ·exact .inr rfl
  ·exact .inl rfl
theorem zae(n:Nat)(k:Int×Int):∀t:Tt,uf k t=true->(zW n k t).bl.Perm (n::t.bl)
 | .nil,_=>.refl _
 | .node b v i L l r,h=>by
  simp only[zW,uf]at h ⊢;split
  ·rename_i B;rw[if_pos B]at h;refine(yX _).trans ((yt _).trans ?_);simp only[Tt.bl];refine(List.Perm.cons b ((zae n k l h).append_right r.bl)).trans ?_;exact List.Perm.swap n b _
  ·rename_i B;rw[if_neg B]at h;split
   ·rename_i A;rw[if_pos A]at h;refine(yX _).trans ((yt _).trans ?_);simp only[Tt.bl];refine(List.Perm.cons b ((zae n k r h).append_left l.bl)).trans ?_;exact(List.Perm.cons b List.perm_middle).trans (List.Perm.swap n b _)
   ·rename_i A;rw[if_neg A]at h;cases h
theorem zed{n:Nat}{t:Tt}(h:t.bl.Nodup)(A:n∉t.bl):(n::t.bl).Nodup:=List.nodup_cons.2 ⟨A,h⟩
def Kx(w:World)(b:Nat)(v i:Int):Prop:=w.heap[b]?=some (yg v i)
theorem Kx.new(w:World)(v i:Int):Kx (w.alloc (yg v i)) w.heap.size v i:=heap_alloc_new w _
theorem Kx.lt{w:World}{b:Nat}{v i:Int}(h:Kx w b v i):b<w.heap.size:=(zd h).1
theorem Kx.c2{w:World}{b:Nat}{v i:Int}(h:Kx w b v i):w.cell? ⟨b,0,none⟩=some (.int .i64 v)/\w.cell? ⟨b,1,none⟩=some (.int .i64 i):=by unfold Kx at h;constructor <;> simp[World.cell?,h]
theorem Kx.of{w w':World}{b:Nat}{v i:Int}(h:Kx w b v i)(hb:w'.heap[b]?=w.heap[b]?):Kx w' b v i:=hb.trans h
theorem Kx.behind{w w':World}{b:Nat}{v i:Int}(h:Kx w b v i)(hb:Below w.heap.size w w'):Kx w' b v i:=h.of (hb.block b h.lt)
theorem Nx.behind{w w':World}{b:Nat}{v i L:Int}{l r:Option Addr}(h:Nx w b v i L l r)(hb:Below w.heap.size w w'):Nx w' b v i L l r:=h.of (hb.block b h.lt)
def zc2(v i:Int)(t:Tt)(w:World)(e:Ending)(w':World):Prop:=
 ∃n,w.heap.size<=n/\e=.returned (.tuple #[.pointer (zW n (v,i) t).pt,.bool true])/\(zW n (v,i) t).In w'/\zo8 (fun k=>k∈t.bl) w w'
theorem zlD(v i:Int)(w:World):Calls prog 237 #[.pointer none,.agg #[.int .i64 v,.int .i64 i]] w (zc2 v i .nil w):=by go_enter func237,ntmps237;go_wp2;go_ret2;refine⟨w.heap.size+1,by omega,rfl,⟨?_,trivial,trivial⟩,((zo8.refl _ w).alloc _).alloc _⟩;have:=heap_alloc_new (w.alloc (yg v i)) (.cells #[.int .i64 v,.int .i64 i,.int .i64 1,.pointer none,.pointer none] 341);rw[show(w.alloc (yg v i)).heap.size=w.heap.size+1 by simp]at this;exact this
theorem zep{w:World}{b:Nat}{x j L:Int}{E:Option Addr}{l r:Tt}(h:Nx w b x j L E r.pt)(A:l.In w)(D:r.In w)(G:b∉l.bl)(B:b∉r.bl):(Tt.node b x j L l r).In (w.setCell ⟨b,3,none⟩ (.pointer l.pt)):=
 ⟨h.ztr l.pt,A.zpP G,D.zpP B⟩
theorem zbX{w:World}{b:Nat}{x j L:Int}{B:Option Addr}{l r:Tt}(h:Nx w b x j L l.pt B)(A:l.In w)(E:r.In w)(G:b∉l.bl)(D:b∉r.bl):(Tt.node b x j L l r).In (w.setCell ⟨b,4,none⟩ (.pointer r.pt)):=
 ⟨h.zts r.pt,A.zpP G,E.zpP D⟩
structure zf5(w w6:World)(n:Nat)(t T1:Tt):Prop where
 inn:T1.In w6
 nd:T1.bl.Nodup
 ht:T1.ht≠0
 rt:0<=(zC T1).right.ht/\(zC T1).right.ht<=1000000
 zpZ:(zC T1).ht≠0
 lo:w.heap.size<=n
 sub:∀k∈T1.bl,k∈t.bl∨w.heap.size<=k
 zpW:zo8 (fun k=>k∈t.bl) w w6
theorem zf5.close{w E G B:World}{n:Nat}{t A:Tt}{v i:Int}(h:zf5 w E n t A)(he:zW n (v,i) t=zH (zC A))(J:zo8 (fun k=>k∈A.bl) E G)(I:zo8 (fun k=>k∈(zC A).bl) G B)(D:(zH (zC A)).In B):
 zc2 v i t w (.returned (.tuple #[.pointer (zH (zC A)).pt,.bool true])) B:=
 ⟨n,h.lo,by rw[he],by rw[he];exact D,(h.zpW.trans J h.sub).trans I fun k H=>h.sub k ((yt A).mem_iff.1 H)⟩
theorem zf5.left{w H E:World}{n b:Nat}{x j L v i:Int}{l r:Tt}(g:(Tt.node b x j L l r).bl.Nodup)(Z:(Tt.node b x j L l r).AA)(hs:L<=100000)(f:uf (v,i) l=true)
 (M:Below w.heap.size w H) (hw:(Tt.node b x j L l r).In w) (hN:H.heap.size<=n) (d:(zW n (v,i) l).In E) (Y:zo8 (fun k=>k∈l.bl) H E) (m:Nx E b x j L l.pt r.pt) (h:r.In E):
 zf5 w (E.setCell ⟨b,3,none⟩ (.pointer (zW n (v,i) l).pt)) n (.node b x j L l r) (.node b x j L (zW n (v,i) l) r):=by
 obtain⟨N,R,U,V,T⟩:=zu g;have B:=hw.lt;have h0:=M.size;have J:n∉l.bl:=fun D=>by have:=B n (by simp[Tt.bl,D]);omega
 have I:n∉r.bl:=fun D=>by have:=B n (by simp[Tt.bl,D]);omega
 have G:n≠b:=fun D=>by have:=B b (by simp[Tt.bl]);omega
 have hp:=zae n (v,i) l f;have hb:b∉(zW n (v,i) l).bl:=fun D=>by
  rcases List.mem_cons.1 (hp.mem_iff.1 D)with e | e
  ·exact G e.symm
  ·exact N e
 obtain⟨a1,a2,a3,a4,a5⟩:=Z;have O:=(a2.ztm)
 refine⟨zep m d h hb R,?_,by rw[ztQ];omega,?_,by rw[zf4];omega,by omega,?_,?_⟩
 ·have X:(b::((n::l.bl)++r.bl)).Nodup:=by
   refine List.nodup_cons.2 ⟨?_,?_⟩
   ·simp only[List.cons_append,List.mem_cons,List.mem_append,not_or];exact⟨fun e=>G e.symm,N,R⟩
   ·rw[List.cons_append];refine List.nodup_cons.2 ⟨by simp[J,I],List.nodup_append.2 ⟨U,V,fun a O c o e=>T a O (e▸o)⟩⟩
  exact((List.Perm.cons b (hp.append_right r.bl)).nodup_iff).2 X
 ·rcases zad b x j L (zW n (v,i) l) r with e | e <;> rw[e] <;> omega
 ·intro k A;simp only[Tt.bl,List.mem_cons,List.mem_append]at A ⊢;rcases A with rfl | A | A
  ·exact .inl (.inl rfl)
  ·rcases List.mem_cons.1 (hp.mem_iff.1 A)with rfl | e
   ·exact .inr (by omega)
   ·exact .inl (.inr (.inl e))
  ·exact .inl (.inr (.inr A))
 ·exact((zo8.zo7 M).trans Y fun k A=>.inl (by simp[Tt.bl,A])).setCell (.inl (by simp[Tt.bl])) _
theorem zf5.right{w H E:World}{n b:Nat}{x j L v i:Int}{l r:Tt}(m:(Tt.node b x j L l r).bl.Nodup)(O:(Tt.node b x j L l r).AA)(hs:L<=100000)(h:uf (v,i) r=true)
 (N:Below w.heap.size w H) (hw:(Tt.node b x j L l r).In w) (hN:H.heap.size<=n) (g:(zW n (v,i) r).In E) (d:zo8 (fun k=>k∈r.bl) H E) (o:Nx E b x j L l.pt r.pt) (f:l.In E):
 zf5 w (E.setCell ⟨b,4,none⟩ (.pointer (zW n (v,i) r).pt)) n (.node b x j L l r) (.node b x j L l (zW n (v,i) r)):=by
 obtain⟨R,T,V,X,U⟩:=zu m;have B:=hw.lt;have h0:=N.size;have J:n∉l.bl:=fun D=>by have:=B n (by simp[Tt.bl,D]);omega
 have I:n∉r.bl:=fun D=>by have:=B n (by simp[Tt.bl,D]);omega
 have G:n≠b:=fun D=>by have:=B b (by simp[Tt.bl]);omega
 have hp:=zae n (v,i) r h;have hb:b∉(zW n (v,i) r).bl:=fun D=>by
  rcases List.mem_cons.1 (hp.mem_iff.1 D)with e | e
  ·exact G e.symm
  ·exact T e
 have Y:=zbp n (v,i) r O.2.1;obtain⟨a1,a2,a3,a4,a5⟩:=O;have M:=(Y.1.ztm)
 refine⟨zbX o f g R hb,?_,by rw[ztQ];omega,?_,by rw[zf4];omega,by omega,?_,?_⟩
 ·have Z:(b::(l.bl++(n::r.bl))).Nodup:=by
   refine List.nodup_cons.2 ⟨?_,?_⟩
   ·simp only[List.mem_cons,List.mem_append,not_or];exact⟨R,fun e=>G e.symm,T⟩
   ·refine List.nodup_append.2 ⟨V,List.nodup_cons.2 ⟨I,X⟩,fun a M c p e=>?_⟩;subst e;rcases List.mem_cons.1 p with e | e
    ·exact J (e▸M)
    ·exact U a M e
  exact((List.Perm.cons b (hp.append_left l.bl)).nodup_iff).2 Z
 ·rcases zad b x j L l (zW n (v,i) r)with e | e <;> rw[e] <;> omega
 ·intro k A;simp only[Tt.bl,List.mem_cons,List.mem_append]at A ⊢;rcases A with rfl | A | A
  ·exact .inl (.inl rfl)
  ·exact .inl (.inr (.inl A))
  ·rcases List.mem_cons.1 (hp.mem_iff.1 A)with rfl | e
   ·exact .inr (by omega)
   ·exact .inl (.inr (.inr e))
 ·exact((zo8.zo7 N).trans d fun k A=>.inl (by simp[Tt.bl,A])).setCell (.inl (by simp[Tt.bl])) _
end Go.Proofs.YtmgekibncmnmiaaGreatDoor
