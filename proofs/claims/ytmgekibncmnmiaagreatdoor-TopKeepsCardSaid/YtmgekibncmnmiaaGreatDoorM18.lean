/- Parts of the proof of the law TopKeeps: contracts of the functions that it reaches, and plain laws of what they compute. Conditions: those in each statement. -/
import Derived.Deep.LoopGhost
import Derived.Test.YtmgekibncmnmiaaGreatDoorM15
set_option linter.unusedVariables false
set_option maxRecDepth 100000
set_option maxHeartbeats 4000000
open Go.Proofs.Tryz
namespace Go.Proofs.YtmgekibncmnmiaaGreatDoor
open Go Go.RowKit Go.ChangeShapes Go.WideShapes
def Rv(l:List Int)(i:Nat)(d:List Int):Prop:=d.length=l.length/\∀m,m<l.length->d[m]?=if m<i∨l.length-1-i<m then l[l.length-1-m]? else l[m]?
theorem Rv.start(l:List Int):Rv l 0 l:=⟨rfl,fun m hm=>by rw[if_neg (by omega)]⟩
theorem Rv.done{l d:List Int}{i:Nat}(h:Rv l i d)(hi:l.length-1<=i+i):d=l.reverse:=by
 apply List.ext_getElem?;intro m;by_cases hm:m<l.length
 ·rw[h.2 m hm,List.getElem?_reverse hm];by_cases A:m<i∨l.length-1-i<m
  ·rw[if_pos A]
  ·rw[if_neg A];have:m=l.length-1-m:=by omega
   rw[<-this]
 ·rw[List.getElem?_eq_none (by rw[h.1];omega),List.getElem?_eq_none (by rw[List.length_reverse];omega)]
theorem Rv.step{l d:List Int}{i:Nat}(h:Rv l i d)(hi:i<l.length-1-i)(a b:Int)(E:d[i]?=some a)(hb:d[l.length-1-i]?=some b):Rv l (i+1) ((d.set i b).set (l.length-1-i) a):=by
 refine⟨by simp[h.1],fun m hm=>?_⟩;have B:=h.2 i (by omega);have A:=h.2 (l.length-1-i) (by omega);rw[if_neg (by omega),E]at B;rw[if_neg (by omega),hb]at A;by_cases H:m=l.length-1-i
 ·subst H;rw[List.getElem?_set_self (by simp[h.1];omega),if_pos (by omega),B]
  congr 1;omega
 ·rw[List.getElem?_set_ne (by omega)];by_cases G:m=i
  ·subst G;rw[List.getElem?_set_self (by rw[h.1];omega),if_pos (by omega),A]
  ·rw[List.getElem?_set_ne (by omega),h.2 m hm];by_cases D:m<i∨l.length-1-i<m
   ·rw[if_pos D,if_pos (by omega)]
   ·rw[if_neg D,if_neg (by omega)]
theorem zjE(l:List Int)(k:Nat)(x:Int):(iv l).set k (.int .i64 x)=iv (l.set k x):=by rw[iv,iv,List.map_set]
theorem zgG(base g n cap:Nat)(l:List Int)(w:World)(h:w.ownsRow base 3 1 (.slice (some ⟨g,0,none⟩) n cap) n (iv l))(Y:n=l.length)(hb:n<=1000):
 Calls prog 196 #[.slice (some ⟨g,0,none⟩) n cap] w fun e w'=>e=.returned (.tuple #[])/\w'.ownsRow base 3 1 (.slice (some ⟨g,0,none⟩) n cap) n (iv l.reverse)/\zo8 (· =g) w w':=by
 have H:=zc h;have M:=zc Y;clear h Y;go_enter func196,ntmps196;go_wp2_with fail;go_loopg [2,3] n (fun k s2 p wr=>∃(i:Nat) (d:List Int),s2=.int .i64 i/\p=.int .i64 ((n:Int) -1-i)/\i<=n/\n-i<=k/\Rv l i d/\wr.ownsRow base 3 1 (.slice (some ⟨g,0,none⟩) n cap) n (iv d)/\zo8 (· =g) w wr)
 case atStart=>exact⟨0,l,rfl,by simp,by omega,by omega,Rv.start l,H.out,zo8.refl _ _⟩
 case round=>
  obtain⟨i,d,rfl,rfl,h3,hk,J,B,D⟩:=hrel;have T:=zc J;have I:=zc B;have c:=zc D;clear J B D;by_cases O:i<n-1-i
  ·obtain⟨j,Z⟩:=zh (n-1-i)
   have E:(n:Int) -1-i=(j:Int):=by omega
   rw[E];have A:d.length=n:=by rw[T.out.1,M.out]
   obtain⟨a,R⟩:∃a,d[i]?=some a:=⟨_,List.getElem?_eq_getElem (by omega)⟩
   obtain⟨b,G⟩:∃b,d[j]?=some b:=⟨_,List.getElem?_eq_getElem (by omega)⟩
   have ci:=zom I.out A.symm i a R;have cj:=zom I.out A.symm j b G;have fi:=I.out.frozenAt i;have fj:=I.out.frozenAt j;have h7:=(I.out.lt g rfl).2;have h0:i<j:=by omega
   have h4:j<n:=by omega
   have V:=zc (And.intro R G);have N:=zc Z;have h6:=zc A;have h5:=zc E;clear A R G Z E O;go_wp2_with fail;go_region;go_wp2;go_roundg (n-(i+1))
   case measure=>omega
   case rel=>
    have m:(n:Int) -1-((i+1:Nat):Int)=(j:Int) -1:=by have:=N.out;omega
    have o:Rv l (i+1) ((d.set i b).set j a):=by have:=T.out.step (by have:=M.out;have:=N.out;omega) a b V.out.1 (by have:=V.out.2;rw[N.out,M.out]at this;exact this);rw[N.out,M.out];exact this
    have X:(((wr.setCell ⟨g,i,none⟩ (.int .i64 b)).setCell ⟨g,j,none⟩ (.int .i64 a))).ownsRow base 3 1 (.slice (some ⟨g,0,none⟩) n cap) n (iv ((d.set i b).set j a)):=by have U:=(I.out.stored i (.int .i64 b)).1;rw[zjE]at U;have f:=(U.stored j (.int .i64 a)).1;rwa[zjE]at f
    exact⟨i+1,_,by go_num,by rw[m],by omega,zg _,o,⟨X.1,X.2⟩,((c.out.setCell (.inl rfl) _).setCell (.inl rfl) _).drew⟩
  ·go_wp2;go_end0;have hd:d=l.reverse:=T.out.done (by have:=M.out;omega);rw[<-hd];exact⟨rfl,I.out,c.out⟩
theorem zgH(a:Option Addr)(cap:Nat)(w:World):
 Calls prog 196 #[.slice a 0 cap] w fun e w'=>e=.returned (.tuple #[])/\w=w':=by
 go_enter func196,ntmps196;go_wp2_with fail;go_loopg [2,3] 0 (fun _ s2 A wr=>s2=.int .i64 0/\A=.int .i64 (-1)/\w=wr)
 case atStart=>exact⟨rfl,rfl,rfl⟩
 case round=>
  obtain⟨rfl,rfl,rfl⟩:=hrel;go_wp2;go_end0;exact⟨rfl,rfl⟩
end Go.Proofs.YtmgekibncmnmiaaGreatDoor
