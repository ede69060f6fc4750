/- Parts of the proof of the law TopKeeps: contracts of the functions that it reaches, and plain laws of what they compute. Conditions: those in each statement. -/
import Derived.Deep.Slices
import Derived.Handy
import Derived.SizedLaws
import Derived.Test.YtmgekibncmnmiaaGreatDoorM00
set_option linter.unusedVariables false
set_option maxRecDepth 100000
set_option maxHeartbeats 4000000
namespace Go.Proofs.YtmgekibncmnmiaaGreatDoor
open Go Go.RowKit Go.ChangeShapes Go.WideShapes Go.Deep
def zox:Option IntKind->Value->Prop
 | some k,v=>∃n:Int,v=.int k n/\(Lit.int k n).wf=true
 | .none,v=>∃b:Bool,v=.bool b
def qG:List (Option IntKind)->List Value->Prop
 | [],[]=>True
 | k::ks,v::vs=>zox k v/\qG ks vs
 | _,_=>False
theorem zcp:∀{sh:List (Option IntKind)} {cs:List Value},qG sh cs->cs.length=sh.length
 | [],[],_=>rfl
 | [],_::_,h=>by simp[qG]at h
 | _::_,[],h=>by simp[qG]at h
 | _::ks,_::vs,h=>by simp only[qG]at h;simp[zcp h.2]
theorem zai:∀{s1 s2:List (Option IntKind)} {A c2:List Value},qG s1 A->qG s2 c2->qG (s1++s2) (A++c2)
 | [],_,[],_,_,h=>by simpa using h
 | [],_,_::_,_,h,_=>by simp[qG]at h
 | _::_,_,[],_,h,_=>by simp[qG]at h
 | _::_,_,_::_,_,h,h2=>by simp only[qG]at h;simp only[List.cons_append,qG];exact⟨h.1,zai h.2 h2⟩
def yz(P:Program)(g:TypeId->Option (List (Option IntKind))):List Field->Nat->Option (List (Option IntKind))
 | [],_=>some []
 | f::r,off=>
  if f.offset=off then
   match g f.type with
   | some s=>if P.cellsOf f.type=s.length then(yz P g r (off+s.length)).map (s++ ·)else .none
   | .none=>.none
  else .none
def xx(s:List (Option IntKind)):Nat->List (Option IntKind)
 | 0=> []
 | n+1=>xx s n++s
def xL(P:Program):Nat->TypeId->Option (List (Option IntKind))
 | 0,_=>.none
 | f+1,t=>
  match P.underlying t with
  | some .bool=>some [.none]
  | some (.int k)=>some [some k]
  | some (.struct fs)=>yz P (xL P f) fs.toList 0
  | some (.array n e)=>
   match xL P f e with
   | some s=>if P.cellsOf e=s.length then some (xx s n)else .none
   | .none=>.none
  | _=>.none
section
variable {H : Type} {enc : TypeId × Value -> H} {P : Program} {w : World} {base : Nat} {spare : Nat -> Bool} {held : Bool}
theorem zcq(g:TypeId->Option (List (Option IntKind)))(m:Nat)(A:∀t s cs x,g t=some s->DataW.trod enc P w base spare held m t cs=some x->qG s cs)(cs:List Value):
 ∀(l:List Field) (off:Nat) (sh:List (Option IntKind)),yz P g l off=some sh->(∀f∈l,∃y,DataW.trod enc P w base spare held m f.type ((cs.drop f.offset).take (P.cellsOf f.type))=some y)->
  qG sh ((cs.drop off).take sh.length)
 | [],_,sh,h,_=>by simp only[yz,Option.some.injEq]at h;subst h;simp[qG]
 | f::r,off,sh,h,hf=>by
  unfold yz at h;split at h
  ·rename_i G;split at h
   ·rename_i s hs;split at h
    ·rename_i I;obtain⟨s2,D,rfl⟩:=Option.map_eq_some_iff.1 h;obtain⟨y,B⟩:=hf f (List.mem_cons_self ..);rw[I,G]at B;have f1:=A _ _ _ _ hs B;have f2:=zcq g m A cs r (off+s.length) s2 D (fun H E=>hf H (List.mem_cons_of_mem _ E));have e:(cs.drop off).take (s++s2).length=(cs.drop off).take s.length++(cs.drop (off+s.length)).take s2.length:=by rw[List.length_append,List.take_add,List.drop_drop]
     rw[e];exact zai f1 f2
    ·cases h
   ·cases h
  ·cases h
theorem zh1(s:List (Option IntKind))(cs:List Value)(n:Nat)(h:∀i,i<n->qG s ((cs.drop (i*s.length)).take s.length)):qG (xx s n) (cs.take (n*s.length)):=by
 induction n with
 | zero=>simp[xx,qG]
 | succ n ih=>
  have e:cs.take ((n+1)*s.length)=cs.take (n*s.length)++(cs.drop (n*s.length)).take s.length:=by rw[Nat.succ_mul,List.take_add]
  rw[e];exact zai (ih fun i hi=>h i (by omega)) (h n (by omega))
theorem zbx(s:List (Option IntKind))(n:Nat):(xx s n).length=n*s.length:=by
 induction n with
 | zero=>simp[xx]
 | succ n ih=>simp[xx,ih,Nat.succ_mul]
theorem xM:∀(f:Nat) (m:Nat) (t:TypeId) (sh:List (Option IntKind)) (cs:List Value) (x:DataW H×List MemPlace),xL P f t=some sh->sh.length=P.cellsOf t->DataW.trod enc P w base spare held m t cs=some x->qG sh cs
 | 0,_,_,_,_,_,h,_,_=>by simp[xL]at h
 | f+1,m,t,sh,cs,x,h,hl,ht=>by
  unfold xL at h;split at h
  ·rename_i hu;cases h;obtain⟨b,hb,_⟩:=DataW.trod_bool hu ht;subst hb;exact⟨⟨b,rfl⟩,trivial⟩
  ·rename_i k hu;cases h;obtain⟨n,a,_,hw⟩:=DataW.trod_int hu ht;subst a;exact⟨⟨n,rfl,hw⟩,trivial⟩
  ·rename_i I hu;obtain⟨xs,n,_,_,hlen,J,O⟩:=DataW.trod_struct hu ht;have X:∀t s cs x,(fun t=>(xL P f t).bind fun s=>if s.length=P.cellsOf t then some s else .none) t=some s->DataW.trod enc P w base spare held n t cs=some x->qG s cs:=by
    intro t s cs x hs c;simp only at hs;cases he:xL P f t with
    | none=>simp[he]at hs
    | some s'=>
     simp only[he,Option.bind_some]at hs;split at hs
     ·rename_i M;cases hs;exact xM f n t s cs x he M c
     ·cases hs
   have B:∀(l:List Field) (off:Nat) (sh:List (Option IntKind)),yz P (xL P f) l off=some sh->yz P (fun t=>(xL P f t).bind fun s=>if s.length=P.cellsOf t then some s else .none) l off=some sh:=by
    intro l
    induction l with
    | nil=>intro off sh h;simpa[yz]using h
    | cons fd r ih=>
     intro off sh h;unfold yz at h ⊢;split at h
     ·rename_i Y;rw[if_pos Y];split at h
      ·rename_i s hs;split at h
       ·rename_i G;simp only[hs,Option.bind_some,if_pos G.symm];rw[if_pos G];obtain⟨s2,V,rfl⟩:=Option.map_eq_some_iff.1 h;rw[ih _ _ V];rfl
       ·cases h
      ·cases h
     ·cases h
   have E:∀fd∈I.toList,∃y,DataW.trod enc P w base spare held n fd.type ((cs.drop fd.offset).take (P.cellsOf fd.type))=some y:=by
    intro fd T;obtain⟨i,R,rfl⟩:=List.mem_iff_getElem.1 T;have N:i<I.size:=by simpa using R
    have D:=O i I[i] (Array.getElem?_eq_getElem N);refine⟨xs[i]'(by omega),?_⟩;rw[List.getElem?_eq_getElem (by omega)]at D;simpa using D
   have A:=zcq _ n X cs I.toList 0 sh (B _ _ _ h) E;rw[List.drop_zero,hl,<-hlen,List.take_length]at A;exact A
  ·rename_i n e hu;split at h
   ·rename_i s hs;split at h
    ·rename_i G;cases h;obtain⟨xs,Z,_,_,hlen,J,O⟩:=DataW.trod_array hu ht;have A:=zh1 s cs n (fun i R=>by have U:=O i R;rw[List.getElem?_eq_getElem (by omega),G]at U;exact xM f Z e s _ _ hs G.symm U);rw[<-zbx,hl,<-hlen,List.take_length]at A;exact A
    ·cases h
   ·cases h
  ·cases h
theorem zke{r:Reach}{D:Nat}{t:TypeId}{v:Value}{d:DataW H}{ps:List MemPlace}{f:Nat}{sh:List (Option IntKind)}(hs:xL P f t=some sh)(E:sh.length=P.cellsOf t)
 (B:(match P.underlying t with | some (.struct _) | some (.array _ _)=>true | _=>false)=true)
 (A:Value.okWide P w r D t v) (hd:DataW.Trod enc P w base spare held t v d ps):∃cs,v=.agg ⟨cs⟩/\qG sh cs:=by
 have G:∃cs:Array Value,v=.agg cs:=by
  unfold Value.okWide at A;split at B
  ·rename_i hu;rw[hu]at A;exact⟨_,A.choose_spec.1⟩
  ·rename_i hu;rw[hu]at A;exact⟨_,A.choose_spec.1⟩
  ·cases B
 obtain⟨cs,rfl⟩:=G;obtain⟨m,hm⟩:=hd;exact⟨cs.toList,rfl,xM f m t sh _ _ hs E (by simpa[Value.cells]using hm)⟩
end
theorem zh2{w:World}{a:Addr}{v:Value}(h:w.cell? a=some v):a.block<w.heap.size:=by
 unfold World.cell? at h;split at h
 ·rename_i hb;exact(zd hb).1
 ·cases h
def zaF(sh:List (Option IntKind))(w:World)(a:Option Addr)(len:Nat):Prop:=
 len<=9223372036854775807/\∀i,i<len->∃(b off:Nat) (cs:List Value),a=some ⟨b,off,.none⟩/\b<w.heap.size/\qG sh cs/\∀j,j<sh.length->w.cell? ⟨b,off+(i*sh.length+j),.none⟩=cs[j]?
section
variable {H : Type} {enc : TypeId × Value -> H} {P : Program} {w : World} {base : Nat} {spare : Nat -> Bool} {held : Bool}
theorem zcG{t e:TypeId}{d:DataW H}{ps:List MemPlace}{f:Nat}{sh:List (Option IntKind)}{a:Option Addr}{len cap:Nat}(Z:P.underlying t=some (.slice e))(hs:xL P f e=some sh)(V:sh.length=P.cellsOf e)(hp:0<sh.length)
 (hd:DataW.Trod enc P w base spare held t (.slice a len cap) d ps):zaF sh w a len:=by
 obtain⟨m,hm⟩:=hd;rcases open_slice Z hm with⟨A,_⟩ | ⟨c,h2,h1,m',n,D,Pl,A,_,h5,T,E,_,Y⟩
 ·simp[Value.cells]at A;obtain⟨rfl,rfl,rfl⟩:=A;exact⟨by omega,fun i h=>by omega⟩
 ·simp[Value.cells]at A;obtain⟨rfl,rfl,rfl⟩:=A;refine⟨by unfold maxLen at T;omega,fun i h3=>?_⟩;obtain⟨N,g,X⟩:=Y i (by rw[E];split <;> omega);have O:=xM f n e sh N _ hs V X;obtain⟨_,zre,I⟩:=World.cells?_some g;have hlen:=zcp O;obtain⟨b,off,spot⟩:=c;have B:spot=.none:=by obtain⟨U,R,J⟩:=Y 0 (by rw[E];split <;> omega);have h4:=zcp (xM f n e sh U _ hs V J);have G:=(World.cells?_some R).2.2 0 (by omega);rw[List.getElem?_eq_getElem (by omega)]at G;simpa[Addr.add]using World.cell?_spot G
  have G:=I 0 (by omega);rw[List.getElem?_eq_getElem (by omega)]at G;subst B;refine⟨b,off,N,rfl,by simpa[add_plain]using zh2 G,O,fun j hj=>?_⟩;have M:=I j (by omega);rw[add_plain,add_plain,<-V,Nat.add_assoc]at M;exact M
end
theorem zet{D A E B G:IntKind}{cs:List Value}(h:qG [some D,some A,some E,some B,some G] cs):∃a b c d e:Int,cs= [.int D a,.int A b,.int E c,.int B d,.int G e]/\(Lit.int D a).wf=true/\(Lit.int A b).wf=true/\(Lit.int E c).wf=true/\(Lit.int B d).wf=true/\(Lit.int G e).wf=true:=by
 match cs,h with
 | [_,_,_,_,_],h=>
  obtain⟨⟨a,rfl,H⟩,⟨b,rfl,hb⟩,⟨c,rfl,I⟩,⟨d,rfl,hd⟩,⟨e,rfl,he⟩,_⟩:=h;exact⟨a,b,c,d,e,rfl,H,hb,I,hd,he⟩
end Go.Proofs.YtmgekibncmnmiaaGreatDoor
