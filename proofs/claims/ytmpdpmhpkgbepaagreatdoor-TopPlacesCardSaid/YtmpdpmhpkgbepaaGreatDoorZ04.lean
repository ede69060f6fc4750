/- Parts for TopPlaces. Conditions: as stated. -/
import Derived.Maps.OwnSet
import Derived.Outline
import Derived.Test.YtmpdpmhpkgbepaaGreatDoorZ02
set_option linter.unusedVariables false
set_option maxRecDepth 100000
set_option maxHeartbeats 4000000
open Go.Value renaming pointer->ze,slice->zf
open Go.IntKind renaming i64->zj,signed->yq
open Go renaming World->zu,Calls->zw,Value->zz
open Go.Proofs.Tryz
namespace Go.Proofs.YtmpdpmhpkgbepaaGreatDoor
open Go Go.RowKit Go.ChangeShapes Go.WideShapes
variable {b n:Nat}{k:Int}{w:zu}
def eG:zz->Option (DataW Unit×List MemPlace)
 | .pointer none=>some (.nil,[])
 | .pointer (some ⟨b,0,none⟩)=>some (.lit (.int zj b),[])
 | _=>none
theorem GX:eG (ze none)=some (.nil,[]):=rfl
theorem GY(b:Nat):eG (ze (some ⟨b,0,none⟩))=some (.lit (.int zj b),[]):=rfl
theorem ZS{v:zz}{ps:List MemPlace}(h:eG v=some (.nil,ps)):v=ze none:=by
 unfold eG at h;split at h
 .rfl
 .cases h
 .cases h
theorem ZT{v:zz}{ps:List MemPlace}(h:eG v=some (.lit (.int zj b),ps)):v=ze (some ⟨b,0,none⟩):=by
 unfold eG at h;split at h
 .cases h
 .rename_i c;simp only[Option.some.injEq,Prod.mk.injEq,DataW.lit.injEq,Lit.int.injEq,true_and]at h;have:c=b:=by omega
  rw[this]
 .cases h
def RH(k:Int):Prop:= -9223372036854775808<=k/\k<=9223372036854775807
theorem RH.wf(h:RH k):(Lit.int zj k).wf=true:=by unfold RH at h;simp[Lit.wf,IntKind.min,IntKind.max,yq,IntKind.bits];omega
theorem vD:Maps.Keyed prog 3:=Maps.int_keyed underlying3
theorem Kk(h:RH k):keyOf prog 3 (.int zj k)=some (.int zj k):=Maps.keyOf_int_mk underlying3 h.wf
def GZ(x:Option Nat):DataW Unit:=match x with
 | none=>.nil
 | some b=>.lit (.int zj b)
structure uF(w:zu)(b:Nat)(g:Int->Option Nat)(n:Nat):Prop where
 ex:∃D,w.ownsMap prog 3 eG b n D/\Maps.size D=n/\∀k,RH k->(Maps.has D (.int zj k)=(g k).isSome/\D.atKey (.int zj k) .nil=GZ (g k))
theorem uF.lt{g:Int->Option Nat}(h:uF w b g n):b<w.heap.size:=by obtain⟨D,A,_⟩:=h.ex;exact A.lt
theorem uF.of{w':zu}{g:Int->Option Nat}(h:uF w b g n)(hb:w'.heap[b]?=w.heap[b]?):uF w' b g n:=by obtain⟨D,⟨G,A,E,B⟩,H⟩:=h.ex;exact⟨D,⟨G,A,hb.trans E,B⟩,H⟩
theorem BX{H:Type}{P:Program}{k:TypeId}{R:zz->Option (DataW H×List MemPlace)}{D:DataW H}(h:w.ownsMap P k R b n D):w.ownsMap P k R b (Maps.size D) D:=by obtain⟨I,A,G,E,h3,B⟩:=h;refine⟨I,A,G,E,?_,B⟩;rw[B];simp[Maps.size,length_sorted]
theorem BY(w:zu):(zeroValue 290).run prog w=.ok (ze none) w:=by kernel_rfl
theorem uF.look{g:Int->Option Nat}(h:uF w b g n)(hk:RH k):(Instr.lookup 213 (.map (some b)) (.int zj k) false).run prog w=.ok (ze ((g k).map fun b=>⟨b,0,none⟩)) w:=by
 obtain⟨D,E,h2,G⟩:=h.ex;obtain⟨v,ps,B,A⟩:=E.lookup vD underlying213 (BY w) GX (Kk hk);rw[B];rw[(G k hk).2]at A;cases hg:g k with
 | none=>rw[hg]at A;rw[ZS A];rfl
 | some c=>rw[hg]at A;rw[ZT A];rfl
theorem uF.len{g:Int->Option Nat}(h:uF w b g n)(A:TypeId):(Builtin.len_ #[213] A #[.map (some b)]).run prog w=.ok (.int zj n) w:=by obtain⟨D,E,B,h3⟩:=h.ex;rw[E.len underlying213 A,B]
def qC(g:Int->Option Nat)(k:Int)(v:Option Nat):Int->Option Nat:=fun j=>if j=k then v else g j
theorem uV(g:Int->Option Nat)(k:Int)(v:Option Nat):qC g k v k=v:=by simp[qC]
theorem qG(g:Int->Option Nat){j:Int}(v:Option Nat)(h:j≠k):qC g k v j=g j:=by simp[qC,h]
theorem Fc(k:Int):WideAt.IsKeyLit (.int zj k):=trivial
theorem Ud{j:Int}(h:j≠k):Lit.int zj j≠Lit.int zj k:=fun e=>by injection e with _ e;exact h e
theorem uF.stored{w1:zu}{c m:Nat}{g:Int->Option Nat}{D:DataW Unit}(hk:RH k)(M:g k=none)(J:w.ownsMap prog 3 eG b n D)(I:Maps.size D=n)(G:∀k,RH k->(Maps.has D (.int zj k)=(g k).isSome/\D.atKey (.int zj k) .nil=GZ (g k)))
 (A:w1.ownsMap prog 3 eG b m (D.put (.int zj k) (.lit (.int zj c)))):uF w1 b (qC g k (some c)) (n+1):=by
 have E:=J.tidy vD;have B:Maps.size (D.put (.int zj k) (.lit (.int zj c)))=n+1:=by rw[Maps.size_put E,(G k hk).1,M,I];rfl
 refine⟨_,?_,B,fun j H=>?_⟩
 .have:=BX A;rw[B]at this;exact this
 .by_cases e:j=k
  .subst e;rw[uV,Maps.has_put_same E.isMap (Fc j),Maps.atKey_put_same E.isMap (Fc j)];exact⟨rfl,rfl⟩
  .rw[qG _ _ e,Maps.has_put_other (Ud e),Maps.atKey_put_other (Ud e)];exact G j H
theorem uF.dropped{w1:zu}{m c:Nat}{g:Int->Option Nat}{D:DataW Unit}(hk:RH k)(M:g k=some c)(J:w.ownsMap prog 3 eG b n D)(H:Maps.size D=n)(E:∀k,RH k->(Maps.has D (.int zj k)=(g k).isSome/\D.atKey (.int zj k) .nil=GZ (g k)))
 (A:w1.ownsMap prog 3 eG b m (D.del (.int zj k))):uF w1 b (qC g k none) (n-1):=by
 have I:=J.tidy vD;have B:Maps.size (D.del (.int zj k))=n-1:=by have:=Maps.size_del (k:=.int zj k) I;rw[(E k hk).1,M,H]at this;simp at this;omega
 refine⟨_,?_,B,fun j G=>?_⟩
 .have:=BX A;rw[B]at this;exact this
 .by_cases e:j=k
  .subst e;rw[uV,Maps.atKey_del_same,Maps.has_del_same];exact⟨rfl,rfl⟩
  .rw[qG _ _ e,Maps.has_del_other (Ud e),Maps.atKey_del_other (Ud e)];exact E j G
theorem uF.new(w:zu):uF (w.alloc (.map #[] 0)) w.heap.size (fun _=>none) 0:=
 ⟨⟨_,World.ownsMap_made w prog 3 eG,rfl,fun k hk=>⟨rfl,rfl⟩⟩⟩
end Go.Proofs.YtmpdpmhpkgbepaaGreatDoor
namespace Go.Proofs.YtmpdpmhpkgbepaaGreatDoor
namespace Hg
open Go Go.RowKit Go.ChangeShapes Go.WideShapes
structure cO(w:zu)(a:Option Addr)(len:Nat)(xs:List Int):Prop where
 length:xs.length=len
 most:len<=9223372036854775807
 cell:∀j,j<len->∃b off,a=some ⟨b,off,none⟩/\b<w.heap.size/\w.cell? ⟨b,off+j,none⟩=some (.int zj (xs.getD j 0))
def lm(A:List Int):Nat->Int
 | 0=>A.getD 0 0
 | k+1=>if A.getD k 0<lm A k then A.getD k 0 else lm A k
theorem fD(A:List Int):lm A 1=A.getD 0 0:=by simp[lm]
def eH(m:Int)(A:List Int):Int:=if A.length=0 then m else if m<lm A A.length then lm A A.length else m
theorem Nk(a:Option Addr)(A J:Nat)(B:List Int)(w:zu)(G:cO w a A B)(N:0<A):
 zw prog 256 #[zf a A J] w fun e w'=>e=.returned (.int zj (lm B A))/\∃n,w.drewN n=w':=by
 obtain⟨b,off,rfl,_,D⟩:=G.cell 0 N;rw[<-fD]at D;rw[Nat.add_zero]at D;have h3:=G.most;have O:=yw G;clear G;have h1:¬(A:Int) <1:=by omega
 generalize E:lm B 1=m0 at*;have M:=yw E;clear E;go_enter func256,ntmps256;go_wp2;go_loop [3,4] (fun m i=>∃k:Nat,1<=k/\k<=A/\i=.int zj k/\m=.int zj (lm B k)) (fun _ i=>A-(intOf i).toNat)
 case atStart=>exact⟨1,by omega,by omega,rfl,by rw[M.out]⟩
 case round=>
  obtain⟨k,h4,hk,rfl,rfl⟩:=hrel;by_cases H:k<A
  .obtain⟨b',h2,I,_,hc⟩:=O.out.cell k H;cases I;have HS:=yw (show lm B (k+1)=if B.getD k 0<lm B k then B.getD k 0 else lm B k from rfl);generalize lm B k=m at*;generalize R:B.getD k 0=x at*;clear R;rcases Int.lt_trichotomy x m with E|rfl|E
   .go_wp2;go_round
    case rel=>exact⟨k+1,by omega,by omega,by go_num,by rw[HS.out,if_pos E]⟩
    case measure=>simp[intOf];omega
   .go_wp2;go_round
    case rel=>exact⟨k+1,by omega,by omega,by go_num,by rw[HS.out,if_neg (by omega)]⟩
    case measure=>simp[intOf];omega
   .go_wp2;go_round
    case rel=>exact⟨k+1,by omega,by omega,by go_num,by rw[HS.out,if_neg (by omega)]⟩
    case measure=>simp[intOf];omega
  .obtain rfl:k=A:=by omega
   go_wp2;go_ret;exact⟨rfl,0,rfl⟩
theorem Rk(m:Int)(a:Option Addr)(A:Nat)(w:zu):
 zw prog 235 #[.int zj m,zf a 0 A] w fun e w'=>e=.returned (.int zj m)/\∃n,w.drewN n=w':=by
 go_enter func235,ntmps235;go_wp2;go_ret;exact⟨rfl,0,rfl⟩
theorem Rl(m:Int)(a:Option Addr)(A B:Nat)(D:List Int)(w:zu)(G:cO w a A D)(H:0<A):
 zw prog 235 #[.int zj m,zf a A B] w fun e w'=>e=.returned (.int zj (if m<lm D A then lm D A else m))/\∃n,w.drewN n=w':=by
 have E:=yw (Nk a A B D w G H);have h1:((A:Int) == 0)=false:=by simp;omega
 clear G;generalize lm D A=v at*;rcases Int.lt_trichotomy m v with h|rfl|h
 .rw[if_pos h];go_enter func235,ntmps235;go_wp2_with (go_at_call 256;refine E.out.mono ?_;rintro e w' ⟨rfl,n,rfl⟩);go_ret;exact⟨rfl,_,rfl⟩
 .rw[if_neg (by omega)];go_enter func235,ntmps235;go_wp2_with (go_at_call 256;refine E.out.mono ?_;rintro e w' ⟨rfl,n,rfl⟩);go_ret;exact⟨rfl,_,rfl⟩
 .rw[if_neg (by omega)];go_enter func235,ntmps235;go_wp2_with (go_at_call 256;refine E.out.mono ?_;rintro e w' ⟨rfl,n,rfl⟩);go_ret;exact⟨rfl,_,rfl⟩
theorem dY(m:Int)(a:Option Addr)(A B:Nat)(D:List Int)(w:zu)(E:cO w a A D):
 zw prog 235 #[.int zj m,zf a A B] w fun e w'=>e=.returned (.int zj (eH m D))/\∃n,w.drewN n=w':=by
 unfold eH;rw[E.length];by_cases h:A=0
 .subst h;rw[if_pos rfl];exact Rk m a B w
 .rw[if_neg h];exact Rl m a A B D w E (by omega)
end Hg
end Go.Proofs.YtmpdpmhpkgbepaaGreatDoor
