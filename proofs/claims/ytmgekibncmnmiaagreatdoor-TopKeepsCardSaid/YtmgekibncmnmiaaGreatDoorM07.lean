/- Parts of the proof of the law TopKeeps: contracts of the functions that it reaches, and plain laws of what they compute. Conditions: those in each statement. -/
import Derived.Maps.OwnSet
import Derived.Outline
import Derived.Test.YtmgekibncmnmiaaGreatDoorChecked
import Derived.Test.YtmgekibncmnmiaaGreatDoorM02
set_option linter.unusedVariables false
set_option maxRecDepth 100000
set_option maxHeartbeats 4000000
open Go.Proofs.Tryz
namespace Go.Proofs.YtmgekibncmnmiaaGreatDoor
open Go Go.RowKit Go.ChangeShapes Go.WideShapes
def zst:Value->Option (DataW Unit×List MemPlace)
 | .pointer none=>some (.nil,[])
 | .pointer (some ⟨b,0,none⟩)=>some (.lit (.int .i64 b),[])
 | _=>none
theorem znz:zst (.pointer none)=some (.nil,[]):=rfl
theorem znA(b:Nat):zst (.pointer (some ⟨b,0,none⟩))=some (.lit (.int .i64 b),[]):=rfl
theorem zhP{v:Value}{ps:List MemPlace}(h:zst v=some (.nil,ps)):v=.pointer none:=by
 unfold zst at h;split at h
 ·rfl
 ·cases h
 ·cases h
theorem zhQ{v:Value}{b:Nat}{ps:List MemPlace}(h:zst v=some (.lit (.int .i64 b),ps)):v=.pointer (some ⟨b,0,none⟩):=by
 unfold zst at h;split at h
 ·cases h
 ·rename_i c;simp only[Option.some.injEq,Prod.mk.injEq,DataW.lit.injEq,Lit.int.injEq,true_and]at h;have:c=b:=by omega
  rw[this]
 ·cases h
def zpY(k:Int):Prop:= -9223372036854775808<=k/\k<=9223372036854775807
theorem zpY.wf{k:Int}(h:zpY k):(Lit.int .i64 k).wf=true:=by unfold zpY at h;simp[Lit.wf,IntKind.min,IntKind.max,IntKind.signed,IntKind.bits];omega
theorem xw:Maps.Keyed prog 3:=Maps.int_keyed underlying3
theorem vF{k:Int}(h:zpY k):keyOf prog 3 (.int .i64 k)=some (.int .i64 k):=Maps.keyOf_int_mk underlying3 h.wf
def znB(x:Option Nat):DataW Unit:=match x with
 | none=>.nil
 | some b=>.lit (.int .i64 b)
structure qD(w:World)(b:Nat)(g:Int->Option Nat)(n:Nat):Prop where
 ex:∃D,w.ownsMap prog 3 zst b n D/\Maps.size D=n/\∀k,zpY k->(Maps.has D (.int .i64 k)=(g k).isSome/\D.atKey (.int .i64 k) .nil=znB (g k))
theorem qD.lt{w:World}{b n:Nat}{g:Int->Option Nat}(h:qD w b g n):b<w.heap.size:=by obtain⟨D,A,_⟩:=h.ex;exact A.lt
theorem qD.of{w w':World}{b n:Nat}{g:Int->Option Nat}(h:qD w b g n)(hb:w'.heap[b]?=w.heap[b]?):qD w' b g n:=by obtain⟨D,⟨es,clock,B,A⟩,E⟩:=h.ex;exact⟨D,⟨es,clock,hb.trans B,A⟩,E⟩
theorem zlz{H:Type}{w:World}{P:Program}{k:TypeId}{R:Value->Option (DataW H×List MemPlace)}{b n:Nat}{D:DataW H}(h:w.ownsMap P k R b n D):w.ownsMap P k R b (Maps.size D) D:=by obtain⟨es,clock,E,B,h3,A⟩:=h;refine⟨es,clock,E,B,?_,A⟩;rw[A];simp[Maps.size,length_sorted]
theorem zlA(w:World):(zeroValue 290).run prog w=.ok (.pointer none) w:=by kernel_rfl
theorem qD.look{w:World}{b n:Nat}{g:Int->Option Nat}(h:qD w b g n){k:Int}(B:zpY k):(Instr.lookup 213 (.map (some b)) (.int .i64 k) false).run prog w=.ok (.pointer ((g k).map fun b=>⟨b,0,none⟩)) w:=by
 obtain⟨D,G,h2,H⟩:=h.ex;obtain⟨v,ps,E,A⟩:=G.lookup xw underlying213 (zlA w) znz (vF B);rw[E];rw[(H k B).2]at A;cases hg:g k with
 | none=>rw[hg]at A;rw[zhP A];rfl
 | some c=>rw[hg]at A;rw[zhQ A];rfl
theorem qD.len{w:World}{b n:Nat}{g:Int->Option Nat}(h:qD w b g n)(ty:TypeId):(Builtin.len_ #[213] ty #[.map (some b)]).run prog w=.ok (.int .i64 n) w:=by obtain⟨D,B,A,h3⟩:=h.ex;rw[B.len underlying213 ty,A]
def yL(g:Int->Option Nat)(k:Int)(v:Option Nat):Int->Option Nat:=fun j=>if j=k then v else g j
theorem qR(g:Int->Option Nat)(k:Int)(v:Option Nat):yL g k v k=v:=by simp[yL]
theorem yO(g:Int->Option Nat){k j:Int}(v:Option Nat)(h:j≠k):yL g k v j=g j:=by simp[yL,h]
theorem zcZ(k:Int):WideAt.IsKeyLit (.int .i64 k):=trivial
theorem za0{j k:Int}(h:j≠k):Lit.int .i64 j≠Lit.int .i64 k:=fun e=>by injection e with _ e;exact h e
theorem qD.stored{w w1:World}{b n c m:Nat}{g:Int->Option Nat}{k:Int}{D:DataW Unit}(J:zpY k)(I:g k=none)(M:w.ownsMap prog 3 zst b n D)(H:Maps.size D=n)(G:∀k,zpY k->(Maps.has D (.int .i64 k)=(g k).isSome/\D.atKey (.int .i64 k) .nil=znB (g k)))
 (A:w1.ownsMap prog 3 zst b m (D.put (.int .i64 k) (.lit (.int .i64 c)))):qD w1 b (yL g k (some c)) (n+1):=by
 have E:=M.tidy xw;have B:Maps.size (D.put (.int .i64 k) (.lit (.int .i64 c)))=n+1:=by rw[Maps.size_put E,(G k J).1,I,H];rfl
 refine⟨_,?_,B,fun j N=>?_⟩
 ·have:=zlz A;rw[B]at this;exact this
 ·by_cases e:j=k
  ·subst e;rw[qR,Maps.has_put_same E.isMap (zcZ j),Maps.atKey_put_same E.isMap (zcZ j)];exact⟨rfl,rfl⟩
  ·rw[yO _ _ e,Maps.has_put_other (za0 e),Maps.atKey_put_other (za0 e)];exact G j N
theorem qD.dropped{w w1:World}{b n m c:Nat}{g:Int->Option Nat}{k:Int}{D:DataW Unit}(I:zpY k)(H:g k=some c)(M:w.ownsMap prog 3 zst b n D)(G:Maps.size D=n)(E:∀k,zpY k->(Maps.has D (.int .i64 k)=(g k).isSome/\D.atKey (.int .i64 k) .nil=znB (g k)))
 (A:w1.ownsMap prog 3 zst b m (D.del (.int .i64 k))):qD w1 b (yL g k none) (n-1):=by
 have J:=M.tidy xw;have B:Maps.size (D.del (.int .i64 k))=n-1:=by have:=Maps.size_del (k:=.int .i64 k) J;rw[(E k I).1,H,G]at this;simp at this;omega
 refine⟨_,?_,B,fun j N=>?_⟩
 ·have:=zlz A;rw[B]at this;exact this
 ·by_cases e:j=k
  ·subst e;rw[qR,Maps.atKey_del_same,Maps.has_del_same];exact⟨rfl,rfl⟩
  ·rw[yO _ _ e,Maps.has_del_other (za0 e),Maps.atKey_del_other (za0 e)];exact E j N
theorem qD.new(w:World):qD (w.alloc (.map #[] 0)) w.heap.size (fun _=>none) 0:=
 ⟨⟨_,World.ownsMap_made w prog 3 zst,rfl,fun k hk=>⟨rfl,rfl⟩⟩⟩
end Go.Proofs.YtmgekibncmnmiaaGreatDoor
