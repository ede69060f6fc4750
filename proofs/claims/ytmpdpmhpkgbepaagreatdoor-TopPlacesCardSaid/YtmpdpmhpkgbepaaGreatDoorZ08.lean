/- Parts for TopPlaces. Conditions: as stated. -/
import Derived.RangeFuncBound
import Derived.RangeFuncCalls
import Derived.RangeFuncLeaves
import Derived.RangeFuncNested
import Derived.Test.YtmpdpmhpkgbepaaGreatDoorZ01
set_option linter.unusedVariables false
set_option maxRecDepth 100000
set_option maxHeartbeats 4000000
open Go renaming World->zu,Value->zz
namespace Go.Proofs.YtmpdpmhpkgbepaaGreatDoor
open Go Go.RowKit
variable {W:zu}{l:Nat}
variable {F : Fence} {n : Nat} {P : Program}
abbrev Bh(l:Nat)(st:LoopState)(A:Option Code)(fn:FuncId)(tmps:Array zz)(ps:Array Tmp)(assign body:Code):Loop:={ state:=st,pending:=A,fn:=fn,tmps:=tmps,params:=ps,assign:=assign,body:=body,defers:=l }
structure qm(W:zu)(l:Nat)(st:LoopState)(fn:FuncId)(tmps:Array zz)(ps:Array Tmp)(assign body:Code):Prop where
 r:W.heap[l+1]?=some (.loop (Bh l st none fn tmps ps assign body))
 d:W.heap[l]?=some (.deferred (some []))
theorem qm.lt{st:LoopState}{fn:FuncId}{tmps:Array zz}{ps:Array Tmp}{assign body:Code}(h:qm W l st fn tmps ps assign body):l+1<W.heap.size:=(yx h.r).1
theorem qm.RB{G:Nat->Prop}{B:zu}{st:LoopState}{fn:FuncId}{tmps:Array zz}{ps:Array Tmp}{assign body:Code}(h:qm W l st fn tmps ps assign body)(A:OA G W B)(E:¬G l)(D:¬G (l+1)):qm B l st fn tmps ps assign body:=
 ⟨(A.block _ h.lt D).trans h.r,(A.block _ (by have:=h.lt;omega) E).trans h.d⟩
def qr(W:zu)(l:Nat)(st:LoopState)(fn:FuncId)(tmps:Array zz)(ps:Array Tmp)(assign body:Code):zu:=W.putObj (l+1) (.loop (Bh l st none fn tmps ps assign body))
theorem yY(W:zu)(l:Nat)(st:LoopState)(fn:FuncId)(tmps:Array zz)(ps:Array Tmp)(assign body:Code){k:Nat}(hk:k≠l+1):(qr W l st fn tmps ps assign body).heap[k]?=W.heap[k]?:=World.putObj_heap_other hk
theorem yZ(W:zu)(l:Nat)(st:LoopState)(fn:FuncId)(tmps:Array zz)(ps:Array Tmp)(assign body:Code):OA (fun k=>k=l+1) W (qr W l st fn tmps ps assign body):=
 ⟨rfl,rfl,rfl,by simp[qr],fun k _ hk=>yY W l st fn tmps ps assign body hk⟩
theorem qm.put{st:LoopState}{fn:FuncId}{tmps:Array zz}{ps:Array Tmp}{assign body:Code}(h:qm W l st fn tmps ps assign body)(A:LoopState):qm (qr W l A fn tmps ps assign body) l A fn tmps ps assign body:=
 ⟨World.putObj_heap_same h.lt,(World.putObj_heap_other (by omega)).trans h.d⟩
def IN(l:Nat)(fn:FuncId)(tmps:Array zz)(ps:Array Tmp)(assign body:Code)(R:zu->Prop):Exit->Act->zu->Prop
 | .normal,_,W'=>qm W' l .busy fn tmps ps assign body/\R (qr W' l .ready fn tmps ps assign body)
 | _,_,_=>False
theorem vQ{fn:FuncId}{tmps:Array zz}{ps:Array Tmp}{assign body:Code}(I:F.fn fn)(E:qm W l .ready fn tmps ps assign body)(args:Array zz)(D:args.size=ps.size){R:zu->Prop}{a₁:Act}
 (A:∀K:Act->zu->Prop,K a₁ W->assign.wpIn (F.inRound (l+1)) n P (Exit.then K (fun _ _ _=>False)) { tmps:=(ps.zip args).foldl (fun t (p,v)=>t.setIfInBounds p v) tmps,defers:= [] } W)
 (hbody:body.wpIn (F.inRound (l+1)) n P (IN l fn tmps ps assign body R) a₁ (qr W l .busy fn tmps ps assign body)):
 YieldAt F n P (l+1) args W fun e H=>e=.returned (.bool true)/\qm H l .ready fn tmps ps assign body/\R H:=by
 have J:=run_yield (P:=P) (args:=args) E.r (by exact D);refine⟨fn,_,assign,body,J,roundIn_of_wpIn I (A _ ?_)⟩;refine⟨_,run_beginRound E.r rfl,?_⟩;refine wpIn_mono hbody ?_;rintro e a3 W3 B;cases e with
 | normal=>
  obtain⟨G,M⟩:=B;exact⟨_,_,run_endRound (P:=P) none G.r,rfl,G.put .ready,M⟩
 | ret=>exact B.elim
 | exit id=>exact B.elim
 | goto t=>exact B.elim
 | panic ch=>exact B.elim
 | outgrown=>exact B.elim
theorem xq{g:Operand}{ps:Array Tmp}{assign body:Code}{Q:Exit->Act->zu->Prop}{a:Act}{w:zu}
 (E:F.round=none) (U:F.depth.isSome=true->1<=n) {gf:Nat} {lb:Array zz} (T:a.eval g=.func (.func gf) #[] lb) (N:F.fn gf) (V:∀args w,(callFunc gf args).run P w=.ok (.enter gf args) w)
 (h:∀(fn:FuncId) (A:zu),F.fn fn->Below w.heap.size w A->qm A w.heap.size .ready fn a.tmps ps assign body->
  CallsIn F (n-1) P gf (#[.func (.yield (w.heap.size+1)) #[] #[]]++lb) A fun e H=>(∃v,e=.returned v)/\qm H w.heap.size .ready fn a.tmps ps assign body/\
   (∀W3,W3.heap[w.heap.size]?=some (.deferred (some []))->OA (fun k=>k=w.heap.size+1) H W3->Q .normal { a with defers:={ target:=.collected w.heap.size,args:=#[] }::a.defers } W3)):
 (Code.rangeFunc g ps assign body).wpIn F n P Q a w:=by
 refine wpIn_rangeFunc ?_;intro fn I;rw[E];obtain⟨A,B⟩:∃A,(w.alloc (.deferred (some []))).alloc (.loop (Bh w.heap.size .ready none fn a.tmps ps assign body))=A:=⟨_,rfl⟩
 have G:A.heap[w.heap.size+1]?=some (.loop (Bh w.heap.size .ready none fn a.tmps ps assign body)):=by rw[<-B];have:=World.alloc_heap_new (w.alloc (.deferred (some []))) (.loop (Bh w.heap.size .ready none fn a.tmps ps assign body));rwa[World.size_alloc]at this
 have M:A.heap[w.heap.size]?=some (.deferred (some [])):=by rw[<-B];exact(Below.heap_alloc _ _ _ (by simp)).trans (World.alloc_heap_new w _)
 have J:Below w.heap.size w A:=by rw[<-B];exact((Below.refl _ w).alloc (yA _) _).alloc (by simp) _
 refine⟨w.heap.size+1,[{ target:=.collected w.heap.size,args:=#[] }],A,{ target:=.fn (.func gf) lb,args:=#[.func (.yield (w.heap.size+1)) #[] #[]] },A,gf,
  #[.func (.yield (w.heap.size+1)) #[] #[]]++lb,A,?_,?_,?_,?_,U,?_⟩
 .rw[<-B];exact run_enterLoop_outer _ _ _ _ _
 .simp only[resolve,T];simp[go_sem]
 .intro f' D;simp[Target.leads]at D;subst D;exact N
 .simp[invoke,go_sem,V]
 .refine(h fn A I J ⟨G,M⟩).mono ?_;rintro e H ⟨⟨v,rfl⟩,O,R⟩;refine⟨none,_,run_endLoop (P:=P) O.r (by simp),?_⟩;exact R _ ((World.putObj_heap_other (by omega)).trans O.d) ⟨rfl,rfl,rfl,by simp,fun k _ hk=>World.putObj_heap_other hk⟩
end Go.Proofs.YtmpdpmhpkgbepaaGreatDoor
