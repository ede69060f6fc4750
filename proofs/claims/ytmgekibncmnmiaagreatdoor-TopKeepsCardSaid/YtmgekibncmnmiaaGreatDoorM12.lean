/- Parts of the proof of the law TopKeeps: contracts of the functions that it reaches, and plain laws of what they compute. Conditions: those in each statement. -/
import Derived.RangeFuncBound
import Derived.RangeFuncCalls
import Derived.RangeFuncLeaves
import Derived.RangeFuncNested
import Derived.Test.YtmgekibncmnmiaaGreatDoorM02
set_option linter.unusedVariables false
set_option maxRecDepth 100000
set_option maxHeartbeats 4000000
namespace Go.Proofs.YtmgekibncmnmiaaGreatDoor
open Go Go.RowKit
variable {F : Fence} {n : Nat} {P : Program}
abbrev zbJ(l:Nat)(st:LoopState)(A:Option Code)(fn:FuncId)(tmps:Array Value)(ps:Array Tmp)(assign body:Code):Loop:={ state:=st,pending:=A,fn:=fn,tmps:=tmps,params:=ps,assign:=assign,body:=body,defers:=l }
structure yD(W:World)(l:Nat)(st:LoopState)(fn:FuncId)(tmps:Array Value)(ps:Array Tmp)(assign body:Code):Prop where
 r:W.heap[l+1]?=some (.loop (zbJ l st none fn tmps ps assign body))
 d:W.heap[l]?=some (.deferred (some []))
theorem yD.lt{W:World}{l:Nat}{st:LoopState}{fn:FuncId}{tmps:Array Value}{ps:Array Tmp}{assign body:Code}(h:yD W l st fn tmps ps assign body):l+1<W.heap.size:=(zd h.r).1
theorem yD.zpW{G:Nat->Prop}{W B:World}{l:Nat}{st:LoopState}{fn:FuncId}{tmps:Array Value}{ps:Array Tmp}{assign body:Code}(h:yD W l st fn tmps ps assign body)(A:zo8 G W B)(E:¬G l)(D:¬G (l+1)):yD B l st fn tmps ps assign body:=
 ⟨(A.block _ h.lt D).trans h.r,(A.block _ (by have:=h.lt;omega) E).trans h.d⟩
def yH(W:World)(l:Nat)(st:LoopState)(fn:FuncId)(tmps:Array Value)(ps:Array Tmp)(assign body:Code):World:=W.putObj (l+1) (.loop (zbJ l st none fn tmps ps assign body))
theorem zE(W:World)(l:Nat)(st:LoopState)(fn:FuncId)(tmps:Array Value)(ps:Array Tmp)(assign body:Code){k:Nat}(A:k≠l+1):(yH W l st fn tmps ps assign body).heap[k]?=W.heap[k]?:=World.putObj_heap_other A
theorem zF(W:World)(l:Nat)(st:LoopState)(fn:FuncId)(tmps:Array Value)(ps:Array Tmp)(assign body:Code):zo8 (fun k=>k=l+1) W (yH W l st fn tmps ps assign body):=
 ⟨rfl,rfl,rfl,by simp[yH],fun k _ A=>zE W l st fn tmps ps assign body A⟩
theorem yD.put{W:World}{l:Nat}{st:LoopState}{fn:FuncId}{tmps:Array Value}{ps:Array Tmp}{assign body:Code}(h:yD W l st fn tmps ps assign body)(A:LoopState):yD (yH W l A fn tmps ps assign body) l A fn tmps ps assign body:=
 ⟨World.putObj_heap_same h.lt,(World.putObj_heap_other (by omega)).trans h.d⟩
def znP(l:Nat)(fn:FuncId)(tmps:Array Value)(ps:Array Tmp)(assign body:Code)(R:World->Prop):Exit->Act->World->Prop
 | .normal,_,W'=>yD W' l .busy fn tmps ps assign body/\R (yH W' l .ready fn tmps ps assign body)
 | _,_,_=>False
theorem xF{fn:FuncId}{W:World}{l:Nat}{tmps:Array Value}{ps:Array Tmp}{assign body:Code}(H:F.fn fn)(D:yD W l .ready fn tmps ps assign body)(args:Array Value)(B:args.size=ps.size){R:World->Prop}{a₁:Act}
 (A:∀K:Act->World->Prop,K a₁ W->assign.wpIn (F.inRound (l+1)) n P (Exit.then K (fun _ _ _=>False)) { tmps:=(ps.zip args).foldl (fun t (p,v)=>t.setIfInBounds p v) tmps,defers:= [] } W)
 (hbody:body.wpIn (F.inRound (l+1)) n P (znP l fn tmps ps assign body R) a₁ (yH W l .busy fn tmps ps assign body)):
 YieldAt F n P (l+1) args W fun e G=>e=.returned (.bool true)/\yD G l .ready fn tmps ps assign body/\R G:=by
 have I:=run_yield (P:=P) (args:=args) D.r (by exact B);refine⟨fn,_,assign,body,I,roundIn_of_wpIn H (A _ ?_)⟩;refine⟨_,run_beginRound D.r rfl,?_⟩;refine wpIn_mono hbody ?_;rintro e a3 W3 hp;cases e with
 | normal=>
  obtain⟨E,J⟩:=hp;exact⟨_,_,run_endRound (P:=P) none E.r,rfl,E.put .ready,J⟩
 | ret=>exact hp.elim
 | exit id=>exact hp.elim
 | goto t=>exact hp.elim
 | panic ch=>exact hp.elim
 | outgrown=>exact hp.elim
theorem zR{g:Operand}{ps:Array Tmp}{assign body:Code}{Q:Exit->Act->World->Prop}{a:Act}{w:World}
 (E:F.round=none) (V:F.depth.isSome=true->1<=n) {gf:Nat} {lb:Array Value} (T:a.eval g=.func (.func gf) #[] lb) (N:F.fn gf) (X:∀args w,(callFunc gf args).run P w=.ok (.enter gf args) w)
 (h:∀(fn:FuncId) (A:World),F.fn fn->Below w.heap.size w A->yD A w.heap.size .ready fn a.tmps ps assign body->
  CallsIn F (n-1) P gf (#[.func (.yield (w.heap.size+1)) #[] #[]]++lb) A fun e H=>(∃v,e=.returned v)/\yD H w.heap.size .ready fn a.tmps ps assign body/\
   (∀W3,W3.heap[w.heap.size]?=some (.deferred (some []))->zo8 (fun k=>k=w.heap.size+1) H W3->Q .normal { a with defers:={ target:=.collected w.heap.size,args:=#[] }::a.defers } W3)):
 (Code.rangeFunc g ps assign body).wpIn F n P Q a w:=by
 refine wpIn_rangeFunc ?_;intro fn I;rw[E];obtain⟨A,B⟩:∃A,(w.alloc (.deferred (some []))).alloc (.loop (zbJ w.heap.size .ready none fn a.tmps ps assign body))=A:=⟨_,rfl⟩
 have G:A.heap[w.heap.size+1]?=some (.loop (zbJ w.heap.size .ready none fn a.tmps ps assign body)):=by rw[<-B];have:=World.alloc_heap_new (w.alloc (.deferred (some []))) (.loop (zbJ w.heap.size .ready none fn a.tmps ps assign body));rwa[World.size_alloc]at this
 have M:A.heap[w.heap.size]?=some (.deferred (some [])):=by rw[<-B];exact(Below.heap_alloc _ _ _ (by simp)).trans (World.alloc_heap_new w _)
 have J:Below w.heap.size w A:=by rw[<-B];exact((Below.refl _ w).alloc (zg _) _).alloc (by simp) _
 refine⟨w.heap.size+1,[{ target:=.collected w.heap.size,args:=#[] }],A,{ target:=.fn (.func gf) lb,args:=#[.func (.yield (w.heap.size+1)) #[] #[]] },A,gf,
  #[.func (.yield (w.heap.size+1)) #[] #[]]++lb,A,?_,?_,?_,?_,V,?_⟩
 ·rw[<-B];exact run_enterLoop_outer _ _ _ _ _
 ·simp only[resolve,T];simp[go_sem]
 ·intro f' D;simp[Target.leads]at D;subst D;exact N
 ·simp[invoke,go_sem,X]
 ·refine(h fn A I J ⟨G,M⟩).mono ?_;rintro e H ⟨⟨v,rfl⟩,O,R⟩;refine⟨none,_,run_endLoop (P:=P) O.r (by simp),?_⟩;exact R _ ((World.putObj_heap_other (by omega)).trans O.d) ⟨rfl,rfl,rfl,by simp,fun k _ U=>World.putObj_heap_other U⟩
end Go.Proofs.YtmgekibncmnmiaaGreatDoor
