/- Parts of the proof of the law TopKeeps: contracts of the functions that it reaches, and plain laws of what they compute. Conditions: those in each statement. -/
import Derived.Test.YtmpdpmhpkgbepaaGreatDoorM19
import Derived.Test.YtmpdpmhpkgbepaaGreatDoorM22
import Derived.Test.YtmpdpmhpkgbepaaGreatDoorM27
import Derived.Test.YtmpdpmhpkgbepaaGreatDoorM29
set_option linter.unusedVariables false
set_option maxRecDepth 100000
set_option maxHeartbeats 4000000
namespace Go.Proofs.YtmpdpmhpkgbepaaGreatDoor
open Go Go.RowKit Go.ChangeShapes Go.WideShapes
abbrev zqL:=Qt.Bd
structure Tk where
 hi:Nat
 hg:Int
 dead:Bool
 on:Bool
 p:Nat
 zpc:Nat
 nice:Int
 w:Int
 mask:Int
 e:En
 min:Int
structure Gp where
 hi:Nat
 hg:Int
 shares:Int
 quota:Int
 band:Option zqL
 line:List Nat
 there:Bool
structure Ck where
 lat:Int
 task:Int
 ran:Int
 busy:Int
 idle:Int
structure Bk where
 bt:Nat->Int
 bg:Nat->Int
 total:Int
 n:Nat
structure Sc where
 ps:Nat
 tick:Int
 gran:Int
 credit:Int
 lat:Int
 tree:Ps
 pool:Pi.Ps
 ts:List Tk
 gs:List Gp
 pl:Nat->Option Nat
 at_:Nat->Nat
 hs:Nat->Hm
 cs:Nat->Ck
 book:Bk
def zpt{α:Type}(f:Nat->α)(k:Nat)(x:α):Nat->α:=fun j=>if j=k then x else f j
theorem zy{α:Type}(f:Nat->α)(k:Nat)(x:α):zpt f k x k=x:=by simp[zpt]
theorem zA{α:Type}(f:Nat->α){k j:Nat}(x:α)(h:j≠k):zpt f k x j=f j:=by simp[zpt,h]
def tkz:Tk:=⟨0,0,true,false,0,0,0,0,0,⟨0,0,0,0⟩,0⟩
def ztc:Gp:=⟨0,0,0,0,none,[],false⟩
def Sc.t(s:Sc)(n:Nat):Tk:=s.ts.getD n tkz
def Sc.g(s:Sc)(n:Nat):Gp:=s.gs.getD n ztc
def Sc.zpf(s:Sc)(p:Nat)(h:Hm):Sc:={ s with hs:=zpt s.hs p h }
def Sc.zpG(s:Sc)(p:Nat)(c:Ck):Sc:={ s with cs:=zpt s.cs p c }
def Sc.zps(s:Sc)(n:Nat)(t:Tk):Sc:={ s with ts:=s.ts.set n t }
def Sc.zpd(s:Sc)(n:Nat)(g:Gp):Sc:={ s with gs:=s.gs.set n g }
def Hm.minOf(h:Hm)(g:Nat):Int:=match h.gs g with
 | none=>0
 | some x=>x.q.min
def Sc.sub(s:Sc)(a b:Nat):Bool:=zsj s.tree.l (s.g a).hi (s.g b).hi
def Sc.zpT(s:Sc)(g p:Nat):List Tk->Int
 | []=>0
 | t::r=>(if t.on=true/\t.p=p/\s.sub t.zpc g=true then t.w else 0)+s.zpT g p r
def Sc.load(s:Sc)(g p:Nat):Int:=s.zpT g p s.ts
def Sc.zqm(s:Sc):List Int:=(List.range s.ps).map (s.load 0)
def Sc.running(s:Sc)(p:Nat):Int:=if(s.hs p).running<0 then -1 else s.at_ (s.hs p).running.toNat
def Sc.zqd(s:Sc)(g:Nat):List Nat:=(zqT s.tree.l (s.g g).hi).map fun i=>(s.pl i).getD 0
def Sc.least(s:Sc)(n p:Nat):Int:=(s.hs p).minOf (s.g (s.t n).zpc).hi
def Sc.leave(s:Sc)(n:Nat):Sc:=
 ({ s with ts:=s.ts.set n { s.t n with min:=s.least n (s.t n).p,e:=(s.hs (s.t n).p).gone (s.g (s.t n).zpc).hi (s.t n).hi,on:=false } }:Sc).zpf (s.t n).p ((s.hs (s.t n).p).drop (s.g (s.t n).zpc).hi (s.t n).hi)
def Sc.zqP(s:Sc)(n p:Nat)(woke:Bool):Int:=
 let v:=if p=(s.t n).p then(s.t n).e.v else zco (s.t n).e.v (s.t n).min (s.least n p)
 if woke=true then zah v (s.least n p) s.credit else v
def Tk.zqj(t:Tk)(p:Nat)(v:Int):Tk:={ t with p:=p,on:=true,e:={ t.e with v:=v } }
def Sc.put(s:Sc)(n p:Nat)(woke:Bool):Sc:=
 ({ s with ts:=s.ts.set n ((s.t n).zqj p (s.zqP n p woke)) }:Sc).zpf p ((s.hs p).put (s.g (s.t n).zpc).hi ((s.t n).zqj p (s.zqP n p woke)).e)
def Gp.limited(g:Gp):Bool:=match g.band with
 | none=>false
 | some b=>decide (0<b.q)
def Sc.limited(s:Sc)(l:List Nat):List Nat:=l.filter fun g=>(s.g g).limited
def Gp.zpl(g:Gp)(b:zqL):Gp:={ g with band:=some b }
def Gp.zpm(g:Gp)(l:List Nat):Gp:={ g with line:=l }
def zJ(l:List Nat)(p:Nat):List Nat:=if p∈l∨l.length=64 then l else l++ [p]
def Sc.zpU(s:Sc)(g:Nat)(here:List Int):Nat->Sc
 | 0=>s
 | k+1=>let s':=s.zpU g here k;if 0<here.getD k 0 then s'.zpf k ((s'.hs k).zpo (s.g g).hi (xa (s.g g).shares (here.getD k 0) here.sum))else s'
def Sc.zpo(s:Sc)(g:Nat):Sc:=s.zpU g ((List.range s.ps).map (s.load g)) s.ps
def Sc.zpI(s:Sc):Nat->Sc
 | 0=>s
 | k+1=>let s':=s.zpI k;if k=0 then s' else match s'.pl k with
  | none=>s'
  | some g=>s'.zpo g
def zZ(b:zqL)(p:Nat):Int:=b.l.getD p 0
def Sc.zqf(s:Sc)(g:Nat):Nat->Sc
 | 0=>s
 | k+1=>let s':=s.zqf g k;match(s'.g g).band with
  | none=>s'
  | some b=>if s'.load g k=0 then s'.zpd g ((s'.g g).zpl (b.back k (zZ b k)))else s'
def Sc.serve(g:Nat):Nat->Sc->Sc
 | 0,s=>s
 | k+1,s=>match(s.g g).band,(s.g g).line with
  | some b,p::r=>if 0<b.pool then
   let s1:=s.zpd g (((s.g g).zpm r).zpl (b.zqv p (zZ b p)))
   if b.may (zZ b p)=true then Sc.serve g k (s1.zpf p ((s1.hs p).stop (s1.g g).hi false))
   else Sc.serve g k (s1.zpd g ((s1.g g).zpm (zJ r p)))else s
  | _,_=>s
def Sc.share(s:Sc)(g:Nat):Sc:=Sc.serve g 200 (s.zqf g s.ps)
def Sc.shares(s:Sc):List Nat->Sc
 | []=>s
 | g::r=>(s.share g).shares r
def Ck.begin(c:Ck)(n:Int):Ck:=if c.task=n then c else{ c with task:=n,ran:=0 }
def Sc.zpD(p:Nat):List Nat->Sc->Sc×Bool
 | [],s=>(s,true)
 | g::r,s=>match(s.g g).band with
  | none=>Sc.zpD p r s
  | some b=>
   let s1:=s.zpd g ((s.g g).zpl (b.zqv p (zZ b p)))
   if b.may (zZ b p)=true then Sc.zpD p r s1
   else
    let s2:=s1.zpd g ((s1.g g).zpm (zJ (s1.g g).line p))
    (s2.zpf p ((s2.hs p).stop (s2.g g).hi true),false)
def Sc.zpx(s:Sc)(p:Nat):Sc:=s.zpf p (s.hs p).pick.1
def Sc.choose(s:Sc)(p:Nat):Sc×Bool:=
 let s1:=s.zpx p
 if s1.running p= -1 then(s1.zpG p ((s1.cs p).begin (-1)),true)
 else
  let n:=(s1.running p).toNat
  let r:=Sc.zpD p (s1.limited (s1.zqd (s1.t n).zpc)) s1
  if r.2=true then(r.1.zpG p ((r.1.cs p).begin n),true)else(r.1,false)
def Sc.zpN(p:Nat):Nat->Sc->Sc
 | 0,s=>s
 | k+1,s=>if(s.choose p).2=true then(s.choose p).1 else Sc.zpN p k (s.choose p).1
def Sc.choice(s:Sc):Nat->Sc
 | 0=>s
 | p+1=>Sc.zpN p 40 (s.choice p)
def Sc.zrK(s:Sc):List Nat:=((List.range 31).filterMap fun i=>s.pl (i+1))
def Sc.settle(s:Sc):Sc:=
 let s1:=s.zpI 32
 let s2:=s1.shares (s1.limited s1.zrK)
 s2.choice s2.ps
structure Ev where
 kind:Int
 a:Int
 b:Int
 n:Int
 m:Int
 mask:Int
def Sc.grp?(s:Sc)(a:Int):Option Nat:=if 0<=a/\a<s.gs.length/\(s.g a.toNat).there=true then some a.toNat else none
def Sc.tsk?(s:Sc)(a:Int):Option Nat:=if 0<=a/\a<s.ts.length/\(s.t a.toNat).dead=false then some a.toNat else none
def Sc.zqM(s:Sc)(p:Int):Prop:=0<=p/\p<s.ps
instance (s:Sc)(p:Int):Decidable (s.zqM p):=by unfold Sc.zqM;exact inferInstance
def xg(n:Int):Bool:=decide (2<=n/\n<=262144)
abbrev Out:=Sc×Int×Int
def Sc.zpO(s:Sc)(u:Nat)(n:Int):Sc:=
 { s with
  tree:=s.tree.zrq (s.g u).hi (s.g u).hg
  gs:=s.gs++ [⟨s.tree.zqx (s.g u).hi (s.g u).hg,s.tree.zro (s.g u).hi (s.g u).hg,n,0,some ⟨0,0,0,0,List.replicate s.ps 0⟩,[],true⟩]
  pl:=zpt s.pl (s.tree.zqx (s.g u).hi (s.g u).hg) (some s.gs.length)
  hs:=fun p=>if p<s.ps then(s.hs p).link (s.tree.zqx (s.g u).hi (s.g u).hg) (s.g u).hi else s.hs p }
def Sc.grow(s:Sc)(e:Ev):Out:=match s.grp? e.a with
 | none=>(s,0,2)
 | some u=>if xg e.n=false then(s,0,4)else
  if s.tree.zq3 (s.g u).hi (s.g u).hg≠0 then(s,0,s.tree.zq3 (s.g u).hi (s.g u).hg)else(s.zpO u e.n,s.gs.length,0)
def Sc.zp3(s:Sc)(e:Ev):Out:=match s.grp? e.a with
 | none=>(s,0,2)
 | some g=>if e.a=0 then(s,0,1)else if xg e.n=false then(s,0,4)else(s.zpd g { s.g g with shares:=e.n },0,0)
def zdA(q m:Int):Bool:=decide (q<0∨1099511627776<q∨(q≠0/\(m<1∨1099511627776<m)))
def Sc.zqu(g:Nat):List Nat->Sc->Sc
 | [],s=>s
 | p::r,s=>Sc.zqu g r ((s.zpd g ((s.g g).zpm r)).zpf p ((s.hs p).stop (s.g g).hi false))
def Sc.zqH(s:Sc)(e:Ev):Out:=match s.grp? e.a with
 | none=>(s,0,2)
 | some g=>if e.a=0 then(s,0,1)else match(s.g g).band with
  | none=>(s,0,1)
  | some b=>if zdA e.n e.m=true then(s,0,1)else
   let s1:=s.zpd g { (s.g g).zpl (b.zqs e.n e.m)with quota:=e.n }
   (Sc.zqu g (s1.g g).line s1,0,0)
def Sc.zpF(s:Sc)(e:Ev):Out:=match s.grp? e.a with
 | none=>(s,0,2)
 | some g=>match(s.g g).band with
  | none=>(s,0,7)
  | some b=>if 0<b.q then(s.zpd g ((s.g g).zpl b.zpF),0,0)else(s,0,7)
def qH(mask:Int)(p:Nat):Bool:=decide (mask/2 ^ p%2=1)
def xm(l:List Int)(mask:Int):Nat->Option Nat
 | 0=>none
 | k+1=>match xm l mask k with
  | none=>if qH mask k=true then some k else none
  | some b=>if qH mask k=true/\l.getD k 0<l.getD b 0 then some k else some b
def uc(l:List Int)(mask:Int):Option Nat:=xm l mask l.length
def xc(l:List Int)(run:List Bool)(mask:Int)(p:Int):Bool:=decide (0<=p/\p<l.length) && (qH mask p.toNat && (decide (l.getD p.toNat 0=0) && !(run.getD p.toNat false)))
def yS(l:List Int)(run:List Bool)(prev:Int)(mask:Int):Option Nat:=match uc l mask with
 | none=>none
 | some least=>if xc l run mask prev=true then some prev.toNat else match(List.range l.length).find? fun p:Nat=>xc l run mask (p:Int)with
  | some p=>some p
  | none=>if 0<=prev/\prev<l.length/\qH mask prev.toNat=true/\l.getD prev.toNat 0<=l.getD least 0 then some prev.toNat else some least
def Sc.runs(s:Sc):List Bool:=(List.range s.ps).map fun p=>decide (s.running p≠ -1)
def Sc.free(s:Sc)(prev:Int)(mask:Int):Option Nat:=yS s.zqm s.runs prev mask
def qI(n:Int):Bool:=decide (-20<=n/\n<=19)
def Sc.zqo(s:Sc)(g p:Nat)(e:Ev):Sc:=
 { s with
  pool:=s.pool.put 64 s.ts.length
  ts:=s.ts++ [⟨s.pool.zp8 64,s.pool.zqC 64,false,false,p,g,e.n,xq e.n,e.mask,⟨s.pool.zp8 64,xq e.n,(s.hs p).minOf (s.g g).hi,0⟩,0⟩]
  at_:=zpt s.at_ (s.pool.zp8 64) s.ts.length }
def Sc.spawn(s:Sc)(e:Ev):Out:=match s.grp? e.a with
 | none=>(s,0,2)
 | some g=>if qI e.n=false then(s,0,1)else match s.free (-1) e.mask with
  | none=>(s,0,9)
  | some p=>if s.pool.zqe 64≠0 then(s,0,3)else((s.zqo g p e).put s.ts.length p false,s.ts.length,0)
def Sc.zrb(s:Sc)(e:Ev):Out:=match s.tsk? e.a with
 | none=>(s,0,2)
 | some n=>if(s.t n).on=true then(s,0,7)else match s.free (s.t n).p (s.t n).mask with
  | none=>(s.put n 0 true,0,0)
  | some p=>(s.put n p true,p,0)
def Sc.zqI(s:Sc)(e:Ev):Out:=match s.tsk? e.a with
 | none=>(s,0,2)
 | some n=>if qI e.n=false then(s,0,1)else
  if(s.t n).on=true then((s.zpf (s.t n).p ((s.hs (s.t n).p).nice (s.g (s.t n).zpc).hi (s.t n).hi (xq e.n))).zps n { s.t n with nice:=e.n,w:=xq e.n },0,0)
  else(s.zps n { s.t n with nice:=e.n,w:=xq e.n,e:={ (s.t n).e with rem:=(s.t n).e.rem*xq e.n/(s.t n).e.w,w:=xq e.n } },0,0)
def Sc.zqE(s:Sc)(e:Ev):Out:=match s.tsk? e.a with
 | none=>(s,0,2)
 | some n=>match s.free (-1) e.mask with
  | none=>(s,0,9)
  | some _=>
   let s1:=s.zps n { s.t n with mask:=e.mask }
   if(s.t n).on=true/\qH e.mask (s.t n).p=false then
    let s2:=s1.leave n
    match s2.free (-1) e.mask with
    | none=>(s2.put n 0 false,0,0)
    | some p=>(s2.put n p false,0,0)
   else(s1,0,0)
def Sc.zph(s:Sc)(a:Int):Int×Int:=if ¬s.zqM a then(0,1)else if s.running a.toNat= -1 then(0,7)else(s.running a.toNat,0)
def Sc.block(s:Sc)(e:Ev):Out:=if(s.zph e.a).2=0 then(s.leave (s.zph e.a).1.toNat,(s.zph e.a).1,0)else(s,0,(s.zph e.a).2)
def Sc.exit(s:Sc)(e:Ev):Out:=if(s.zph e.a).2=0 then
 let n:=(s.zph e.a).1.toNat
 let s1:=s.leave n
 ({ s1.zps n { s1.t n with dead:=true }with pool:=s1.pool.zsC (s1.t n).hi (s1.t n).hg },(s.zph e.a).1,0)else(s,0,(s.zph e.a).2)
def Sc.zqz(s:Sc)(e:Ev):Out:=if(s.zph e.a).2=0 then
 (s.zpf e.a.toNat (s.hs e.a.toNat).yield.1,s.at_ (s.hs e.a.toNat).yield.2.toNat,0)else(s,0,(s.zph e.a).2)
def Ck.rest(c:Ck)(ns:Int):Ck:={ c with idle:=c.idle+ns }
def Ck.serve(c:Ck)(ns:Int):Ck:={ c with ran:=c.ran+ns,busy:=c.busy+ns }
def zas(lat w load:Int):Int:=if load<=w then lat else if lat*w/load<1 then 1 else lat*w/load
def Bk.credit(b:Bk)(path:List Nat)(n:Nat)(ns:Int):Bk:=⟨zpt b.bt n (b.bt n+ns),fun g=>if g∈path then b.bg g+ns else b.bg g,b.total+ns,b.n+path.length+1⟩
def Sc.zpE(p:Nat)(ns:Int):List Nat->Sc->Sc
 | [],s=>s
 | g::r,s=>match(s.g g).band with
  | none=>Sc.zpE p ns r s
  | some b=>Sc.zpE p ns r (s.zpd g ((s.g g).zpl ((b.zpn p (zZ b p) ns).zqv p (b.left (zZ b p) ns))))
def Sc.zpz(s:Sc)(e:Ev):Out:=
 if ¬s.zqM e.a then(s,0,1)else if e.n<0∨s.tick<e.n then(s,0,8)else
  let p:=e.a.toNat
  if s.running p= -1 then(s.zpG p (if(s.cs p).task= -1 then(s.cs p).rest e.n else(s.cs p).serve e.n),-1,0)else
   let n:=(s.running p).toNat
   let zqd:=s.zqd (s.t n).zpc
   let s1:Sc:={ s with book:=s.book.credit (0::zqd) n e.n }
   let s2:=s1.zpf p ((s1.hs p).zpg e.n)
   let s3:=Sc.zpE p e.n (s2.limited zqd) s2
   let c:=if(s3.cs p).task= -1 then(s3.cs p).rest e.n else(s3.cs p).serve e.n
   let s4:=s3.zpG p c
   if c.task≠ -1/\zas c.lat (s.t n).w (s3.load 0 p)<=c.ran then((s4.zpf p (s4.hs p).yield.1).zpG p (c.begin (-1)),n,0)else(s4,n,0)
def root:Gp:=⟨0,0,0,0,none,[],true⟩
def Sc.new(ps:Nat)(tick gran credit lat:Int):Sc:=
 ⟨ps,tick,gran,credit,lat,zsJ,⟨[],-1,[],0⟩,[],[root],fun i=>if i=0 then some 0 else none,fun _=>0,fun _=>Hm.new credit gran,fun _=>⟨lat,-1,0,0,0⟩,⟨fun _=>0,fun _=>0,0,0⟩⟩
end Go.Proofs.YtmpdpmhpkgbepaaGreatDoor
