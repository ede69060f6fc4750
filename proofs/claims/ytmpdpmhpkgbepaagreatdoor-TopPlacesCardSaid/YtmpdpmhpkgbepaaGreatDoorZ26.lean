/- Parts for TopPlaces. Conditions: as stated. -/
import Derived.Test.YtmpdpmhpkgbepaaGreatDoorZ14
import Derived.Test.YtmpdpmhpkgbepaaGreatDoorZ16
import Derived.Test.YtmpdpmhpkgbepaaGreatDoorZ22
import Derived.Test.YtmpdpmhpkgbepaaGreatDoorZ24
set_option linter.unusedVariables false
set_option maxRecDepth 100000
set_option maxHeartbeats 4000000
open Go.Value renaming pointer->ze
open Option renaming some->zo,none->zp,map_some->zA
open Bool renaming true->zq,false->zt
open Go.World renaming cell?_setCell_other->zB
open List renaming range->yi
open Go.Proofs.Tryz
namespace Go.Proofs.YtmpdpmhpkgbepaaGreatDoor
open Go Go.RowKit Go.ChangeShapes Go.WideShapes
attribute [local go_sem ↓] Go.wp_at_zero Go.wp_at_succ
abbrev TL:=Qt.Bd
structure Tk where
 hi:Nat
 hg:Int
 dead:Bool
 on:Bool
 p:Nat
 OG:Nat
 nice:Int
 w:Int
 mask:Int
 e:En
 min:Int
structure Gp where
 hi:Nat
 hg:Int
 shares:Int
 quota:Int
 band:Option TL
 line:List Nat
 there:Bool
structure Ck where
 lat:Int
 task:Int
 ran:Int
 busy:Int
 idle:Int
structure Bk where
 bt:Nat->Int
 bg:Nat->Int
 total:Int
 n:Nat
structure Sc where
 ps:Nat
 tick:Int
 gran:Int
 credit:Int
 lat:Int
 tree:Ps
 pool:Pi.Ps
 ts:List Tk
 gs:List Gp
 pl:Nat->Option Nat
 at_:Nat->Nat
 hs:Nat->Hm
 cs:Nat->Ck
 book:Bk
def OV{α:Type}(f:Nat->α)(k:Nat)(x:α):Nat->α:=fun j=>if j=k then x else f j
theorem yR{α:Type}(f:Nat->α)(k:Nat)(x:α):OV f k x k=x:=by simp[OV]
theorem yQ{α:Type}(f:Nat->α){k j:Nat}(x:α)(h:j≠k):OV f k x j=f j:=by simp[OV,h]
def tkz:Tk:=⟨0,0,zq,zt,0,0,0,0,0,⟨0,0,0,0⟩,0⟩
def gL:Gp:=⟨0,0,0,0,zp,[],zt⟩
def Sc.t(s:Sc)(n:Nat):Tk:=s.ts.getD n tkz
def Sc.g(s:Sc)(n:Nat):Gp:=s.gs.getD n gL
def Sc.OM(s:Sc)(p:Nat)(h:Hm):Sc:={ s with hs:=OV s.hs p h }
def Sc.PZ(s:Sc)(p:Nat)(c:Ck):Sc:={ s with cs:=OV s.cs p c }
def Sc.OY(s:Sc)(n:Nat)(t:Tk):Sc:={ s with ts:=s.ts.set n t }
def Sc.OF(s:Sc)(n:Nat)(g:Gp):Sc:={ s with gs:=s.gs.set n g }
def Hm.minOf(h:Hm)(g:Nat):Int:=match h.gs g with
 | none=>0
 | some x=>x.q.min
def Sc.sub(s:Sc)(a b:Nat):Bool:=RI s.tree.l (s.g a).hi (s.g b).hi
def Sc.RC(s:Sc)(g p:Nat):List Tk->Int
 | []=>0
 | t::r=>(if t.on=zq/\t.p=p/\s.sub t.OG g=zq then t.w else 0)+s.RC g p r
def Sc.load(s:Sc)(g p:Nat):Int:=s.RC g p s.ts
def Sc.OZ(s:Sc):List Int:=(yi s.ps).map (s.load 0)
def Sc.running(s:Sc)(p:Nat):Int:=if(s.hs p).running<0 then -1 else s.at_ (s.hs p).running.toNat
def Sc.SP(s:Sc)(g:Nat):List Nat:=(AF s.tree.l (s.g g).hi).map fun i=>(s.pl i).getD 0
def Sc.least(s:Sc)(n p:Nat):Int:=(s.hs p).minOf (s.g (s.t n).OG).hi
def Sc.leave(s:Sc)(n:Nat):Sc:=
 ({ s with ts:=s.ts.set n { s.t n with min:=s.least n (s.t n).p,e:=(s.hs (s.t n).p).gone (s.g (s.t n).OG).hi (s.t n).hi,on:=zt } }:Sc).OM (s.t n).p ((s.hs (s.t n).p).drop (s.g (s.t n).OG).hi (s.t n).hi)
def Sc.TP(s:Sc)(n p:Nat)(woke:Bool):Int:=
 let v:=if p=(s.t n).p then(s.t n).e.v else uP (s.t n).e.v (s.t n).min (s.least n p)
 if woke=zq then Je v (s.least n p) s.credit else v
def Tk.SF(t:Tk)(p:Nat)(v:Int):Tk:={ t with p:=p,on:=zq,e:={ t.e with v:=v } }
def Sc.put(s:Sc)(n p:Nat)(woke:Bool):Sc:=
 ({ s with ts:=s.ts.set n ((s.t n).SF p (s.TP n p woke)) }:Sc).OM p ((s.hs p).put (s.g (s.t n).OG).hi ((s.t n).SF p (s.TP n p woke)).e)
def Gp.limited(g:Gp):Bool:=match g.band with
 | none=>zt
 | some b=>decide (0<b.q)
def Sc.limited(s:Sc)(l:List Nat):List Nat:=l.filter fun g=>(s.g g).limited
def Gp.ON(g:Gp)(b:TL):Gp:={ g with band:=zo b }
def Gp.OP(g:Gp)(l:List Nat):Gp:={ g with line:=l }
def xe(l:List Nat)(p:Nat):List Nat:=if p∈l∨l.length=64 then l else l++ [p]
def Sc.RE(s:Sc)(g:Nat)(A:List Int):Nat->Sc
 | 0=>s
 | k+1=>let s':=s.RE g A k;if 0<A.getD k 0 then s'.OM k ((s'.hs k).OT (s.g g).hi (qS (s.g g).shares (A.getD k 0) A.sum))else s'
def Sc.OT(s:Sc)(g:Nat):Sc:=s.RE g ((yi s.ps).map (s.load g)) s.ps
def Sc.PO(s:Sc):Nat->Sc
 | 0=>s
 | k+1=>let s':=s.PO k;if k=0 then s' else match s'.pl k with
  | none=>s'
  | some g=>s'.OT g
def xA(b:TL)(p:Nat):Int:=b.l.getD p 0
def Sc.SE(s:Sc)(g:Nat):Nat->Sc
 | 0=>s
 | k+1=>let s':=s.SE g k;match(s'.g g).band with
  | none=>s'
  | some b=>if s'.load g k=0 then s'.OF g ((s'.g g).ON (b.back k (xA b k)))else s'
def Sc.serve(g:Nat):Nat->Sc->Sc
 | 0,s=>s
 | k+1,s=>match(s.g g).band,(s.g g).line with
  | some b,p::r=>if 0<b.pool then
   let s1:=s.OF g (((s.g g).OP r).ON (b.SQ p (xA b p)))
   if b.may (xA b p)=zq then Sc.serve g k (s1.OM p ((s1.hs p).stop (s1.g g).hi zt))
   else Sc.serve g k (s1.OF g ((s1.g g).OP (xe r p)))else s
  | _,_=>s
def Sc.share(s:Sc)(g:Nat):Sc:=Sc.serve g 200 (s.SE g s.ps)
def Sc.shares(s:Sc):List Nat->Sc
 | []=>s
 | g::r=>(s.share g).shares r
def Ck.begin(c:Ck)(n:Int):Ck:=if c.task=n then c else{ c with task:=n,ran:=0 }
def Sc.PL(p:Nat):List Nat->Sc->Sc×Bool
 | [],s=>(s,zq)
 | g::r,s=>match(s.g g).band with
  | none=>Sc.PL p r s
  | some b=>
   let s1:=s.OF g ((s.g g).ON (b.SQ p (xA b p)))
   if b.may (xA b p)=zq then Sc.PL p r s1
   else
    let s2:=s1.OF g ((s1.g g).OP (xe (s1.g g).line p))
    (s2.OM p ((s2.hs p).stop (s2.g g).hi zq),zt)
def Sc.PH(s:Sc)(p:Nat):Sc:=s.OM p (s.hs p).pick.1
def Sc.choose(s:Sc)(p:Nat):Sc×Bool:=
 let s1:=s.PH p
 if s1.running p= -1 then(s1.PZ p ((s1.cs p).begin (-1)),zq)
 else
  let n:=(s1.running p).toNat
  let r:=Sc.PL p (s1.limited (s1.SP (s1.t n).OG)) s1
  if r.2=zq then(r.1.PZ p ((r.1.cs p).begin n),zq)else(r.1,zt)
def Sc.PY(p:Nat):Nat->Sc->Sc
 | 0,s=>s
 | k+1,s=>if(s.choose p).2=zq then(s.choose p).1 else Sc.PY p k (s.choose p).1
def Sc.choice(s:Sc):Nat->Sc
 | 0=>s
 | p+1=>Sc.PY p 40 (s.choice p)
def Sc.cF(s:Sc):List Nat:=((yi 31).filterMap fun i=>s.pl (i+1))
def Sc.settle(s:Sc):Sc:=
 let s1:=s.PO 32
 let s2:=s1.shares (s1.limited s1.cF)
 s2.choice s2.ps
structure Ev where
 kind:Int
 a:Int
 b:Int
 n:Int
 m:Int
 mask:Int
def Sc.grp?(s:Sc)(a:Int):Option Nat:=if 0<=a/\a<s.gs.length/\(s.g a.toNat).there=zq then zo a.toNat else zp
def Sc.tsk?(s:Sc)(a:Int):Option Nat:=if 0<=a/\a<s.ts.length/\(s.t a.toNat).dead=zt then zo a.toNat else zp
def Sc.TN(s:Sc)(p:Int):Prop:=0<=p/\p<s.ps
instance (s:Sc)(p:Int):Decidable (s.TN p):=by unfold Sc.TN;exact inferInstance
def vm(n:Int):Bool:=decide (2<=n/\n<=262144)
abbrev Out:=Sc×Int×Int
def Sc.bT(s:Sc)(u:Nat)(n:Int):Sc:=
 { s with
  tree:=s.tree.cT (s.g u).hi (s.g u).hg
  gs:=s.gs++ [⟨s.tree.TO (s.g u).hi (s.g u).hg,s.tree.cA (s.g u).hi (s.g u).hg,n,0,zo ⟨0,0,0,0,List.replicate s.ps 0⟩,[],zq⟩]
  pl:=OV s.pl (s.tree.TO (s.g u).hi (s.g u).hg) (zo s.gs.length)
  hs:=fun p=>if p<s.ps then(s.hs p).link (s.tree.TO (s.g u).hi (s.g u).hg) (s.g u).hi else s.hs p }
def Sc.grow(s:Sc)(e:Ev):Out:=match s.grp? e.a with
 | none=>(s,0,2)
 | some u=>if vm e.n=zt then(s,0,4)else
  if s.tree.AK (s.g u).hi (s.g u).hg≠0 then(s,0,s.tree.AK (s.g u).hi (s.g u).hg)else(s.bT u e.n,s.gs.length,0)
def Sc.RX(s:Sc)(e:Ev):Out:=match s.grp? e.a with
 | none=>(s,0,2)
 | some g=>if e.a=0 then(s,0,1)else if vm e.n=zt then(s,0,4)else(s.OF g { s.g g with shares:=e.n },0,0)
def Gt(q m:Int):Bool:=decide (q<0∨1099511627776<q∨(q≠0/\(m<1∨1099511627776<m)))
def Sc.SN(g:Nat):List Nat->Sc->Sc
 | [],s=>s
 | p::r,s=>Sc.SN g r ((s.OF g ((s.g g).OP r)).OM p ((s.hs p).stop (s.g g).hi zt))
def Sc.TQ(s:Sc)(e:Ev):Out:=match s.grp? e.a with
 | none=>(s,0,2)
 | some g=>if e.a=0 then(s,0,1)else match(s.g g).band with
  | none=>(s,0,1)
  | some b=>if Gt e.n e.m=zq then(s,0,1)else
   let s1:=s.OF g { (s.g g).ON (b.SR e.n e.m)with quota:=e.n }
   (Sc.SN g (s1.g g).line s1,0,0)
def Sc.PM(s:Sc)(e:Ev):Out:=match s.grp? e.a with
 | none=>(s,0,2)
 | some g=>match(s.g g).band with
  | none=>(s,0,7)
  | some b=>if 0<b.q then(s.OF g ((s.g g).ON b.PM),0,0)else(s,0,7)
def qN(mask:Int)(p:Nat):Bool:=decide (mask/2 ^ p%2=1)
def qy(l:List Int)(mask:Int):Nat->Option Nat
 | 0=>zp
 | k+1=>match qy l mask k with
  | none=>if qN mask k=zq then zo k else zp
  | some b=>if qN mask k=zq/\l.getD k 0<l.getD b 0 then zo k else zo b
def vw(l:List Int)(mask:Int):Option Nat:=qy l mask l.length
def qF(l:List Int)(A:List Bool)(mask:Int)(p:Int):Bool:=decide (0<=p/\p<l.length) && (qN mask p.toNat && (decide (l.getD p.toNat 0=0) && !(A.getD p.toNat zt)))
def xR(l:List Int)(B:List Bool)(A:Int)(mask:Int):Option Nat:=match vw l mask with
 | none=>zp
 | some least=>if qF l B mask A=zq then zo A.toNat else match(yi l.length).find? fun p:Nat=>qF l B mask (p:Int)with
  | some p=>zo p
  | none=>if 0<=A/\A<l.length/\qN mask A.toNat=zq/\l.getD A.toNat 0<=l.getD least 0 then zo A.toNat else zo least
def Sc.runs(s:Sc):List Bool:=(yi s.ps).map fun p=>decide (s.running p≠ -1)
def Sc.free(s:Sc)(A:Int)(mask:Int):Option Nat:=xR s.OZ s.runs A mask
def uL(n:Int):Bool:=decide (-20<=n/\n<=19)
def Sc.SO(s:Sc)(g p:Nat)(e:Ev):Sc:=
 { s with
  pool:=s.pool.put 64 s.ts.length
  ts:=s.ts++ [⟨s.pool.RL 64,s.pool.SU 64,zt,zt,p,g,e.n,vd e.n,e.mask,⟨s.pool.RL 64,vd e.n,(s.hs p).minOf (s.g g).hi,0⟩,0⟩]
  at_:=OV s.at_ (s.pool.RL 64) s.ts.length }
def Sc.spawn(s:Sc)(e:Ev):Out:=match s.grp? e.a with
 | none=>(s,0,2)
 | some g=>if uL e.n=zt then(s,0,1)else match s.free (-1) e.mask with
  | none=>(s,0,9)
  | some p=>if s.pool.SD 64≠0 then(s,0,3)else((s.SO g p e).put s.ts.length p zt,s.ts.length,0)
def Sc.AL(s:Sc)(e:Ev):Out:=match s.tsk? e.a with
 | none=>(s,0,2)
 | some n=>if(s.t n).on=zq then(s,0,7)else match s.free (s.t n).p (s.t n).mask with
  | none=>(s.put n 0 zq,0,0)
  | some p=>(s.put n p zq,p,0)
def Sc.TR(s:Sc)(e:Ev):Out:=match s.tsk? e.a with
 | none=>(s,0,2)
 | some n=>if uL e.n=zt then(s,0,1)else
  if(s.t n).on=zq then((s.OM (s.t n).p ((s.hs (s.t n).p).nice (s.g (s.t n).OG).hi (s.t n).hi (vd e.n))).OY n { s.t n with nice:=e.n,w:=vd e.n },0,0)
  else(s.OY n { s.t n with nice:=e.n,w:=vd e.n,e:={ (s.t n).e with rem:=(s.t n).e.rem*vd e.n/(s.t n).e.w,w:=vd e.n } },0,0)
def Sc.TJ(s:Sc)(e:Ev):Out:=match s.tsk? e.a with
 | none=>(s,0,2)
 | some n=>match s.free (-1) e.mask with
  | none=>(s,0,9)
  | some _=>
   let s1:=s.OY n { s.t n with mask:=e.mask }
   if(s.t n).on=zq/\qN e.mask (s.t n).p=zt then
    let s2:=s1.leave n
    match s2.free (-1) e.mask with
    | none=>(s2.put n 0 zt,0,0)
    | some p=>(s2.put n p zt,0,0)
   else(s1,0,0)
def Sc.OI(s:Sc)(a:Int):Int×Int:=if ¬s.TN a then(0,1)else if s.running a.toNat= -1 then(0,7)else(s.running a.toNat,0)
def Sc.block(s:Sc)(e:Ev):Out:=if(s.OI e.a).2=0 then(s.leave (s.OI e.a).1.toNat,(s.OI e.a).1,0)else(s,0,(s.OI e.a).2)
def Sc.exit(s:Sc)(e:Ev):Out:=if(s.OI e.a).2=0 then
 let n:=(s.OI e.a).1.toNat
 let s1:=s.leave n
 ({ s1.OY n { s1.t n with dead:=zq }with pool:=s1.pool.bB (s1.t n).hi (s1.t n).hg },(s.OI e.a).1,0)else(s,0,(s.OI e.a).2)
def Sc.TH(s:Sc)(e:Ev):Out:=if(s.OI e.a).2=0 then
 (s.OM e.a.toNat (s.hs e.a.toNat).yield.1,s.at_ (s.hs e.a.toNat).yield.2.toNat,0)else(s,0,(s.OI e.a).2)
def Ck.rest(c:Ck)(ns:Int):Ck:={ c with idle:=c.idle+ns }
def Ck.serve(c:Ck)(ns:Int):Ck:={ c with ran:=c.ran+ns,busy:=c.busy+ns }
def Js(lat w load:Int):Int:=if load<=w then lat else if lat*w/load<1 then 1 else lat*w/load
def Bk.credit(b:Bk)(A:List Nat)(n:Nat)(ns:Int):Bk:=⟨OV b.bt n (b.bt n+ns),fun g=>if g∈A then b.bg g+ns else b.bg g,b.total+ns,b.n+A.length+1⟩
def Sc.PT(p:Nat)(ns:Int):List Nat->Sc->Sc
 | [],s=>s
 | g::r,s=>match(s.g g).band with
  | none=>Sc.PT p ns r s
  | some b=>Sc.PT p ns r (s.OF g ((s.g g).ON ((b.OW p (xA b p) ns).SQ p (b.left (xA b p) ns))))
def Sc.PP(s:Sc)(e:Ev):Out:=
 if ¬s.TN e.a then(s,0,1)else if e.n<0∨s.tick<e.n then(s,0,8)else
  let p:=e.a.toNat
  if s.running p= -1 then(s.PZ p (if(s.cs p).task= -1 then(s.cs p).rest e.n else(s.cs p).serve e.n),-1,0)else
   let n:=(s.running p).toNat
   let SP:=s.SP (s.t n).OG
   let s1:Sc:={ s with book:=s.book.credit (0::SP) n e.n }
   let s2:=s1.OM p ((s1.hs p).OK e.n)
   let s3:=Sc.PT p e.n (s2.limited SP) s2
   let c:=if(s3.cs p).task= -1 then(s3.cs p).rest e.n else(s3.cs p).serve e.n
   let s4:=s3.PZ p c
   if c.task≠ -1/\Js c.lat (s.t n).w (s3.load 0 p)<=c.ran then((s4.OM p (s4.hs p).yield.1).PZ p (c.begin (-1)),n,0)else(s4,n,0)
def root:Gp:=⟨0,0,0,0,zp,[],zq⟩
def Sc.new(ps:Nat)(tick gran credit lat:Int):Sc:=
 ⟨ps,tick,gran,credit,lat,eY,⟨[],-1,[],0⟩,[],[root],fun i=>if i=0 then zo 0 else zp,fun _=>0,fun _=>Hm.new credit gran,fun _=>⟨lat,-1,0,0,0⟩,⟨fun _=>0,fun _=>0,0,0⟩⟩
end Go.Proofs.YtmpdpmhpkgbepaaGreatDoor
namespace Go.Proofs.YtmpdpmhpkgbepaaGreatDoor
open Go
variable {k u:Nat}{h:Hm}{z x:Gr}{l:List Pl}
def Hm.unlink(h:Hm)(g:Nat):Hm:={ h with gs:=fun k=>if k=g then zp else h.gs k }
theorem qL(h:Hm){g:Nat}(A:k≠g):(h.unlink g).gs k=h.gs k:=by simp[Hm.unlink,A]
theorem Wa(h:Hm)(g:Nat):(h.unlink g).gs g=zp:=by simp[Hm.unlink]
theorem xU{g:Nat}(A:(h.unlink g).gs k=zo z):k≠g/\h.gs k=zo z:=by
 by_cases e:k=g
 .subst e;rw[Wa]at A;cases A
 .rw[qL h e]at A;exact⟨e,A⟩
theorem Mv(hk:h.Ok){g:Nat}(O:g≠0)(M:h.gs g=zo x)(G:x.on=zt)(E:∀c y,h.gs c=zo y->y.up≠g):(h.unlink g).Ok:=by
 refine⟨?_,fun k z A=>hk.TG k z (xU A).2,?_,fun k z A=>hk.deep k z (xU A).2,fun k z A=>hk.own k z (xU A).2,fun k z A=>hk.q k z (xU A).2,?_,?_⟩
 .obtain⟨r,I⟩:=hk.root;exact⟨r,by rw[qL h (Ne.symm O)];exact I.1,I.2⟩
 .intro k z A H;obtain⟨u,y,J,D,hd⟩:=hk.up k z (xU A).2 H;refine⟨u,y,J,?_,hd⟩;rw[qL h (by rintro rfl;exact E k z (xU A).2 J)];exact D
 .intro k z c A N;obtain⟨y,D,B⟩:=hk.eJ k z c (xU A).2 N;by_cases e:c=g
  .subst e;rw[M]at D;cases D;have:=(hk.on k z c x (xU A).2 M B).1 N;rw[G]at this;cases this
  .exact⟨y,by rw[qL h e];exact D,B⟩
 .intro k z c y A D B;exact hk.on k z c y (xU A).2 (xU D).2 B
theorem ZI(A:h.PD)(g:Nat):(h.unlink g).PD:=fun k z B hk=>A k z (xU B).2 hk
theorem GQ(A:h.PD){g:Nat}(D:g≠0)(E:h.gs g=zo x)(B:x.q.l= []):x.on=zt:=by rw[A g x E D];unfold Gr.OQ;rw[B];simp
theorem ZJ{x:Qu}(h:∀i,¬x.has i):x.l= []:=by
 cases hl:x.l with
 | nil=>rfl
 | cons a r=>exact absurd ⟨a,by rw[hl];exact List.mem_cons_self,rfl⟩ (h a.id)
theorem Mw{x:Qu}(A:x.Ok){i:Int}(h:x.has i):∃k:Nat,i=2*k∨i=2*k+1:=by obtain⟨e,B,rfl⟩:=h;have:=(A.RA e B).1;exact⟨(e.id/2).toNat,by omega⟩
theorem ZK{g:Nat}(D:h.gs g=zo x)(B:x.q.l= [])(i:Nat)(k:Int):(h.unlink g).even i k↔h.even i k:=by
 unfold Hm.even;by_cases e:i=g
 .subst e;rw[Wa,D];constructor
  .rintro⟨_,h,_⟩;cases h
  .rintro⟨y,h,a,A,_⟩;cases h;rw[B]at A;cases A
 .rw[qL h e]
def Hm.cX(h:Hm)(l:List Pl)(g u:Nat)(by_:Int)(k:Nat)(y:Gr):Gr:=if RI l k g=zq then(if k=g then{ y with up:=(u:Int),deep:=y.deep+by_,own:={ y.own with v:=uP y.own.v (h.minOf y.up.toNat) (h.minOf u) } }else{ y with deep:=y.deep+by_ })else y
def Hm.mv(h:Hm)(l:List Pl)(g u:Nat)(by_:Int):Hm:={ h with gs:=fun k=>(h.gs k).map (h.cX l g u by_ k) }
theorem Mx{g:Nat}{by_:Int}{y:Gr}(A:h.gs k=zo y):(h.mv l g u by_).gs k=zo (h.cX l g u by_ k y):=by show(h.gs k).map _=_;rw[A];rfl
theorem Yv{g:Nat}{by_:Int}(A:(h.mv l g u by_).gs k=zo z):∃y,h.gs k=zo y/\z=h.cX l g u by_ k y:=by have A:(h.gs k).map _=zo z:=A;obtain⟨y,B,e⟩:=Option.map_eq_some_iff.1 A;exact⟨y,B,e.symm⟩
theorem Ii(h:Hm)(l:List Pl)(g u:Nat)(by_:Int)(k:Nat)(y:Gr):(h.cX l g u by_ k y).q=y.q/\(h.cX l g u by_ k y).on=y.on/\(h.cX l g u by_ k y).st=y.st:=by
 unfold Hm.cX;split
 .split<;>exact⟨rfl,rfl,rfl⟩
 .exact⟨rfl,rfl,rfl⟩
theorem LX(A:h.PD)(l:List Pl)(g u:Nat)(by_:Int):(h.mv l g u by_).PD:=fun k z H hk=>by obtain⟨y,E,rfl⟩:=Yv H;obtain⟨B,G,D⟩:=Ii h l g u by_ k y;unfold Gr.OQ;rw[B,G,D];exact A k y E hk
theorem LY(h:Hm)(l:List Pl)(g u:Nat)(by_:Int)(i:Nat)(k:Int):(h.mv l g u by_).even i k↔h.even i k:=by
 unfold Hm.even;constructor
 .rintro⟨z,D,A⟩;obtain⟨y,B,rfl⟩:=Yv D;rw[(Ii h l g u by_ i y).1]at A;exact⟨y,B,A⟩
 .rintro⟨y,B,A⟩;exact⟨_,Mx B,by rw[(Ii h l g u by_ i y).1];exact A⟩
structure Hm.On(h:Hm)(l:List Pl):Prop where
 tr:Tr l
 up:∀i x,h.gs i=zo x->i≠0->x.up=TA l i/\x.deep=dep l i
 cB:∀i x,h.gs i=zo x->bM l i
theorem Hm.On.SC(A:h.On l){i:Nat}(D:h.gs i=zo x)(B:i≠0)(g:Nat):RI l i g=(decide (g=i) || RI l (TA l i) g):=
 Go.Proofs.YtmpdpmhpkgbepaaGreatDoor.SC A.tr (A.cB i x D) B g
theorem Bz(B:Tr l){g:Nat}(A:bM l g):RI l g g=zq:=decide_eq_true (Sl B A)
section
variable {h : Hm} {l : List Pl} {g u : Nat} {x y : Gr} {by_ : Int}
theorem Xc{v:Nat}(A:RI l k g=zt):h.cX l g v by_ k z=z:=by unfold Hm.cX;rw[A];rfl
theorem Da(B:Tr l)(A:bM l g):h.cX l g u by_ g x={ x with up:=(u:Int),deep:=x.deep+by_,own:={ x.own with v:=uP x.own.v (h.minOf x.up.toNat) (h.minOf u) } }:=by unfold Hm.cX;rw[Bz B A,if_pos rfl,if_pos rfl]
theorem BO(hb:RI l k g=zq)(A:k≠g):h.cX l g u by_ k x={ x with deep:=x.deep+by_ }:=by unfold Hm.cX;rw[hb,if_pos rfl,if_neg A]
theorem Wb(hb:RI l k g=zq):(h.cX l g u by_ k x).deep=x.deep+by_:=by unfold Hm.cX;rw[hb,if_pos rfl];split<;>rfl
theorem Ij(A:k≠g):(h.cX l g u by_ k x).up=x.up/\(h.cX l g u by_ k x).own=x.own:=by unfold Hm.cX;rw[if_neg A];split<;>exact⟨rfl,rfl⟩
structure Hm.cY(h:Hm)(l:List Pl)(g u:Nat)(x y:Gr)(by_:Int):Prop where
 hk:h.Ok
 hf:h.PD
 ho:h.On l
 h0:g≠0
 hx:h.gs g=zo x
 hy:h.gs u=zo y
 hl:RI l u g=zt
 bX:by_=y.deep+1-x.deep
 hd:∀k z,h.gs k=zo z->RI l k g=zq->z.deep+by_<=8
 he:∀k z,h.gs k=zo z->RI l k g=zq->z.q.l= []
theorem Hm.cY.self(m:h.cY l g u x y by_):RI l g g=zq:=Bz m.ho.tr (m.ho.cB g x m.hx)
theorem Hm.cY.ok(m:h.cY l g u x y by_):(h.mv l g u by_).Ok:=by
 obtain⟨hk,t,I,X,J,j,C,bX,hd,L⟩:=m;have T:=Bz I.tr (I.cB g x J);have M:=GQ t X J (L g x J T);have h3:=(I.up g x J X).2;have h4:=(hk.deep u y j).1;refine⟨?_,?_,?_,?_,?_,?_,?_,?_⟩
 .obtain⟨r,F,K,s⟩:=hk.root;refine⟨_,Mx F,?_⟩;rw[Xc (by rw[vA];exact decide_eq_false X)];exact⟨K,s⟩
 .intro k z H;obtain⟨B,A,_⟩:=Yv H;exact hk.TG k B A
 .intro k z H E;obtain⟨B,A,rfl⟩:=Yv H;obtain⟨v,p,o,V,a⟩:=hk.up k B A E;have d:TA l k=v:=by have:=(I.up k B A E).1;omega
  have N:=I.SC A E g;rw[d]at N;cases hb:RI l k g with
  | false=>
   rw[hb]at N;have R:RI l v g=zt:=by
    cases R:RI l v g with
    | false=>rfl
    | true=>rw[R]at N;simp at N
   refine⟨v,p,?_,?_,?_⟩
   .rw[Xc hb];exact o
   .rw[Mx V,Xc R]
   .rw[Xc hb];exact a
  | true=>
   by_cases G:k=g
   .subst G;rw[J]at A;cases A;refine⟨u,y,?_,?_,?_⟩
    .rw[Da I.tr (I.cB k x J)]
    .rw[Mx j,Xc C]
    .rw[Wb hb];omega
   .rw[hb,decide_eq_false (fun e=>G e.symm),Bool.false_or]at N;refine⟨v,_,?_,Mx V,?_⟩
    .rw[(Ij G).1];exact o
    .rw[Wb hb,Wb N.symm];omega
 .intro k z H;obtain⟨B,A,rfl⟩:=Yv H;cases hb:RI l k g with
  | false=>rw[Xc hb];exact hk.deep k B A
  | true=>
   rw[Wb hb];refine⟨?_,hd k B A hb⟩;have h1:=I.tr.AQ (I.cB k B A) hb;have E:k≠0:=by rintro rfl;rw[vA]at hb;exact X (of_decide_eq_true hb)
   have h2:=(I.up k B A E).2;omega
 .intro k z H E;obtain⟨B,A,rfl⟩:=Yv H;obtain⟨Z,f⟩:=hk.own k B A E;by_cases G:k=g
  .subst G;rw[Da I.tr (I.cB k B A)];exact⟨⟨Z.id,Z.w,YY _ _,Z.rem⟩,f⟩
  .rw[(Ij G).2];exact⟨Z,f⟩
 .intro k z H;obtain⟨B,A,rfl⟩:=Yv H;rw[(Ii h l g u by_ k B).1];exact hk.q k B A
 .intro k z c H N;obtain⟨B,A,rfl⟩:=Yv H;rw[(Ii h l g u by_ k B).1]at N;obtain⟨Y,D,e⟩:=hk.eJ k B c A N;have O:c≠g:=by rintro rfl;rw[J]at D;cases D;have:=(hk.on k B c x A J e).1 N;rw[M]at this;cases this
  exact⟨_,Mx D,by rw[(Ij O).1];exact e⟩
 .intro k z c zc H b U;obtain⟨B,A,rfl⟩:=Yv H;obtain⟨Y,D,rfl⟩:=Yv b;rw[(Ii h l g u by_ k B).1,(Ii h l g u by_ c Y).2.1];by_cases O:c=g
  .subst O;rw[J]at D;cases D;rw[M];refine⟨fun n=>?_,fun e=>by cases e⟩;obtain⟨Y,D,e⟩:=hk.eJ k B c A n;rw[J]at D;cases D;have:=(hk.on k B c x A J e).1 n;rw[M]at this;exact this
  .rw[(Ij O).1]at U;exact hk.on k B c Y A D U
end
theorem Hm.cY.on{c:List Pl}{g:Nat}{y:Gr}{by_ I:Int}{qh qp:Pl}(m:h.cY l g u x y by_)(t:Oo l g u qh qp I)(J:Yc l (AH g u qp.gen I) (uJ l g) c)(h6:I=by_):(h.mv l g u by_).On c:=by
 have N:=J.alike (Jr g u qp.gen I);refine⟨t.gU J,?_,?_⟩
 .intro i z M U;obtain⟨G,A,rfl⟩:=Yv M;obtain⟨q,D,E⟩:=m.ho.cB i G A;obtain⟨O,R⟩:=m.ho.up i G A U;have H:=t.get J D E;have h5:=m.ho.tr.dp D E;cases hb:RI l i g with
  | false=>
   rw[hb]at H;have B:i≠g:=by rintro rfl;rw[m.self]at hb;cases hb
   rw[Xc hb];refine⟨by rw[t.gV J D E B];exact O,?_⟩;rw[R];unfold dep;rw[xD D,xD H];rfl
  | true=>
   rw[hb,if_pos rfl]at H;refine⟨?_,?_⟩
   .by_cases B:i=g
    .subst B;rw[Da m.ho.tr (m.ho.cB i G A)];unfold TA;rw[xD H];simp[AH]
    .rw[(Ij B).1,t.gV J D E B];exact O
   .rw[Wb hb];have h1:=m.ho.tr.AQ ⟨q,D,E⟩ hb;have h2:=(m.hk.deep u y m.hy).1;have h3:=(m.ho.up g x m.hx m.h0).2;have h4:=m.bX;unfold dep;rw[xD H];show G.deep+by_=((q.x.dp+I).toNat:Nat)
    omega
 .intro i z M;obtain⟨G,A,rfl⟩:=Yv M;obtain⟨q,D,E⟩:=m.ho.cB i G A;obtain⟨q',T,g2,V,_⟩:=N.get D;exact⟨q',T,by rw[V];exact E⟩
end Go.Proofs.YtmpdpmhpkgbepaaGreatDoor
namespace Go.Proofs.YtmpdpmhpkgbepaaGreatDoor
open Go Go.RowKit Go.ChangeShapes Go.WideShapes
attribute [local go_sem ↓] Go.wp_at_zero Go.wp_at_succ
theorem Ik(k g:Nat)(l:List Pl)(x:Gr)(w:World)(F:Nat->Prop)(p:Nat)(h:Hm)(ps:Nat->Option Nat)(qs tg:Nat->Nat)(hs:HS w F p h ps qs tg)(hk:h.Ok)(t:h.On l)(C:h.gs k=zo x):
 Calls prog 129 #[ze (zo ⟨p,0,zp⟩),.int .i64 k,.int .i64 g] w fun z w'=>z=.returned (.bool (RI l k g))/\w'=w:=by
 obtain⟨M,V,I,HX⟩:=Qf hs hk t C;obtain⟨r,d⟩:=yB (RI l k g)
 have HR:=yw d;rw[<-d];have h7:=hs.hx.lt;clear hs hk t C d;go_enter func129,ntmps129;go_wp2_with fail;go_loopg [1] (dep l k+1) (fun m i wr=>wr=w/\((i=.int .i64 (-1)/\r=zt)∨∃(c:Nat) (z:Gr),h.gs c=zo z/\i=.int .i64 c/\RI l c g=r/\dep l c<m))
 case atStart=>exact⟨rfl,.inr ⟨k,x,HX.out,rfl,HR.out.symm,by omega⟩⟩
 case round=>
  obtain⟨rfl,⟨rfl,N⟩|⟨c,z,A,rfl,H,U⟩⟩:=hrel
  .have E:=yw N;clear N;go_wp2;go_ret;rw[E.out];exact⟨rfl,rfl⟩
  .obtain⟨HZ,HU,j⟩:=Qe A H U;have hc:=V.out.TG c z A;have h6:(0:Int)<=c:=by omega
   have h8:(c:Int) <32:=by omega
   have h5:((c:Int) != -1)=zq:=bne_iff_ne.2 (by omega);by_cases B:c=g
   .have HE:Hid (r=zq):=yw (by rw[<-H,B];rw[B]at A;exact Bz I.out.tr (I.out.cB g z A));have hb:((c:Int) == (g:Int))=zq:=by simp;omega
    clear A H U B;go_wp2;go_ret;rw[HE.out];exact⟨rfl,rfl⟩
   .have hb:((c:Int) == (g:Int))=zt:=by simp;omega
    obtain⟨b,a,S,v,Y⟩:=M.out.PJ A;have T:=M.out.hx.at hc;rw[a]at T;obtain⟨s,L,f,K,Q,W,o,n,d8⟩:=Y.c9;simp only[zA]at T;by_cases D:c=0
    .obtain⟨q,hq,R,_⟩:=V.out.root;have O:z.up= -1:=by rw[D,hq]at A;obtain rfl:=Option.some.inj A;exact R
     have E:Hid (r=zt):=yw (by rw[<-H,D,vA];exact decide_eq_false (by omega));rw[O]at s;clear A H U B a S v Y L f K Q W o n d8 hq R O D;go_wp2_with fail;go_roundg 0
     case measure=>have:=j.out;omega
     case rel=>exact⟨rfl,.inl ⟨rfl,E.out⟩⟩
    .obtain⟨u,y,J,P,hd⟩:=V.out.up c z A D;have Z:=I.out.up c z A D;have G:TA l c=u:=by omega
     have X:Hid (RI l u g=r):=yw (by rw[<-H,I.out.SC A D g,G,decide_eq_false (fun e=>B e.symm),Bool.false_or]);have HY:=yw P;have HD:Hid (dep l u<dep l c):=yw (by have:=(I.out.tr.up (I.out.cB c z A) D).2;rw[G]at this;omega);rw[J]at s;clear A H U B a S v Y L f K Q W o n d8 J P hd Z G D;go_wp2_with fail;go_roundg (dep l c)
     case measure=>exact j.out
     case rel=>exact⟨rfl,.inr ⟨u,y,HY.out,rfl,X.out,HD.out⟩⟩
def BS(f:Nat->Option Nat)(g:Nat):Nat->Option Nat:=fun k=>if k=g then zp else f k
theorem TW.subG{w:World}{p:Nat}{credit gran:Int}{ps:Nat->Option Nat}(h:TW w p credit gran ps){g:Nat}(hg:g<32):TW (w.setCell ⟨p,2+g,zp⟩ (ze zp)) p credit gran (BS ps g):=by
 obtain⟨cs,D⟩:=h.ty;have A:=yD (i:=2+g) (u:=ze zp) D;refine⟨⟨_,A⟩,?_,?_,?_⟩
 .rw[zB _ _ _ _ (by simp)];exact h.c0
 .rw[zB _ _ _ _ (by intro e;injection e with e1 e2;omega)];exact h.c1
 .intro k hk;unfold BS;by_cases e:k=g
  .subst e;rw[Nat.add_comm k 2,World.cell?_setCell_same _ _ _ (h.at hk)];simp
  .rw[zB _ _ _ _ (by intro B;injection B with e1 e2;omega),if_neg e];exact h.cs k hk
theorem HS.sub{w:World}{F:Nat->Prop}{p:Nat}{h:Hm}{ps:Nat->Option Nat}{H G:Nat->Nat}(hs:HS w F p h ps H G){g:Nat}(J:g<32):HS (w.setCell ⟨p,2+g,zp⟩ (ze zp)) F p (h.unlink g) (BS ps g) H G:=by
 have A:∀k,k≠p->(w.setCell ⟨p,2+g,zp⟩ (ze zp)).heap[k]?=w.heap[k]?:=fun k hk=>Below.heap_setCell _ _ _ _ (by exact hk);refine⟨hs.hx.subG J,?_,?_,?_,hs.fp,hs.tp⟩
 .intro k hk;unfold BS;by_cases e:k=g
  .rw[if_pos e]
  .rw[if_neg e];rw[qL h e]at hk;exact hs.eK k hk
 .intro k z D;obtain⟨e,D⟩:=xU D;obtain⟨c,M,I,U,E,N⟩:=hs.gx k z D;refine⟨c,by unfold BS;rw[if_neg e];exact M,I,U,E.of (A c fun O=>hs.hx.fN E O.symm),N.kept fun j hj T=>A j ?_⟩;rintro rfl;have V:=T.2;rw[hs.tp]at V;omega
 .intro k R c hk B;unfold BS at hk B;split at hk
  .cases hk
  .split at B
   .cases B
   .exact hs.inj k R c hk B
abbrev grv(x:Option Nat):Value:=ze (x.map fun b=>⟨b,0,zp⟩)
theorem harr(w:World)(s:Nat)(fn:Nat->Value)(h:∀i,i<32->w.cell? ⟨s,2+i,zp⟩=zo (fn i)):(Go.Instr.loadAt 150 (ze (zo ⟨s,2,zp⟩))).run prog w=.ok (.agg ((yi 32).map fn).toArray) w:=by
 have D:=run_loadCells (P:=prog) w ⟨s,2,zp⟩ 32 fn (fun j A=>by rw[show(⟨s,2,zp⟩:Addr).add j=⟨s,2+j,zp⟩by unfold Addr.add;split<;>simp_all];exact h j A);have G:(isAgg 150).run prog w=.ok zq w:=by simp[isAgg,go_sem]
 have B:(sizeOf 150).run prog w=.ok 32 w:=by
  simp[sizeOf,go_sem]
  kernel_rfl
 have E:(Go.Instr.sureAddr (ze (zo ⟨s,2,zp⟩))).run prog w=.ok ⟨s,2,zp⟩ w:=by simp[Go.Instr.sureAddr,go_sem]
 unfold Go.Instr.loadAt;rw[Sem.run_bind,E];unfold loadVar;simp only[Result.andThen];rw[Sem.run_bind,G];simp only[Result.andThen,if_true];rw[Sem.run_bind,B];simp only[Result.andThen];rw[Sem.run_bind,D];simp[Result.andThen,go_sem]
theorem MB(A:Array Value)(k:Nat)(v:Value)(h:A[k]?=zo v)(hk:k<32)(W:World):(Go.Instr.index 150 (.agg A) (.int .i64 (k:Nat))).run prog W=.ok v W:=by
 have B:(0:Int)<=k:=by omega
 simp[Go.Instr.index,go_sem,h,B];intro h3;omega
theorem ZN(g:Nat)(w:World)(F:Nat->Prop)(p:Nat)(h:Hm)(x:Gr)(W:yT w F p h)(T:h.gs g=zo x)(h0:g≠0)(he:x.q.l= [])(R:x.on=zt)(B:∀c y,h.gs c=zo y->y.up≠g):
 Calls prog 77 #[ze (zo ⟨p,0,zp⟩),.int .i64 g] w fun z w'=>z=.returned (.int .i64 0)/\qv w F p (h.unlink g) w':=by
 have Y:=yw (Mv W.2 h0 T R B);obtain⟨⟨ps,qs,tg,hs⟩,I⟩:=W;have m:=I.TG g x T;obtain⟨D,ha,X⟩:=Qe hs I B;obtain⟨b,h1,h2,h3,h4⟩:=hs.PJ T;have L:=yw (vO w p g h.credit h.gran ps hs.hx m h0);rw[h1]at L;simp only[zA]at L;have HQ:=yw (hs.RT T);have HG:=yw h4;have K:Hid (x.q.l.length=0):=yw (by rw[he];rfl);obtain⟨fn,N⟩:∃fn:Nat->Value,fn=fun i=>grv (ps i):=⟨_,rfl⟩
 have P:=yw N;have H:=harr w p fn (fun i hi=>by rw[N];exact hs.hx.at hi);obtain⟨O,J⟩:=yB (((yi 32).map fn).toArray)
 have r:Hid (∀k,k<32->O[k]?=zo (fn k)):=yw (by rw[J];exact Pm fn);rw[<-J]at H;have u:=yw H;have V:=hs.hx.lt;have h7:(0:Int)<=g:=by omega
 have hc:(g:Int) <32:=by omega
 clear H J N hs I T he R B h1 h2 h3 h4;go_enter func77,ntmps77;go_wp2_with fail;refine L.out.mono ?_;rintro z w2 ⟨rfl,hw⟩;obtain rfl:=hw.symm;go_wp2_with (refine uO w rfl 150 (.tmp 15) rfl (ze (zo ⟨p,2,zp⟩)) _ rfl u.out ?_);go_loopw [7,17] (fun _ i wr=>∃(k:Nat),k<=32/\i=.int .i64 k/\wr=w) (fun _ i _=>32-(intOf i).toNat)
 case atStart=>exact⟨0,by omega,rfl,rfl⟩
 case round=>
  obtain⟨k,hk,rfl,t⟩:=hrel;subst t;by_cases G:k<32
  .have h9:(k:Int) <32:=by omega
   have A:=r.out k G;rw[P.out]at A;cases hgk:h.gs k with
   | none=>
    have U:=D.out.eK k hgk;simp only[U,grv,Option.map_none]at A;have Z:=MB O k _ A G;clear A hgk U;go_wp2_with fail;go_roundw
    case rel=>exact⟨k+1,by omega,by go_num,trivial⟩
    case measure=>simp[intOf];omega
   | some z=>
    obtain⟨c,k1,k2,k3,k4⟩:=D.out.PJ hgk;simp only[k1,grv,zA]at A;have Z:=MB O k _ A G;obtain⟨S,n,a,j,s,C,f,d,Q⟩:=k4.c9;have h5:(z.up == (g:Int))=zt:=beq_eq_false_iff_ne.2 (X.out k z hgk);clear A hgk k1 k2 k3 k4 n a j s C f d Q;go_wp2_with fail;go_roundw
    case rel=>exact⟨k+1,by omega,by go_num,trivial⟩
    case measure=>simp[intOf];omega
  .have o:k=32:=by omega
   subst o;obtain⟨S,n,a,j,s,C,f,d,Q⟩:=HG.out.c9;clear S n j s C f d Q;go_wp2_with fail;refine(un wr _ _ x.q HQ.out).mono ?_;rintro z w3 ⟨⟨ea,ec,rfl⟩,M⟩;have v:=yw M;have E:=yw (D.out.kept (.NZ M));rw[K.out];have h6:=E.out.hx.at m;have h8:=E.out.hx.OH;clear a V;have V:=E.out.hx.lt;clear M;go_wp2;go_ret;refine⟨rfl,⟨⟨_,_,_,(E.out.sub m).mono fun k _ hf=>.inl hf⟩,Y.out⟩,?_⟩;exact(OA.NZ v.out:OA F wr w3).setCell (.inl D.out.fp) _
